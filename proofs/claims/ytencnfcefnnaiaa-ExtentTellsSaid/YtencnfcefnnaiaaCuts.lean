/-
  The walk of ExtentCuts over the contracts of extent, and the plain facts on cutting; condition: lengths as the form has them.
-/
import Derived.Test.YtencnfcefnnaiaaApart
namespace Go.Proofs.Ytencnfcefnnaiaa
open Go.RowKit

theorem truncF_ok (d : ByteArray) (n : Nat) (hn : n ≤ 64) (hd : d.size ≤ 64) : truncF d n = (⟨(fit d.data.toList n).toArray⟩, 0) := by
  unfold truncF
  rw [if_neg (by omega), if_neg (by omega), Int.toNat_natCast]

theorem fit_fit (l : List UInt8) (n : Nat) : fit (fit l n) n = fit l n := by
  unfold fit
  have e : (l.take n ++ List.replicate (n - l.length) 0).length = n := fit_length l n
  rw [e, Nat.sub_self, List.take_of_length_le (by omega)]
  simp

theorem fit_all (l : List UInt8) (n i : Nat) : (fit l n)[i]? = if i < n then some (l[i]?.getD 0) else none := by
  by_cases h : i < n
  · rw [if_pos h, fit_get l n i h]
  · rw [if_neg h, List.getElem?_eq_none (by rw [fit_length]; omega)]

theorem cuts_zero (l : List UInt8) (m n i : Nat) (hi : i < n) (hm : m ≤ i ∨ l.length ≤ i) : (fit (fit l m) n)[i]? = some 0 := by
  rw [fit_get _ _ _ hi, fit_all]
  split
  · rw [List.getElem?_eq_none (by omega)]; rfl
  · rfl

theorem readF_zero (d : ByteArray) (n : Nat) (h : n ≤ d.size) : readF d 0 n = ⟨(d.data.toList.take n).toArray⟩ := by
  unfold readF
  by_cases h0 : n = 0
  · subst h0; rw [if_pos (by omega)]; simp
  · rw [if_neg (by omega), show (min (n : Int) ((d.size : Int) - 0)).toNat = n from by omega]
    apply ByteArray.ext
    rw [ByteArray.data_extract]
    apply Array.ext'
    simp [Array.toList_extract, List.extract]

theorem readF_zero' (d : ByteArray) (n : Nat) (h : n = 0 ∨ n ≤ d.size) : readF d 0 n = ⟨(d.data.toList.take n).toArray⟩ := by
  rcases h with rfl | h
  · exact readF_zero d 0 (Nat.zero_le _)
  · exact readF_zero d n h

theorem cuts_read (d y : ByteArray) (m n low : Nat) (hy : y.data.toList = fit (fit d.data.toList m) n) (hl : low = min (min m n) d.size) : readF y 0 low = readF d 0 low := by
  have hys : y.size = n := by rw [← tolen, hy, fit_length]
  rw [readF_zero y low (by omega), readF_zero d low (by omega), hy]
  congr 1
  apply Array.ext'
  apply List.ext_getElem?
  intro i
  simp only [List.getElem?_take]
  by_cases h : i < low
  · rw [if_pos h, if_pos h, fit_all, if_pos (by omega), fit_all, if_pos (by omega)]
    have : i < d.data.toList.length := by rw [tolen]; omega
    rw [List.getElem?_eq_getElem this]; rfl
  · rw [if_neg h, if_neg h]

theorem write_head (d s : ByteArray) (hd : d.size ≤ 64) (hs : s.size ≤ 64) (h0 : 0 < s.size) : ∃ p, writeF d 0 s = (p, 0) ∧ p.size ≤ 64 := by
  have hne : ¬ s.data.toList = [] := fun h => by have := tolen s; rw [h] at this; simp only [List.length_nil] at this; omega
  have e : writeF d 0 s = ((writeF d 0 s).1, 0) := by
    unfold writeF
    rw [if_neg (fun h => h.elim (by omega) hne), if_neg (show ¬((64 : Int) < 0 ∨ (64 : Int) - 0 < s.size ∨ 64 < d.size) by omega)]
  exact ⟨_, e, writeF_small d s 0 hd⟩

theorem cuts_twice {d s p q : ByteArray} (h1 : writeF d 0 s = (p, 0)) (h2 : writeF p 0 s = (q, 0)) : p = q := by
  apply bytes_ext
  intro j
  obtain ⟨_, _, _, _, _, _, q1⟩ := writeF_ok h1
  rw [write_get h2]
  by_cases c : (0 : Int) ≤ j ∧ (j : Int) < 0 + s.size
  · rw [if_pos c, write_get h1, if_pos c]
  · rw [if_neg c]
    by_cases c2 : j < max p.size ((0 : Int).toNat + s.size)
    · have : j < p.data.toList.length := by rw [tolen]; omega
      rw [if_pos c2, List.getElem?_eq_getElem this]; rfl
    · rw [if_neg c2, List.getElem?_eq_none (by rw [tolen]; omega)]

set_option maxHeartbeats 1000000 in
theorem cuts_core (d : ByteArray) (a b : Int) (s : ByteArray) (m n : Nat) (w : World) (ha : 0 ≤ a ∧ a ≤ 255) (hb : 0 ≤ b ∧ b ≤ 255) (hm : a % 65 = m) (hn : b % 65 = n)
    (hd : d.size ≤ 64) (hs : s.size ≤ 64) (h0 : 0 < s.size) :
    Calls Try.prog 6 #[.string d, .int .u8 a, .int .u8 b, .string s] w (TrueB w) := by
  have hm64 : m ≤ 64 := by omega
  have hn64 : n ≤ 64 := by omega
  obtain ⟨x, hx⟩ : ∃ x : ByteArray, x = ⟨(fit d.data.toList m).toArray⟩ := ⟨_, rfl⟩
  have xs : x.size = m := by rw [hx, bsize, fit_length]
  have xl : x.data.toList = fit d.data.toList m := by rw [hx]
  obtain ⟨y, hy⟩ : ∃ y : ByteArray, y = ⟨(fit x.data.toList n).toArray⟩ := ⟨_, rfl⟩
  have ys : y.size = n := by rw [hy, bsize, fit_length]
  have yl : y.data.toList = fit (fit d.data.toList m) n := by rw [hy, xl]
  have t1 : truncF d m = (x, 0) := by rw [hx]; exact truncF_ok d m hm64 hd
  have t2 : truncF x n = (y, 0) := by rw [hy]; exact truncF_ok x n hn64 (by omega)
  have t3 : truncF y n = (y, 0) := by
    rw [truncF_ok y n hn64 (by omega)]
    have : fit y.data.toList n = y.data.toList := by rw [yl, fit_fit]
    rw [this]
  obtain ⟨low, hlow⟩ : ∃ low, low = min (min m n) d.size := ⟨_, rfl⟩
  have hz : ∀ j (hj : j < y.size), low ≤ j → y[j] = 0 := by
    intro j hj hl
    have h := cuts_zero d.data.toList m n j (by omega) (by rw [tolen]; omega)
    rw [← yl, List.getElem?_eq_getElem (by rw [tolen]; exact hj)] at h
    exact Option.some.inj h
  have hr := cuts_read d y m n low yl hlow
  obtain ⟨p, hp, ps⟩ := write_head d s hd hs h0
  obtain ⟨q, hq, qs⟩ := write_head p s ps hs h0
  obtain rfl := cuts_twice hp hq
  have hlm : min (min (m : Int) n) d.size = (low : Int) := by omega
  have M := Lib.hid (show d.size ≤ maxLen ∧ s.size ≤ maxLen ∧ x.size ≤ maxLen ∧ y.size ≤ maxLen ∧ p.size ≤ maxLen by unfold maxLen; omega)
  have T1 := Lib.hid t1
  have T2 := Lib.hid t2
  have T3 := Lib.hid t3
  have P1 := Lib.hid hp
  have P2 := Lib.hid hq
  have R := Lib.hid hr
  have HZ := Lib.hid hz
  have q1 : (y.toList == y.toList) = true := by simp
  have q2 : (p.toList == p.toList) = true := by simp
  have q3 : ((readF d 0 low).toList == (readF d 0 low).toList) = true := by simp
  have hln : low ≤ n := by omega
  have XS := Lib.hid xs
  have YS := Lib.hid ys
  have e4 : ((s.size : Int) == 0) = false := by rw [beq_eq_false_iff_ne]; omega
  clear hx xl hy yl t1 t2 t3 hp hq hr hz hlow xs ys
  go_enter Try.func6, Try.ntmps6
  go_wp2_with (go_at_call 7; refine (shown_any _).mono ?_; rintro e w1 ⟨rfl, hB⟩)
  refine (trunc_is T1.out _ M.out.1).mono ?_; rintro e w2 ⟨rfl, hB2⟩
  go_wp2_with fail
  refine (trunc_is T2.out _ M.out.2.2.1).mono ?_; rintro e w3 ⟨rfl, hB3⟩
  go_wp2_with fail
  refine (trunc_is T3.out _ M.out.2.2.2.1).mono ?_; rintro e w4 ⟨rfl, hB4⟩
  go_wp2_with fail
  go_loop [19] (fun v => ∃ j : Nat, low ≤ j ∧ j ≤ n ∧ v = .int .i64 j) (fun v => n - (intOf v).toNat)
  case atStart => exact ⟨low, Nat.le_refl _, hln, rfl⟩
  case round =>
    obtain ⟨j, hj1, hj2, rfl⟩ := hrel
    by_cases hlt : j < n
    · have hjy : j < y.size := by rw [YS.out]; exact hlt
      have hzj := HZ.out j hjy hj1
      go_wp2
      go_round
      case rel => exact ⟨j + 1, by omega, by omega, by go_num⟩
      case measure => simp [intOf]; omega
    · have xs := XS.out
      have ys := YS.out
      go_wp2_with fail
      refine (write_is P1.out _ M.out.1 M.out.2.1).mono ?_; rintro e w5 ⟨rfl, hB5⟩
      go_wp2_with fail
      refine (write_is P2.out _ M.out.2.2.2.2 M.out.2.1).mono ?_; rintro e w6 ⟨rfl, hB6⟩
      go_wp2_with fail
      refine (read_is R.out _ M.out.2.2.2.1 (by omega)).mono ?_; rintro e w7 ⟨rfl, rfl⟩
      go_wp2_with fail
      refine (read_any d 0 low _ M.out.1 (by omega)).mono ?_; rintro e w8 ⟨rfl, rfl⟩
      go_wp2
      go_ret
      refine ⟨rfl, ?_⟩
      exact (below5 hB hB2 hB3 hB4 hB5).trans (hB6.mono (below5 hB hB2 hB3 hB4 hB5).size)

set_option maxHeartbeats 400000 in
theorem cuts_other (d : ByteArray) (a b : Int) (s : ByteArray) (w : World) (hd : d.size ≤ 140737488351232) (hs : s.size ≤ 140737488351232) (h : ¬ (d.size ≤ 64 ∧ s.size ≤ 64 ∧ 0 < s.size)) :
    Calls Try.prog 6 #[.string d, .int .u8 a, .int .u8 b, .string s] w (TrueB w) := by
  by_cases c1 : 64 < d.size
  · clear h
    go_enter Try.func6, Try.ntmps6
    go_wp2_with (go_at_call 7; refine (shown_any _).mono ?_; rintro e w1 ⟨rfl, hB⟩)
    go_ret
    exact ⟨rfl, hB⟩
  by_cases c2 : 64 < s.size
  · clear h
    go_enter Try.func6, Try.ntmps6
    go_wp2_with (go_at_call 7; refine (shown_any _).mono ?_; rintro e w1 ⟨rfl, hB⟩)
    go_ret
    exact ⟨rfl, hB⟩
  have c3 : s.size = 0 := by omega
  clear h hs
  go_enter Try.func6, Try.ntmps6
  go_wp2_with (go_at_call 7; refine (shown_any _).mono ?_; rintro e w1 ⟨rfl, hB⟩)
  go_ret
  exact ⟨rfl, hB⟩

theorem cuts_walk (a0 : ByteArray) (a1 : Int) (a2 : Int) (a3 : ByteArray) (w : World) (w0 : a0.size ≤ 140737488351232) (w1 : (Lit.int .u8 a1).wf = true) (w2 : (Lit.int .u8 a2).wf = true) (w3 : a3.size ≤ 140737488351232) :
    Calls Try.prog 6 #[.string a0, .int .u8 a1, .int .u8 a2, .string a3] w fun e w' => e = .returned (.bool true) ∧ Below w.heap.size w w' := by
  by_cases h : a0.size ≤ 64 ∧ a3.size ≤ 64 ∧ 0 < a3.size
  · have h1 := wf_u8 w1
    have h2 := wf_u8 w2
    exact cuts_core a0 a1 a2 a3 (a1 % 65).toNat (a2 % 65).toNat w h1 h2 (by omega) (by omega) h.1 h.2.1 h.2.2
  · exact cuts_other a0 a1 a2 a3 w w0 w3 h
end Go.Proofs.Ytencnfcefnnaiaa
