/-
  The walk of ExtentKeeps over the contracts of extent, and the plain facts on bytes that it rests on; condition: lengths as the form has them.
-/
import Derived.Test.YtencnfcefnnaiaaExt
namespace Go.Proofs.Ytencnfcefnnaiaa
open Go.RowKit

theorem bsize (l : List UInt8) : (⟨l.toArray⟩ : ByteArray).size = l.length := by show l.toArray.size = _; simp
theorem tolen (s : ByteArray) : s.data.toList.length = s.size := by rw [Array.length_toList]; rfl

/-- what a write that tells no error gives -/
theorem writeF_ok {d s a : ByteArray} {off : Int} (h : writeF d off s = (a, 0)) :
    0 ≤ off ∧ off ≤ 64 ∧ 0 < s.size ∧ off.toNat + s.size ≤ 64 ∧ d.size ≤ 64 ∧ a.data.toList = splice (fit d.data.toList (max d.size (off.toNat + s.size))) off.toNat s.data.toList ∧ a.size = max d.size (off.toNat + s.size) := by
  unfold writeF at h
  split at h
  · exact absurd (congrArg Prod.snd h) (by simp)
  rename_i h1
  split at h
  · exact absurd (congrArg Prod.snd h) (by simp)
  rename_i h2
  have hs : 0 < s.size := Nat.pos_of_ne_zero (fun h0 => h1 (.inr (List.eq_nil_of_length_eq_zero (by rw [tolen]; exact h0))))
  have ha : a = ⟨(splice (fit d.data.toList (max d.size (off.toNat + s.size))) off.toNat s.data.toList).toArray⟩ := (congrArg Prod.fst h).symm
  have h1' : 0 ≤ off := by omega
  have hl : (splice (fit d.data.toList (max d.size (off.toNat + s.size))) off.toNat s.data.toList).length = max d.size (off.toNat + s.size) := by
    rw [length_splice _ _ _ (by rw [fit_length, tolen]; omega), fit_length]
  refine ⟨h1', by omega, hs, by omega, by omega, by rw [ha], ?_⟩
  rw [ha, bsize, hl]

theorem writeF_bad {d s : ByteArray} {off : Int} (h : (writeF d off s).2 ≠ 0) : writeF d off s = (d, 1) ∨ writeF d off s = (d, 11) := by
  unfold writeF at h ⊢
  split
  · exact .inl rfl
  · rename_i h1
    rw [if_neg h1] at h
    split
    · exact .inr rfl
    · rename_i h2
      rw [if_neg h2] at h
      exact absurd rfl h

/-- a byte of a string, as Read tells it: one at most -/
theorem readF_one (d : ByteArray) (k : Nat) : readF d k 1 = ⟨(d.data.toList[k]?.toList).toArray⟩ := by
  unfold readF
  by_cases h : (d.size : Int) ≤ k
  · rw [if_pos (by omega), List.getElem?_eq_none (by rw [tolen]; omega)]; rfl
  · rw [if_neg (by omega)]
    have hk : k < d.data.toList.length := by rw [tolen]; omega
    rw [List.getElem?_eq_getElem hk, show (min (1 : Int) ((d.size : Int) - (k : Int))).toNat = 1 from by omega]
    apply ByteArray.ext
    rw [ByteArray.data_extract]
    apply Array.ext'
    simp only [Int.toNat_natCast, Array.toList_extract, List.extract, Option.toList]
    rw [show k + 1 - k = 1 from by omega, List.drop_eq_getElem_cons hk]
    rfl

theorem fit_get (l : List UInt8) (n i : Nat) (h : i < n) : (fit l n)[i]? = some (l[i]?.getD 0) := by
  unfold fit
  by_cases hi : i < l.length
  · rw [List.getElem?_append_left (by simp; omega), List.getElem?_take_of_lt h]; simp [hi]
  · rw [List.getElem?_append_right (by simp; omega), List.getElem?_eq_none (l := l) (by omega)]
    simp only [List.length_take, List.getElem?_replicate, Option.getD_none]
    rw [if_pos (by omega)]

theorem splice_get {α : Type} (L : List α) (off : Nat) (cs : List α) (i : Nat) (hf : off + cs.length ≤ L.length) :
    (splice L off cs)[i]? = if off ≤ i ∧ i < off + cs.length then cs[i - off]? else L[i]? := by
  unfold splice
  by_cases h1 : i < off
  · rw [List.getElem?_append_left (by simp; omega), List.getElem?_take_of_lt h1, if_neg (by omega)]
  · rw [List.getElem?_append_right (by simp; omega)]
    simp only [List.length_take, Nat.min_eq_left (show off ≤ L.length by omega)]
    by_cases h2 : i < off + cs.length
    · rw [List.getElem?_append_left (by omega), if_pos ⟨by omega, h2⟩]
    · rw [List.getElem?_append_right (by omega), if_neg (by omega), List.getElem?_drop]
      congr 1; omega

/-- the byte that a write leaves at each place -/
theorem write_get {d s a : ByteArray} {off : Int} (h : writeF d off s = (a, 0)) (i : Nat) :
    a.data.toList[i]? = if off ≤ i ∧ (i : Int) < off + s.size then s.data.toList[i - off.toNat]? else if i < max d.size (off.toNat + s.size) then some (d.data.toList[i]?.getD 0) else none := by
  obtain ⟨h0, h1, h2, h3, h4, h5, h6⟩ := writeF_ok h
  rw [h5, splice_get _ _ _ _ (by rw [fit_length, tolen]; omega), tolen]
  by_cases hc : off ≤ i ∧ (i : Int) < off + s.size
  · rw [if_pos hc, if_pos (by omega)]
  · rw [if_neg hc, if_neg (by omega)]
    by_cases hi : i < max d.size (off.toNat + s.size)
    · rw [if_pos hi, fit_get _ _ _ hi]
    · rw [if_neg hi, List.getElem?_eq_none (by rw [fit_length]; omega)]

/-- what was written is read -/
theorem write_read {d s a : ByteArray} {off : Int} (h : writeF d off s = (a, 0)) : readF a off s.size = s := by
  obtain ⟨h0, h1, h2, h3, h4, h5, h6⟩ := writeF_ok h
  unfold readF
  rw [if_neg (by omega), show (min (s.size : Int) ((a.size : Int) - off)).toNat = s.size from by omega]
  apply ByteArray.ext
  rw [ByteArray.data_extract]
  apply Array.ext'
  rw [Array.toList_extract, h5]
  simp only [List.extract, splice]
  rw [List.drop_left' (by rw [List.length_take, fit_length]; omega)]
  rw [show off.toNat + s.size - off.toNat = s.data.toList.length by rw [tolen]; omega, List.take_left' rfl]

theorem keeps_byte {d s a : ByteArray} {off : Int} (h : writeF d off s = (a, 0)) (k : Nat) (hk : (k : Int) < off ∨ off + s.size ≤ k) :
    readF a k 1 = if (d.size : Int) ≤ k ∧ (k : Int) < off then ⟨#[0]⟩ else readF d k 1 := by
  obtain ⟨h0, h1, h2, h3, h4, h5, h6⟩ := writeF_ok h
  rw [readF_one, readF_one, write_get h, if_neg (by omega)]
  by_cases hc : (d.size : Int) ≤ k ∧ (k : Int) < off
  · rw [if_pos hc, if_pos (by omega), List.getElem?_eq_none (by rw [tolen]; omega)]; rfl
  · rw [if_neg hc]
    by_cases hi : k < d.size
    · have hk' : k < d.data.toList.length := by rw [tolen]; exact hi
      rw [if_pos (by omega), List.getElem?_eq_getElem hk']; rfl
    · rw [if_neg (by omega), List.getElem?_eq_none (by rw [tolen]; omega)]

theorem str_eq_self (s : ByteArray) : (s.toList == s.toList) = true := by simp

set_option maxHeartbeats 1000000 in
theorem keeps_any (d : ByteArray) (off : Int) (s : ByteArray) (k : Nat) (w : World) (hd : d.size ≤ maxLen) (hs : s.size ≤ maxLen) (hk : k ≤ 255) :
    Calls Try.prog 3 #[.string d, .int .i64 off, .string s, .int .u8 k] w fun e w' => e = .returned (.bool true) ∧ Below w.heap.size w w' := by
  by_cases c1 : 2000 < d.size
  · unfold maxLen at hd
    go_enter Try.func3, Try.ntmps3
    go_wp2_with (go_at_call 7; refine (shown_any _).mono ?_; rintro e w1 ⟨rfl, hB⟩)
    go_ret
    exact ⟨rfl, hB⟩
  by_cases c2 : 2000 < s.size
  · unfold maxLen at hs
    go_enter Try.func3, Try.ntmps3
    go_wp2_with (go_at_call 7; refine (shown_any _).mono ?_; rintro e w1 ⟨rfl, hB⟩)
    go_ret
    exact ⟨rfl, hB⟩
  by_cases c3 : (writeF d off s).2 = 0
  · obtain ⟨a, ha⟩ : ∃ a, writeF d off s = (a, 0) := ⟨(writeF d off s).1, by rw [← c3]⟩
    obtain ⟨h0, h1, h2, h3, h4, h5, h6⟩ := writeF_ok ha
    have hr1 := write_read ha
    have hkeep := keeps_byte ha k
    have hdl : d.size ≤ maxLen := hd
    have hsl : s.size ≤ maxLen := hs
    have hal : a.size ≤ maxLen := by unfold maxLen; omega
    have hmx : max (d.size : Int) (off + s.size) = (a.size : Int) := by omega
    have ha64 : a.size ≤ 64 := by omega
    clear c3 h5 h6
    have HD := Lib.hid hd
    have HS := Lib.hid hs
    have HA := Lib.hid hal
    have HW := Lib.hid ha
    have HR := Lib.hid hr1
    clear hd hs hdl hsl hal ha hr1
    have c6 : (s.toList == s.toList) = true := str_eq_self s
    by_cases c4 : (k : Int) < off
    · have hk2 := hkeep (.inl c4)
      clear hkeep
      by_cases c5 : (d.size : Int) ≤ k
      · rw [if_pos ⟨c5, c4⟩] at hk2
        have HK := Lib.hid hk2
        clear hk2
        go_enter Try.func3, Try.ntmps3
        go_wp2_with (first | (go_at_call 7; refine (shown_any _).mono ?_; rintro e w1 ⟨rfl, hB⟩) | (go_at_call 8; refine (write_is HW.out _ HD.out HS.out).mono ?_; rintro e w2 ⟨rfl, hB2⟩))
        refine (read_any d k 1 _ HD.out (by omega)).mono ?_; rintro e w3 ⟨rfl, rfl⟩
        go_wp2_with fail
        refine (read_is HK.out _ HA.out (by omega)).mono ?_; rintro e w4 ⟨rfl, rfl⟩
        go_wp2_with fail
        refine (read_is HR.out _ HA.out (by omega)).mono ?_; rintro e w5 ⟨rfl, rfl⟩
        go_wp2
        go_ret
        refine ⟨?_, hB.trans (hB2.mono hB.size)⟩
        simp; omega
      · rw [if_neg (fun h => c5 h.1)] at hk2
        have HK := Lib.hid hk2
        clear hk2
        go_enter Try.func3, Try.ntmps3
        go_wp2_with (first | (go_at_call 7; refine (shown_any _).mono ?_; rintro e w1 ⟨rfl, hB⟩) | (go_at_call 8; refine (write_is HW.out _ HD.out HS.out).mono ?_; rintro e w2 ⟨rfl, hB2⟩))
        refine (read_any d k 1 _ HD.out (by omega)).mono ?_; rintro e w3 ⟨rfl, rfl⟩
        go_wp2_with fail
        refine (read_is HK.out _ HA.out (by omega)).mono ?_; rintro e w4 ⟨rfl, rfl⟩
        go_wp2_with fail
        refine (read_is HR.out _ HA.out (by omega)).mono ?_; rintro e w5 ⟨rfl, rfl⟩
        go_wp2
        go_ret
        refine ⟨?_, hB.trans (hB2.mono hB.size)⟩
        simp; omega
    · by_cases c5 : off + s.size ≤ k
      · have hk2 := hkeep (.inr c5)
        rw [if_neg (fun h => c4 h.2)] at hk2
        have HK := Lib.hid hk2
        clear hk2 hkeep
        by_cases c7 : (d.size : Int) ≤ k
        all_goals
          go_enter Try.func3, Try.ntmps3
          go_wp2_with (first | (go_at_call 7; refine (shown_any _).mono ?_; rintro e w1 ⟨rfl, hB⟩) | (go_at_call 8; refine (write_is HW.out _ HD.out HS.out).mono ?_; rintro e w2 ⟨rfl, hB2⟩))
          refine (read_any d k 1 _ HD.out (by omega)).mono ?_; rintro e w3 ⟨rfl, rfl⟩
          go_wp2_with fail
          refine (read_is HK.out _ HA.out (by omega)).mono ?_; rintro e w4 ⟨rfl, rfl⟩
          go_wp2_with fail
          refine (read_is HR.out _ HA.out (by omega)).mono ?_; rintro e w5 ⟨rfl, rfl⟩
          go_wp2
          go_ret
          refine ⟨?_, hB.trans (hB2.mono hB.size)⟩
          simp; omega
      · clear hkeep
        go_enter Try.func3, Try.ntmps3
        go_wp2_with (first | (go_at_call 7; refine (shown_any _).mono ?_; rintro e w1 ⟨rfl, hB⟩) | (go_at_call 8; refine (write_is HW.out _ HD.out HS.out).mono ?_; rintro e w2 ⟨rfl, hB2⟩))
        refine (read_is HR.out _ HA.out (by omega)).mono ?_; rintro e w5 ⟨rfl, rfl⟩
        go_wp2
        go_ret
        refine ⟨?_, hB.trans (hB2.mono hB.size)⟩
        simp; omega
  · have hdd : (d.toList == d.toList) = true := str_eq_self d
    have HD := Lib.hid hd
    have HS := Lib.hid hs
    rcases writeF_bad c3 with ha | ha
    all_goals
      have HW := Lib.hid ha
      clear hd hs ha c3
      go_enter Try.func3, Try.ntmps3
      go_wp2_with (first | (go_at_call 7; refine (shown_any _).mono ?_; rintro e w1 ⟨rfl, hB⟩) | (go_at_call 8; refine (write_is HW.out _ HD.out HS.out).mono ?_; rintro e w2 ⟨rfl, hB2⟩))
      go_ret
      refine ⟨by simp, hB.trans (hB2.mono hB.size)⟩

theorem wf_i64 {x : Int} (h : (Lit.int .i64 x).wf = true) : -9223372036854775808 ≤ x ∧ x ≤ 9223372036854775807 := by
  simpa [Lit.wf, IntKind.min, IntKind.max, IntKind.signed, IntKind.bits] using h
theorem wf_u8 {x : Int} (h : (Lit.int .u8 x).wf = true) : 0 ≤ x ∧ x ≤ 255 := by
  simpa [Lit.wf, IntKind.min, IntKind.max, IntKind.signed, IntKind.bits] using h

theorem keeps_walk (a0 : ByteArray) (a1 : Int) (a2 : ByteArray) (a3 : Int) (w : World) (w0 : a0.size ≤ 140737488351232) (_w1 : (Lit.int .i64 a1).wf = true) (w2 : a2.size ≤ 140737488351232) (w3 : (Lit.int .u8 a3).wf = true) :
    Calls Try.prog 3 #[.string a0, .int .i64 a1, .string a2, .int .u8 a3] w fun e w' => e = .returned (.bool true) ∧ Below w.heap.size w w' := by
  obtain ⟨h0, h1⟩ := wf_u8 w3
  obtain ⟨k, rfl⟩ := Int.eq_ofNat_of_zero_le h0
  exact keeps_any a0 a1 a2 k w (by unfold maxLen; omega) (by unfold maxLen; omega) (by omega)
end Go.Proofs.Ytencnfcefnnaiaa
