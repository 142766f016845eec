/-
  The walk of ExtentApart over the contracts of extent, and the plain facts on two writes; condition: lengths as the form has them.
-/
import Derived.Test.YtencnfcefnnaiaaKeeps
namespace Go.Proofs.Ytencnfcefnnaiaa
open Go.RowKit

theorem bytes_ext {a b : ByteArray} (h : ∀ i : Nat, a.data.toList[i]? = b.data.toList[i]?) : a = b := by
  apply ByteArray.ext; apply Array.ext'; exact List.ext_getElem? h

theorem writeF_small (d s : ByteArray) (off : Int) (hd : d.size ≤ 64) : (writeF d off s).1.size ≤ 64 := by
  by_cases h : (writeF d off s).2 = 0
  · obtain ⟨h0, h1, h2, h3, h4, h5, h6⟩ := writeF_ok (a := (writeF d off s).1) (by rw [← h])
    omega
  · rcases writeF_bad h with e | e <;> rw [e] <;> exact hd

theorem if_iff {α : Type} {P Q : Prop} [Decidable P] [Decidable Q] (h : P ↔ Q) (x y : α) : (if P then x else y) = if Q then x else y := by
  by_cases hp : P
  · rw [if_pos hp, if_pos (h.1 hp)]
  · rw [if_neg hp, if_neg (fun q => hp (h.2 q))]

theorem getD_none_if (P : Prop) [Decidable P] : (if P then some ((none : Option UInt8).getD 0) else none).getD 0 = 0 := by split <;> rfl

theorem apart_same {d s t x y z v : ByteArray} {i k : Nat} (h1 : writeF d i s = (x, 0)) (h2 : writeF x k t = (y, 0)) (h3 : writeF d k t = (z, 0)) (h4 : writeF z i s = (v, 0))
    (hd : i + s.size ≤ k ∨ k + t.size ≤ i) : y = v := by
  obtain ⟨_, _, _, _, _, _, q1⟩ := writeF_ok h1
  obtain ⟨_, _, _, _, _, _, q2⟩ := writeF_ok h2
  obtain ⟨_, _, _, _, _, _, q3⟩ := writeF_ok h3
  obtain ⟨_, _, _, _, _, _, q4⟩ := writeF_ok h4
  simp only [Int.toNat_natCast] at q1 q2 q3 q4
  apply bytes_ext
  intro j
  rw [write_get h2, write_get h4, write_get h1, write_get h3]
  simp only [Int.toNat_natCast]
  by_cases c1 : (k : Int) ≤ j ∧ (j : Int) < k + t.size
  · rw [if_pos c1, if_neg (by omega), if_pos (by omega), if_pos c1]
    have : j - k < t.data.toList.length := by rw [tolen]; omega
    rw [List.getElem?_eq_getElem this]; rfl
  · rw [if_neg c1]
    by_cases c2 : (i : Int) ≤ j ∧ (j : Int) < i + s.size
    · rw [if_pos c2, if_pos c2, if_pos (by omega)]
      have : j - i < s.data.toList.length := by rw [tolen]; omega
      rw [List.getElem?_eq_getElem this]; rfl
    · rw [if_neg c2, if_neg c2, if_neg c1, q1, q3]
      by_cases c4 : j < d.size
      · rw [if_pos (show j < max (max d.size (i + s.size)) (k + t.size) by omega), if_pos (show j < max (max d.size (k + t.size)) (i + s.size) by omega), if_pos (show j < max d.size (i + s.size) by omega), if_pos (show j < max d.size (k + t.size) by omega)]
      · have hn : d.data.toList[j]? = none := List.getElem?_eq_none (by rw [tolen]; omega)
        rw [hn]
        simp only [getD_none_if]
        rw [if_iff (show j < max (max d.size (i + s.size)) (k + t.size) ↔ j < max (max d.size (k + t.size)) (i + s.size) by omega)]

theorem apart_covered {d s t x y z : ByteArray} {i k : Nat} (h1 : writeF d i s = (x, 0)) (h2 : writeF x k t = (y, 0)) (h3 : writeF d k t = (z, 0))
    (hk : k ≤ i) (ht : i + s.size ≤ k + t.size) (_hz : y.size ≤ z.size) : y = z := by
  obtain ⟨_, _, _, _, _, _, q1⟩ := writeF_ok h1
  obtain ⟨_, _, _, _, _, _, q2⟩ := writeF_ok h2
  obtain ⟨_, _, _, _, _, _, q3⟩ := writeF_ok h3
  simp only [Int.toNat_natCast] at q1 q2 q3
  apply bytes_ext
  intro j
  rw [write_get h2, write_get h1, write_get h3]
  simp only [Int.toNat_natCast]
  by_cases c1 : (k : Int) ≤ j ∧ (j : Int) < k + t.size
  · rw [if_pos c1, if_pos c1]
  · rw [if_neg c1, if_neg c1, if_neg (show ¬((i : Int) ≤ j ∧ (j : Int) < i + s.size) by omega), q1]
    by_cases c4 : j < d.size
    · rw [if_pos (show j < max (max d.size (i + s.size)) (k + t.size) by omega), if_pos (show j < max d.size (i + s.size) by omega), if_pos (show j < max d.size (k + t.size) by omega)]; rfl
    · have hn : d.data.toList[j]? = none := List.getElem?_eq_none (by rw [tolen]; omega)
      rw [hn]
      simp only [getD_none_if]
      rw [if_iff (show j < max (max d.size (i + s.size)) (k + t.size) ↔ j < max d.size (k + t.size) by omega)]; rfl

theorem writeF_any (d s : ByteArray) (off : Int) (hd : d.size ≤ 64) : ∃ a x, writeF d off s = (a, x) ∧ a.size ≤ 64 := ⟨_, _, rfl, writeF_small d s off hd⟩

theorem below5 {w w1 w2 w3 w4 w5 : World} (h : Below w.heap.size w w1) (h2 : Below w1.heap.size w1 w2) (h3 : Below w2.heap.size w2 w3) (h4 : Below w3.heap.size w3 w4) (h5 : Below w4.heap.size w4 w5) : Below w.heap.size w w5 := by
  have b2 := h.trans (h2.mono h.size)
  have b3 := b2.trans (h3.mono b2.size)
  have b4 := b3.trans (h4.mono b3.size)
  exact b4.trans (h5.mono b4.size)

def TrueB (w : World) (e : Ending) (w' : World) : Prop := e = .returned (.bool true) ∧ Below w.heap.size w w'

set_option maxHeartbeats 1000000 in
theorem apart_core (d : ByteArray) (a : Int) (s : ByteArray) (b : Int) (t : ByteArray) (i k : Nat) (w : World) (ha : 0 ≤ a ∧ a ≤ 255) (hb : 0 ≤ b ∧ b ≤ 255) (hi : a % 64 = i) (hk : b % 64 = k)
    (hd : d.size ≤ 64) (hs : s.size ≤ 64) (ht : t.size ≤ 64) :
    Calls Try.prog 4 #[.string d, .int .u8 a, .string s, .int .u8 b, .string t] w (TrueB w) := by
  obtain ⟨x, e1, h1, n1⟩ := writeF_any d s i hd
  obtain ⟨y, e2, h2, n2⟩ := writeF_any x t k n1
  obtain ⟨z, e3, h3, n3⟩ := writeF_any d t k hd
  obtain ⟨v, e4, h4, n4⟩ := writeF_any z s i n3
  have hi64 : i < 64 := by omega
  have hk64 : k < 64 := by omega
  have mD : d.size ≤ maxLen := by unfold maxLen; omega
  have mS : s.size ≤ maxLen := by unfold maxLen; omega
  have mT : t.size ≤ maxLen := by unfold maxLen; omega
  have mX : x.size ≤ maxLen := by unfold maxLen; omega
  have mZ : z.size ≤ maxLen := by unfold maxLen; omega
  have H1 := Lib.hid h1
  have H2 := Lib.hid h2
  have H3 := Lib.hid h3
  have H4 := Lib.hid h4
  have MD := Lib.hid mD
  have MS := Lib.hid mS
  have MT := Lib.hid mT
  have MX := Lib.hid mX
  have MZ := Lib.hid mZ
  clear mD mS mT mX mZ h1 h2 h3 h4
  by_cases c : e1 = 0 ∧ e2 = 0 ∧ e3 = 0 ∧ e4 = 0
  · obtain ⟨rfl, rfl, rfl, rfl⟩ := c
    by_cases c1 : i + s.size ≤ k
    · have hq : (y.toList == v.toList) = true := by rw [apart_same H1.out H2.out H3.out H4.out (.inl c1)]; simp
      go_enter Try.func4, Try.ntmps4
      go_wp2_with (go_at_call 7; refine (shown_any _).mono ?_; rintro e w1 ⟨rfl, hB⟩)
      refine (write_is H1.out _ MD.out MS.out).mono ?_; rintro e w2 ⟨rfl, hB2⟩
      go_wp2_with fail
      refine (write_is H2.out _ MX.out MT.out).mono ?_; rintro e w3 ⟨rfl, hB3⟩
      go_wp2_with fail
      refine (write_is H3.out _ MD.out MT.out).mono ?_; rintro e w4 ⟨rfl, hB4⟩
      go_wp2_with fail
      refine (write_is H4.out _ MZ.out MS.out).mono ?_; rintro e w5 ⟨rfl, hB5⟩
      go_wp2
      go_ret
      exact ⟨rfl, below5 hB hB2 hB3 hB4 hB5⟩
    by_cases c2 : k + t.size ≤ i
    · have hq : (y.toList == v.toList) = true := by rw [apart_same H1.out H2.out H3.out H4.out (.inr c2)]; simp
      go_enter Try.func4, Try.ntmps4
      go_wp2_with (go_at_call 7; refine (shown_any _).mono ?_; rintro e w1 ⟨rfl, hB⟩)
      refine (write_is H1.out _ MD.out MS.out).mono ?_; rintro e w2 ⟨rfl, hB2⟩
      go_wp2_with fail
      refine (write_is H2.out _ MX.out MT.out).mono ?_; rintro e w3 ⟨rfl, hB3⟩
      go_wp2_with fail
      refine (write_is H3.out _ MD.out MT.out).mono ?_; rintro e w4 ⟨rfl, hB4⟩
      go_wp2_with fail
      refine (write_is H4.out _ MZ.out MS.out).mono ?_; rintro e w5 ⟨rfl, hB5⟩
      go_wp2
      go_ret
      exact ⟨rfl, below5 hB hB2 hB3 hB4 hB5⟩
    by_cases c3 : i < k
    · go_enter Try.func4, Try.ntmps4
      go_wp2_with (go_at_call 7; refine (shown_any _).mono ?_; rintro e w1 ⟨rfl, hB⟩)
      refine (write_is H1.out _ MD.out MS.out).mono ?_; rintro e w2 ⟨rfl, hB2⟩
      go_wp2_with fail
      refine (write_is H2.out _ MX.out MT.out).mono ?_; rintro e w3 ⟨rfl, hB3⟩
      go_wp2_with fail
      refine (write_is H3.out _ MD.out MT.out).mono ?_; rintro e w4 ⟨rfl, hB4⟩
      go_wp2_with fail
      refine (write_is H4.out _ MZ.out MS.out).mono ?_; rintro e w5 ⟨rfl, hB5⟩
      go_wp2
      go_ret
      exact ⟨rfl, below5 hB hB2 hB3 hB4 hB5⟩
    by_cases c4 : k + t.size < i + s.size
    · go_enter Try.func4, Try.ntmps4
      go_wp2_with (go_at_call 7; refine (shown_any _).mono ?_; rintro e w1 ⟨rfl, hB⟩)
      refine (write_is H1.out _ MD.out MS.out).mono ?_; rintro e w2 ⟨rfl, hB2⟩
      go_wp2_with fail
      refine (write_is H2.out _ MX.out MT.out).mono ?_; rintro e w3 ⟨rfl, hB3⟩
      go_wp2_with fail
      refine (write_is H3.out _ MD.out MT.out).mono ?_; rintro e w4 ⟨rfl, hB4⟩
      go_wp2_with fail
      refine (write_is H4.out _ MZ.out MS.out).mono ?_; rintro e w5 ⟨rfl, hB5⟩
      go_wp2
      go_ret
      exact ⟨rfl, below5 hB hB2 hB3 hB4 hB5⟩
    by_cases c5 : z.size < y.size
    · go_enter Try.func4, Try.ntmps4
      go_wp2_with (go_at_call 7; refine (shown_any _).mono ?_; rintro e w1 ⟨rfl, hB⟩)
      refine (write_is H1.out _ MD.out MS.out).mono ?_; rintro e w2 ⟨rfl, hB2⟩
      go_wp2_with fail
      refine (write_is H2.out _ MX.out MT.out).mono ?_; rintro e w3 ⟨rfl, hB3⟩
      go_wp2_with fail
      refine (write_is H3.out _ MD.out MT.out).mono ?_; rintro e w4 ⟨rfl, hB4⟩
      go_wp2_with fail
      refine (write_is H4.out _ MZ.out MS.out).mono ?_; rintro e w5 ⟨rfl, hB5⟩
      go_wp2
      all_goals (go_ret; exact ⟨by simp; try omega, below5 hB hB2 hB3 hB4 hB5⟩)
    have hq : (y.toList == z.toList) = true := by rw [apart_covered H1.out H2.out H3.out (by omega) (by omega) (by omega)]; simp
    go_enter Try.func4, Try.ntmps4
    go_wp2_with (go_at_call 7; refine (shown_any _).mono ?_; rintro e w1 ⟨rfl, hB⟩)
    refine (write_is H1.out _ MD.out MS.out).mono ?_; rintro e w2 ⟨rfl, hB2⟩
    go_wp2_with fail
    refine (write_is H2.out _ MX.out MT.out).mono ?_; rintro e w3 ⟨rfl, hB3⟩
    go_wp2_with fail
    refine (write_is H3.out _ MD.out MT.out).mono ?_; rintro e w4 ⟨rfl, hB4⟩
    go_wp2_with fail
    refine (write_is H4.out _ MZ.out MS.out).mono ?_; rintro e w5 ⟨rfl, hB5⟩
    go_wp2
    go_ret
    exact ⟨rfl, below5 hB hB2 hB3 hB4 hB5⟩
  · go_enter Try.func4, Try.ntmps4
    go_wp2_with (go_at_call 7; refine (shown_any _).mono ?_; rintro e w1 ⟨rfl, hB⟩)
    refine (write_is H1.out _ MD.out MS.out).mono ?_; rintro e w2 ⟨rfl, hB2⟩
    go_wp2_with fail
    refine (write_is H2.out _ MX.out MT.out).mono ?_; rintro e w3 ⟨rfl, hB3⟩
    go_wp2_with fail
    refine (write_is H3.out _ MD.out MT.out).mono ?_; rintro e w4 ⟨rfl, hB4⟩
    go_wp2_with fail
    refine (write_is H4.out _ MZ.out MS.out).mono ?_; rintro e w5 ⟨rfl, hB5⟩
    go_wp2
    all_goals first | (go_ret; exact ⟨rfl, below5 hB hB2 hB3 hB4 hB5⟩) | (exfalso; simp_all; done)

set_option maxHeartbeats 400000 in
theorem apart_large (d : ByteArray) (a : Int) (s : ByteArray) (b : Int) (t : ByteArray) (w : World) (hd : d.size ≤ 140737488351232) (hs : s.size ≤ 140737488351232) (ht : t.size ≤ 140737488351232)
    (h : ¬ (d.size ≤ 64 ∧ s.size ≤ 64 ∧ t.size ≤ 64)) :
    Calls Try.prog 4 #[.string d, .int .u8 a, .string s, .int .u8 b, .string t] w (TrueB w) := by
  by_cases c1 : 64 < d.size
  · clear h
    go_enter Try.func4, Try.ntmps4
    go_wp2_with (go_at_call 7; refine (shown_any _).mono ?_; rintro e w1 ⟨rfl, hB⟩)
    go_ret
    exact ⟨rfl, hB⟩
  by_cases c2 : 64 < s.size
  · clear h
    go_enter Try.func4, Try.ntmps4
    go_wp2_with (go_at_call 7; refine (shown_any _).mono ?_; rintro e w1 ⟨rfl, hB⟩)
    go_ret
    exact ⟨rfl, hB⟩
  by_cases c3 : 64 < t.size
  · clear h
    go_enter Try.func4, Try.ntmps4
    go_wp2_with (go_at_call 7; refine (shown_any _).mono ?_; rintro e w1 ⟨rfl, hB⟩)
    go_ret
    exact ⟨rfl, hB⟩
  omega

theorem apart_walk (a0 : ByteArray) (a1 : Int) (a2 : ByteArray) (a3 : Int) (a4 : ByteArray) (w : World) (w0 : a0.size ≤ 140737488351232) (w1 : (Lit.int .u8 a1).wf = true) (w2 : a2.size ≤ 140737488351232) (w3 : (Lit.int .u8 a3).wf = true) (w4 : a4.size ≤ 140737488351232) :
    Calls Try.prog 4 #[.string a0, .int .u8 a1, .string a2, .int .u8 a3, .string a4] w fun e w' => e = .returned (.bool true) ∧ Below w.heap.size w w' := by
  by_cases h : a0.size ≤ 64 ∧ a2.size ≤ 64 ∧ a4.size ≤ 64
  · have h1 := wf_u8 w1
    have h3 := wf_u8 w3
    exact apart_core a0 a1 a2 a3 a4 (a1 % 64).toNat (a3 % 64).toNat w h1 h3 (by omega) (by omega) h.1 h.2.1 h.2.2
  · exact apart_large a0 a1 a2 a3 a4 w w0 w2 w4 h
end Go.Proofs.Ytencnfcefnnaiaa
