/-
  strings.Index, Contains at one byte, HasPrefix at a slash; strings.SplitSeq at a slash, and its iterator; no condition.
-/
import Derived.Test.YtfbjiaedfmdcfaaGreatDoorKY5
import Derived.Test.YtfbjiaedfmdcfaaGreatDoorKY6
/-! ## PathA -/
namespace Go.Proofs.YtfbjiaedfmdcfaaGreatDoor
open Go.RowKit Go.Shelf

attribute [local go_sem] Oper.semAt_some

set_option maxRecDepth 100000 in
set_option maxHeartbeats 400000 in
theorem liteIndex_any (s : ByteArray) (c : UInt8) (w : World) :
    Calls Tryz.prog 145 #[.string s, .string ⟨#[c]⟩] w fun e w' => e = .returned (.int .i64 (Lib.indexByte s.data.toList c)) ∧ w = w' := by
  have h1 : (⟨#[c]⟩ : ByteArray).size = 1 := rfl
  have h2 : ((c.toNat : Int)).toNat.toUInt8 = c := by simp
  have HI := Lib.hid (fun W => indexByteLite_any s (c.toNat : Int) W)
  rw [h2] at HI
  have g1 : 0 < (⟨#[c]⟩ : ByteArray).size := by rw [h1]; decide
  have g2 : (⟨#[c]⟩ : ByteArray)[0]'g1 = c := rfl
  obtain ⟨b, hb⟩ : ∃ b : ByteArray, b = ⟨#[c]⟩ := ⟨_, rfl⟩
  rw [← hb] at h1 ⊢
  have g1' : 0 < b.size := by omega
  have g2' : b[0]'g1' = c := by subst hb; rfl
  have HE : Hid ((b.toList == s.toList) = true → Lib.indexByte s.data.toList c = 0) := Lib.hid fun h => by
    have h' : b = s := by rw [toList_inj] at h; exact of_decide_eq_true h
    rw [← h', hb]
    simp [Lib.indexByte]
  clear hb g1 g2
  cases hbs : (b.toList == s.toList) with
  | true =>
    have HZ := Lib.hid (HE.out hbs)
    clear HE
    go_enter Tryz.func145, Tryz.ntmps145
    go_wp2_with (go_at_call 181; refine (HI.out _).mono ?_; rintro e w' ⟨rfl, rfl⟩)
    go_ret
    exact ⟨congrArg (fun k : Int => Ending.returned (.int .i64 k)) HZ.out.symm, rfl⟩
  | false =>
    clear HE
    go_enter Tryz.func145, Tryz.ntmps145
    go_wp2_with (go_at_call 181; refine (HI.out _).mono ?_; rintro e w' ⟨rfl, rfl⟩)
    go_ret
    exact ⟨rfl, rfl⟩

set_option maxRecDepth 100000 in
set_option maxHeartbeats 400000 in
theorem index1_any (s : ByteArray) (c : UInt8) (w : World) :
    Calls Tryz.prog 104 #[.string s, .string ⟨#[c]⟩] w fun e w' => e = .returned (.int .i64 (Lib.indexByte s.data.toList c)) ∧ w = w' := by
  have HI := Lib.hid (fun W => liteIndex_any s c W)
  generalize (⟨#[c]⟩ : ByteArray) = b at *
  go_enter Tryz.func104, Tryz.ntmps104
  go_wp2_with (go_at_call 145; refine (HI.out _).mono ?_; rintro e w' ⟨rfl, rfl⟩)
  go_ret
  exact ⟨rfl, rfl⟩

theorem indexByte_none {l : List UInt8} {c : UInt8} : Lib.indexByte l c < 0 ↔ c ∉ l := by
  induction l with
  | nil => simp [Lib.indexByte]
  | cons b l ih =>
    unfold Lib.indexByte
    by_cases hb : (b == c) = true
    · rw [if_pos hb]
      have : b = c := by simpa using hb
      simp [this]
    · rw [if_neg hb]
      have hne : b ≠ c := by simpa using hb
      have hge := Lib.indexByte_ge l c
      split
      · rename_i h
        have h' : Lib.indexByte l c = -1 := by simpa using h
        have := ih.1 (by omega)
        simp [this, Ne.symm hne]
      · rename_i h
        have h' : ¬ Lib.indexByte l c = -1 := by simpa using h
        have : ¬ (c ∉ l) := fun hc => by have := ih.2 hc; omega
        simp only [List.mem_cons, not_or]
        constructor
        · intro hlt; omega
        · intro hh; exact absurd hh.2 this
theorem indexByte_some {l : List UInt8} {c : UInt8} {i : Nat} (h : Lib.indexByte l c = i) : i < l.length ∧ l = l.take i ++ c :: l.drop (i + 1) ∧ c ∉ l.take i := by
  induction l generalizing i with
  | nil => exfalso; simp only [Lib.indexByte] at h; omega
  | cons b l ih =>
    unfold Lib.indexByte at h
    by_cases hb : (b == c) = true
    · rw [if_pos hb] at h
      have hbc : b = c := by simpa using hb
      obtain rfl : i = 0 := by omega
      simp [hbc]
    · rw [if_neg hb] at h
      have hne : b ≠ c := by simpa using hb
      have hge := Lib.indexByte_ge l c
      split at h
      · omega
      · rename_i h'
        have h2' : ¬ Lib.indexByte l c = -1 := by simpa using h'
        obtain ⟨k, rfl⟩ : ∃ k, i = k + 1 := ⟨i - 1, by omega⟩
        obtain ⟨h1, h2, h3⟩ := ih (i := k) (by omega)
        refine ⟨by simp; omega, ?_, ?_⟩
        · simp only [List.take_succ_cons, List.cons_append, List.drop_succ_cons, List.cons.injEq, true_and]; exact h2
        · simp only [List.take_succ_cons, List.mem_cons, not_or]; exact ⟨Ne.symm hne, h3⟩

set_option maxRecDepth 100000 in
set_option maxHeartbeats 400000 in
theorem containsNul_any (s : ByteArray) (w : World) :
    Calls Tryz.prog 66 #[.string s, .string ⟨#[0]⟩] w fun e w' => e = .returned (.bool (hasNul s)) ∧ w = w' := by
  have HI := Lib.hid (fun W => index1_any s 0 W)
  have hn : hasNul s = decide (0 ≤ Lib.indexByte s.data.toList 0) := by
    unfold hasNul
    rw [Bool.eq_iff_iff, List.contains_iff_mem, decide_eq_true_iff]
    have := indexByte_none (l := s.data.toList) (c := 0)
    constructor
    · intro h; exact Int.not_lt.1 fun h' => this.1 h' h
    · intro h; exact Decidable.not_not.1 fun h' => by have := this.2 h'; omega
  generalize hasNul s = r at *
  generalize Lib.indexByte s.data.toList 0 = k at *
  generalize (⟨#[0]⟩ : ByteArray) = b at *
  go_enter Tryz.func66, Tryz.ntmps66
  go_wp2_with (go_at_call 104; refine (HI.out _).mono ?_; rintro e w' ⟨rfl, rfl⟩)
  go_ret
  exact ⟨by rw [hn]; simp, rfl⟩
end Go.Proofs.YtfbjiaedfmdcfaaGreatDoor
