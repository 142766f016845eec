/-
  What is fine, in plain words; no condition.
-/
import Derived.Test.YtmnkaohhjhjciaaAudJ
namespace Go.Proofs.Ytmnkaohhjhjciaa
open Go.RowKit

theorem faultsOf_nil {bs : List Bool} {k : Nat} (h : faultsOf bs k = []) : ∀ i, i < k → bs[i]! = true := by
  induction k with
  | zero => intro i hi; exact absurd hi (Nat.not_lt_zero _)
  | succ k ih =>
    rw [faultsOf_succ, List.append_eq_nil_iff] at h
    intro i hi
    by_cases e : i = k
    · subst e
      cases hb : bs[i]! with
      | true => rfl
      | false => have h2 := h.2; rw [hb] at h2; simp at h2
    · exact ih h.1 i (by omega)

structure FineIs (n : List Ino) (e : List Ent) : Prop where
  order : orderB n e = true
  shape : shapeB n e = true
  lost : (!e.any (lostB n)) = true
  count : (!n.any (countB e)) = true
  many : (!n.any (manyB e)) = true
  apart : apartB n e = true
  bounds : allBoundsB n = true

theorem fine_is {n : List Ino} {e : List Ent} (h : fineB n e = true) : FineIs n e := by
  have h0 : faults n e = [] := by
    unfold fineB at h
    simp only [beq_iff_eq] at h
    exact List.eq_nil_of_length_eq_zero (by omega)
  have hall := faultsOf_nil h0
  exact ⟨hall 0 (by omega), hall 1 (by omega), hall 2 (by omega), hall 3 (by omega), hall 4 (by omega), hall 5 (by omega), hall 6 (by omega)⟩

theorem cmpSt_neg {a b c d : Int} : cmpSt a b c d < 0 ↔ a < c ∨ (a = c ∧ b < d) := by
  unfold cmpSt orI cmpI
  by_cases h1 : a < c
  · simp [h1]
  · by_cases h2 : c < a
    · simp [h1, h2]; omega
    · have h3 : a = c := by omega
      subst h3
      by_cases h4 : b < d
      · simp [h4]
      · by_cases h5 : d < b <;> simp [h4, h5]

theorem rises_at {α : Type} [Inhabited α] {c : α → α → Int} {l : List α} (h : risesBy c l = true) (i : Nat) (hi : i + 1 < l.length) : c l[i]! l[i + 1]! < 0 := by
  unfold risesBy at h
  rw [List.all_eq_true] at h
  have := h i (List.mem_range.2 (by omega))
  simpa using this

theorem rises_lt {n : List Ino} (h : risesBy cmpIno n = true) : ∀ (d i : Nat), i + d + 1 < n.length → cmpIno n[i]! n[i + d + 1]! < 0
  | 0, i, hi => rises_at h i hi
  | d + 1, i, hi => by
    have h1 := rises_lt h d i (by omega)
    have h2 := rises_at h (i + d + 1) (by omega)
    unfold cmpIno at h1 h2 ⊢
    rw [cmpSt_neg] at h1 h2 ⊢
    have e : i + (d + 1) + 1 = i + d + 1 + 1 := by omega
    rw [e]
    omega

theorem ids_apart {n : List Ino} (h : risesBy cmpIno n = true) {i j : Nat} (hi : i < n.length) (hj : j < n.length) (hne : i ≠ j) : n[i]!.id ≠ n[j]!.id := by
  have key : ∀ i j, i < j → j < n.length → n[i]!.id ≠ n[j]!.id := by
    intro i j hij hj he
    have h1 := rises_lt h (j - i - 1) i (by omega)
    have e : i + (j - i - 1) + 1 = j := by omega
    rw [e] at h1
    unfold cmpIno at h1
    rw [he, cmpSt_neg] at h1
    omega
  by_cases hij : i < j
  · exact key i j hij hj
  · exact fun he => key j i (by omega) hi he.symm

theorem kindOf_some {n : List Ino} {id : St} : (kindOf n id).isSome = true ↔ ∃ i, i < n.length ∧ n[i]!.id = id := by
  unfold kindOf
  rw [Option.isSome_map, List.find?_isSome]
  constructor
  · rintro ⟨x, hx, he⟩
    obtain ⟨i, hi, rfl⟩ := List.getElem_of_mem hx
    exact ⟨i, hi, by rw [getElem!_pos n i hi]; simpa using he⟩
  · rintro ⟨i, hi, he⟩
    exact ⟨n[i], List.getElem_mem hi, by rw [getElem!_pos n i hi] at he; simpa using he⟩

theorem mem_any_false {α : Type} {l : List α} {p : α → Bool} (h : (!l.any p) = true) {x : α} (hx : x ∈ l) : p x = false := by
  rw [Bool.not_eq_true', List.any_eq_false] at h
  simpa using h x hx

theorem getElem!_mem {α : Type} [Inhabited α] {l : List α} {i : Nat} (h : i < l.length) : l[i]! ∈ l := by
  rw [getElem!_pos l i h]; exact List.getElem_mem h

/-- an inode that is not the root has an entry -/
theorem FineIs.entry {n : List Ino} {e : List Ent} (h : FineIs n e) {z : Ino} (hz : z ∈ n) (hr : z.id ≠ ⟨0, 0⟩) : ∃ x ∈ e, x.ino = z.id := by
  have hm := mem_any_false h.many hz
  unfold manyB at hm
  rw [if_neg hr] at hm
  have h1 : 1 ≤ linksTo e z.id := by
    by_cases hk : z.kind = 1
    · rw [if_pos hk] at hm
      simp at hm; omega
    · rw [if_neg hk] at hm
      simp at hm; omega
  unfold linksTo at h1
  obtain ⟨x, hx⟩ := List.exists_mem_of_length_pos h1
  have := List.mem_filter.1 hx
  exact ⟨x, this.1, by simpa using this.2⟩

theorem less_get {α : Type} [Inhabited α] {l : List α} {i j : Nat} (hi : i < l.length) (hj : j < (l.take i ++ l.drop (i + 1)).length) : ∃ k, k < l.length ∧ k ≠ i ∧ (l.take i ++ l.drop (i + 1))[j]! = l[k]! := by
  have hl : (l.take i ++ l.drop (i + 1)).length = l.length - 1 := by simp; omega
  rw [getElem!_pos _ j hj]
  by_cases h : j < i
  · refine ⟨j, by omega, by omega, ?_⟩
    rw [List.getElem_append_left (by simp; omega), getElem!_pos l j (by omega)]
    simp
  · refine ⟨j + 1, by omega, by omega, ?_⟩
    rw [List.getElem_append_right (by simp; omega), getElem!_pos l (j + 1) (by omega)]
    simp only [List.getElem_drop, List.length_take]
    congr 1
    omega

theorem less_inode {n : List Ino} {e : List Ent} (h : fineB n e = true) {i : Nat} (hi : i < n.length) : fineB (n.take i ++ n.drop (i + 1)) e = false := by
  rw [Bool.eq_false_iff]
  intro h2
  have hf := fine_is h
  have hg := fine_is h2
  have ho : risesBy cmpIno n = true := by
    have := hf.order
    unfold orderB at this
    simp only [Bool.and_eq_true] at this
    exact this.1
  have hgone : ¬ (kindOf (n.take i ++ n.drop (i + 1)) n[i]!.id).isSome = true := by
    rw [kindOf_some]
    rintro ⟨j, hj, he⟩
    obtain ⟨k, hk, hne, hk2⟩ := less_get hi hj
    rw [hk2] at he
    exact ids_apart ho hk hi hne he
  by_cases hr : n[i]!.id = ⟨0, 0⟩
  · have hs := hg.shape
    unfold shapeB at hs
    simp only [Bool.and_eq_true, decide_eq_true_eq] at hs
    rw [hr, hs.1] at hgone
    exact hgone rfl
  · obtain ⟨x, hx, hxe⟩ := hf.entry (getElem!_mem hi) hr
    have hl := mem_any_false hg.lost hx
    unfold lostB at hl
    simp only [Bool.or_eq_false_iff, Bool.not_eq_false'] at hl
    rw [hxe] at hl
    exact hgone hl.2

theorem less_links {e : List Ent} {j : Nat} (hj : j < e.length) : linksTo e e[j]!.ino = linksTo (e.take j ++ e.drop (j + 1)) e[j]!.ino + 1 := by
  have es : e = e.take j ++ e[j]! :: e.drop (j + 1) := by
    rw [getElem!_pos e j hj]; simp
  generalize e[j]! = x at *
  unfold linksTo
  conv => lhs; rw [es]
  simp only [List.filter_append, List.length_append, List.filter_cons]
  simp
  omega

theorem less_entry {n : List Ino} {e : List Ent} (h : fineB n e = true) {j : Nat} (hj : j < e.length) : fineB n (e.take j ++ e.drop (j + 1)) = false := by
  rw [Bool.eq_false_iff]
  intro h2
  have hf := fine_is h
  have hg := fine_is h2
  have hl := mem_any_false hf.lost (getElem!_mem hj)
  unfold lostB at hl
  simp only [Bool.or_eq_false_iff, Bool.not_eq_false'] at hl
  obtain ⟨i, hi, he⟩ := kindOf_some.1 hl.2
  have h1 := mem_any_false hf.count (getElem!_mem hi)
  have h3 := mem_any_false hg.count (getElem!_mem hi)
  unfold countB at h1 h3
  simp only [bne_eq_false_iff_eq] at h1 h3
  rw [he] at h1 h3
  have := less_links hj
  omega

theorem fine_alone {n : List Ino} (h : fineB n [] = true) : n.length = 1 := by
  have hf := fine_is h
  have ho : risesBy cmpIno n = true := by
    have := hf.order
    unfold orderB at this
    simp only [Bool.and_eq_true] at this
    exact this.1
  have hall : ∀ i, i < n.length → n[i]!.id = ⟨0, 0⟩ := by
    intro i hi
    by_cases hr : n[i]!.id = ⟨0, 0⟩
    · exact hr
    · obtain ⟨x, hx, _⟩ := hf.entry (getElem!_mem hi) hr
      cases hx
  have hs := hf.shape
  unfold shapeB at hs
  simp only [Bool.and_eq_true, decide_eq_true_eq] at hs
  have h1 : (kindOf n ⟨0, 0⟩).isSome = true := by rw [hs.1]; rfl
  obtain ⟨i, hi, _⟩ := kindOf_some.1 h1
  by_cases h2 : n.length = 1
  · exact h2
  · have h01 := ids_apart ho (i := 0) (j := 1) (by omega) (by omega) (by omega)
    rw [hall 0 (by omega), hall 1 (by omega)] at h01
    exact absurd rfl h01

theorem fine_some {n : List Ino} {e : List Ent} (h : fineB n e = true) : 0 < n.length := by
  have hs := (fine_is h).shape
  unfold shapeB at hs
  simp only [Bool.and_eq_true, decide_eq_true_eq] at hs
  have h1 : (kindOf n ⟨0, 0⟩).isSome = true := by rw [hs.1]; rfl
  obtain ⟨i, hi, _⟩ := kindOf_some.1 h1
  omega
end Go.Proofs.Ytmnkaohhjhjciaa
