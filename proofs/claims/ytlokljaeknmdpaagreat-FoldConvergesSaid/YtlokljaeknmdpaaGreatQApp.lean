/-
  Rows of structs that are put together; no condition.
-/
import Derived.Test.YtlokljaeknmdpaaGreatQSl
namespace Go.Proofs.YtlokljaeknmdpaaGreat
open Go.RowKit Go.Shelf

theorem flatMap_get {α β : Type} [Inhabited α] (f : α → List β) (k : Nat) (hk : ∀ x, (f x).length = k) (hk0 : 0 < k) : ∀ (zs : List α) (j : Nat) (u : β), (zs.flatMap f)[j]? = some u → j / k < zs.length ∧ (f zs[j / k]!)[j % k]? = some u
  | [], j, u, h => by simp at h
  | z :: zs, j, u, h => by
    rw [List.flatMap_cons] at h
    by_cases hj : j < k
    · rw [List.getElem?_append_left (by rw [hk]; exact hj)] at h
      rw [Nat.div_eq_of_lt hj, Nat.mod_eq_of_lt hj]
      exact ⟨by simp, h⟩
    · rw [List.getElem?_append_right (by rw [hk]; omega), hk] at h
      obtain ⟨h1, h2⟩ := flatMap_get f k hk hk0 zs (j - k) u h
      have e1 : j / k = (j - k) / k + 1 := by
        rw [Nat.div_eq_sub_div hk0 (by omega)]
      have e2 : j % k = (j - k) % k := by rw [Nat.mod_eq_sub_mod (by omega)]
      rw [e1, e2]
      exact ⟨by simp; omega, by simpa using h2⟩

theorem flatMap_at {α β : Type} [Inhabited α] (f : α → List β) (k : Nat) (hk : ∀ x, (f x).length = k) (zs : List α) (j i : Nat) (hj : j < zs.length) (hi : i < k) : (zs.flatMap f)[j * k + i]? = (f zs[j]!)[i]? := by
  induction zs generalizing j with
  | nil => simp at hj
  | cons z zs ih =>
    rw [List.flatMap_cons]
    cases j with
    | zero => rw [List.getElem?_append_left (by rw [hk]; omega)]; simp
    | succ j =>
      rw [List.getElem?_append_right (by rw [hk]; rw [Nat.succ_mul]; omega), hk]
      have e : (j + 1) * k + i - k = j * k + i := by rw [Nat.succ_mul]; omega
      rw [e, ih j (by simpa using hj)]
      simp

theorem flatMap_len {α β : Type} (f : α → List β) (k : Nat) (hk : ∀ x, (f x).length = k) (zs : List α) : (zs.flatMap f).length = zs.length * k := by
  induction zs with
  | nil => simp
  | cons z zs ih => rw [List.flatMap_cons, List.length_append, hk, ih, List.length_cons, Nat.succ_mul]; omega

/-- what the call's own slice holds is a list -/
theorem SlAt.of_row {α : Type} [Inhabited α] {W : World} {B k : Nat} {t : TypeId} {enc : α → List Value} {v : Value} {zs : List α} (hk : ∀ x, (enc x).length = k) (h : W.ownsRow B t k v zs.length (zs.flatMap enc)) : SlAt W k enc v zs := by
  rcases h.2 with ⟨rfl, h0⟩ | ⟨g, cap, cur, rfl, _, hh, h1, h2, _, h4⟩
  · exact .inl ⟨none, 0, rfl, List.eq_nil_of_length_eq_zero h0⟩
  · refine .inr ⟨g, 0, cap, rfl, h1, h2, (Array.getElem?_eq_some_iff.1 hh).1, fun j hj i u hu => ?_⟩
    have hi : i < k := by have := (List.getElem?_eq_some_iff.1 hu).1; rw [hk] at this; exact this
    have hb : j * k + i < zs.length * k := by
      have : (j + 1) * k ≤ zs.length * k := Nat.mul_le_mul_right k hj
      rw [Nat.succ_mul] at this; omega
    have e : cur[0 + j * k + i]? = some u := by
      have := flatMap_at enc k hk zs j i hj hi
      rw [← h4, List.getElem?_take, if_pos hb, hu] at this
      rw [Nat.zero_add, ← Array.getElem?_toList]; exact this
    unfold World.cell?
    simp only [hh]
    simpa using e

/-- a part of a list that lies in memory -/
theorem SlAt.news {α : Type} [Inhabited α] {w : World} {k : Nat} {enc : α → List Value} {zs : List α} {b off : Nat} (hk : ∀ x, (enc x).length = k) (hk0 : 0 < k)
    (hc : ∀ j, j < zs.length → ∀ i u, (enc zs[j]!)[i]? = some u → w.cell? ⟨b, off + j * k + i, none⟩ = some u) (a m : Nat) (j : Nat) (u : Value) (h : (((zs.drop a).take m).flatMap enc)[j]? = some u) : w.cell? ⟨b, off + a * k + j, none⟩ = some u := by
  obtain ⟨h1, h2⟩ := flatMap_get enc k hk hk0 _ j u h
  simp only [List.length_take, List.length_drop] at h1
  have hdm := Nat.div_add_mod j k
  rw [Nat.mul_comm] at hdm
  generalize j / k = q at *
  generalize j % k = r at *
  have e : ((zs.drop a).take m)[q]! = zs[a + q]! := by
    rw [getElem!_pos _ _ (by simp; omega), getElem!_pos zs _ (by omega)]
    simp
  rw [e] at h2
  have := hc (a + q) (by omega) r u h2
  have e2 : off + (a + q) * k + r = off + a * k + j := by
    rw [Nat.add_mul]; omega
  rw [e2] at this
  exact this

theorem Ino.one (x : Ino) : ∀ u ∈ x.cells, u.oneCell' = true := by
  intro u hu; simp [Ino.cells] at hu; rcases hu with rfl | rfl | rfl | rfl | rfl | rfl <;> rfl
theorem Ent.one (x : Ent) : ∀ u ∈ x.cells, u.oneCell' = true := by
  intro u hu; simp [Ent.cells] at hu; rcases hu with rfl | rfl | rfl | rfl | rfl <;> rfl
theorem one_flat {α : Type} {enc : α → List Value} (h : ∀ x, ∀ u ∈ enc x, u.oneCell' = true) (zs : List α) : ∀ u ∈ zs.flatMap enc, u.oneCell' = true := by
  intro u hu
  obtain ⟨x, _, hx⟩ := List.mem_flatMap.1 hu
  exact h x u hx
end Go.Proofs.YtlokljaeknmdpaaGreat
