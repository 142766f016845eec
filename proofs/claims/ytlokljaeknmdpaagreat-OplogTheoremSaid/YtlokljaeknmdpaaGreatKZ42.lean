/-
  Slices cut off; no condition but the cut's place.
-/
import Derived.Test.YtlokljaeknmdpaaGreatKZ32
/-! ## SlCut -/
namespace Go.Proofs.YtlokljaeknmdpaaGreat
open Go.RowKit Go.Shelf Go.Proofs

theorem SlAt.take {α : Type} [Inhabited α] {w : World} {n : Nat} {enc : α → List Value} {a : Option Addr} {m c : Nat} {zs : List α} (h : SlAt w n enc (.slice a m c) zs) {k : Nat} (hk : k ≤ zs.length) : SlAt w n enc (.slice a k c) (zs.take k) := by
  have hl : (zs.take k).length = k := by rw [List.length_take]; omega
  rcases h with ⟨a', c', h0, rfl⟩ | ⟨b, off, c', h0, h1, h2, h3, h4⟩
  · have : k = 0 := by simpa using hk
    subst this
    exact .inl ⟨a, c, rfl, rfl⟩
  · simp only [Value.slice.injEq] at h0
    obtain ⟨rfl, rfl, rfl⟩ := h0
    refine .inr ⟨b, off, c, by rw [hl], by omega, h2, h3, fun j hj i u hu => h4 j (by omega) i u ?_⟩
    rw [getElem!_pos _ j hj, List.getElem_take] at hu
    rw [getElem!_pos zs j (by omega)]; exact hu
theorem SlAt.drop {α : Type} [Inhabited α] {w : World} {n : Nat} {enc : α → List Value} {b off m c : Nat} {zs : List α} (h : SlAt w n enc (.slice (some ⟨b, off, none⟩) m c) zs) {k : Nat} (hk : k < zs.length) : SlAt w n enc (.slice (some ⟨b, off + k * n, none⟩) (m - k) (c - k)) (zs.drop k) := by
  rcases h with ⟨_, _, _, h0⟩ | ⟨b', off', c', h0, h1, h2, h3, h4⟩
  · rw [h0] at hk; exact absurd hk (Nat.not_lt_zero _)
  · simp only [Value.slice.injEq, Option.some.injEq, Addr.mk.injEq, and_true] at h0
    obtain ⟨⟨rfl, rfl⟩, rfl, rfl⟩ := h0
    have hl : (zs.drop k).length = zs.length - k := List.length_drop
    refine .inr ⟨b, off + k * n, c - k, by rw [hl], by rw [hl]; omega, by omega, h3, fun j hj i u hu => ?_⟩
    rw [getElem!_pos _ j hj, List.getElem_drop] at hu
    have := h4 (k + j) (by omega) i u (by rw [getElem!_pos zs (k + j) (by omega)]; exact hu)
    rw [← this]
    congr 2
    rw [Nat.add_mul]; omega
end Go.Proofs.YtlokljaeknmdpaaGreat
