/-
  Slices of structs; slices.ContainsFunc at them, by its contract; no condition. · What the audit's graph is; audit's there, directory; no condition. · The audit's predicates; no condition but the bound on a name's length. · The audit's predicates, further; no condition.
-/
import Derived.Test.YtfbjiaedfmdcfaaGreatDoorKY0
import Derived.Test.YtfbjiaedfmdcfaaGreatDoorKY8
import Derived.WalkKit
import Derived.Lib.SliceRun
import Derived.Test.YtfbjiaedfmdcfaaGreatDoorKY1
import Derived.Test.YtfbjiaedfmdcfaaGreatDoorKY4
/-! ## Sl -/
namespace Go.Proofs.YtfbjiaedfmdcfaaGreatDoor
open Go.RowKit Go.Shelf

/-- v is a slice of the list zs; an element has k cells -/
def SlAt {α : Type} [Inhabited α] (w : World) (k : Nat) (enc : α → List Value) (v : Value) (zs : List α) : Prop :=
  (∃ a c, v = .slice a 0 c ∧ zs = []) ∨ ∃ b off c, v = .slice (some ⟨b, off, none⟩) zs.length c ∧ zs.length ≤ c ∧ c ≤ maxLen ∧ b < w.heap.size ∧ ∀ j, j < zs.length → ∀ i u, (enc zs[j]!)[i]? = some u → w.cell? ⟨b, off + j * k + i, none⟩ = some u

theorem SlAt.below {α : Type} [Inhabited α] {w w' : World} {k : Nat} {enc : α → List Value} {v : Value} {zs : List α} (h : SlAt w k enc v zs) (hb : Below w.heap.size w w') : SlAt w' k enc v zs := by
  rcases h with h | ⟨b, off, c, rfl, h1, h2, h3, h4⟩
  · exact .inl h
  · exact .inr ⟨b, off, c, rfl, h1, h2, Nat.lt_of_lt_of_le h3 hb.size, fun j hj i u hu => (hb.cell (p := ⟨b, _, none⟩) h3).trans (h4 j hj i u hu)⟩

/-- its length -/
theorem SlAt.len {α : Type} [Inhabited α] {w : World} {k : Nat} {enc : α → List Value} {v : Value} {zs : List α} (h : SlAt w k enc v zs) : ∃ a c, v = .slice a zs.length c := by
  rcases h with ⟨a, c, rfl, rfl⟩ | ⟨b, off, c, rfl, _⟩
  · exact ⟨a, c, rfl⟩
  · exact ⟨_, _, rfl⟩

end Go.Proofs.YtfbjiaedfmdcfaaGreatDoor

/-! ## AudA -/
namespace Go.Proofs.YtfbjiaedfmdcfaaGreatDoor
open Go.RowKit Go.Shelf

/-- how many entries lead to an inode -/
def linksTo (e : List Ent) (id : St) : Nat := (e.filter fun x => decide (x.ino = id)).length
theorem MapAt.below {K V : Type} {w w' : World} {b B : Nat} {enc : K → Value} {encV : V → Value} {kv : List (K × V)} (h : MapAt w b enc encV kv) (hb : Below B w w') (hB : b < B) : MapAt w' b enc encV kv := by
  obtain ⟨es, ck, h1, h2, h3⟩ := h
  exact ⟨es, ck, (hb.block b hB).trans h1, h2, h3⟩

theorem cell_new (w : World) (b : Nat) (hb : b = w.heap.size) (cs : Array Value) (t : TypeId) (i : Nat) (v : Value) (h : cs[i]? = some v) : (w.alloc (.cells cs t)).cell? ⟨b, i, none⟩ = some v := by
  subst hb
  have e := World.alloc_heap_new w (.cells cs t)
  unfold World.cell?
  simp only [e]
  simpa using h
end Go.Proofs.YtfbjiaedfmdcfaaGreatDoor

/-! ## AudB -/
namespace Go.Proofs.YtfbjiaedfmdcfaaGreatDoor
open Go.RowKit Go.Shelf

/-- a parameter's box behind a call -/
theorem after1 {w w' : World} {cs : Array Value} {t : TypeId} (hb : Below (w.alloc (.cells cs t)).heap.size (w.alloc (.cells cs t)) w') : (∀ i v, cs[i]? = some v → w'.cell? ⟨w.heap.size, i, none⟩ = some v) ∧ Below w.heap.size w w' :=
  ⟨fun i v h => (hb.cell (p := ⟨w.heap.size, i, none⟩) (by simp)).trans (cell_new w _ rfl _ _ i v h), ((Below.refl _ w).alloc (Nat.le_refl _) _).trans (hb.mono (by simp))⟩

end Go.Proofs.YtfbjiaedfmdcfaaGreatDoor

/-! ## AudC -/
namespace Go.Proofs.YtfbjiaedfmdcfaaGreatDoor
open Go.RowKit Go.Shelf

end Go.Proofs.YtfbjiaedfmdcfaaGreatDoor
