/-
  What the audit's graph is; audit's there, directory; no condition. · The audit's predicates; no condition but the bound on a name's length. · The audit's predicates, further; no condition.
-/
import Derived.Test.YtlokljaeknmdpaaGreatKZ8
import Derived.Test.YtlokljaeknmdpaaGreatKZ0
import Derived.Test.YtlokljaeknmdpaaGreatKZ1
/-! ## AudA -/
namespace Go.Proofs.YtlokljaeknmdpaaGreat
open Go.RowKit Go.Shelf

/-- how many entries lead to an inode -/
def linksTo (e : List Ent) (id : St) : Nat := (e.filter fun x => decide (x.ino = id)).length
theorem MapAt.below {K V : Type} {w w' : World} {b B : Nat} {enc : K → Value} {encV : V → Value} {kv : List (K × V)} (h : MapAt w b enc encV kv) (hb : Below B w w') (hB : b < B) : MapAt w' b enc encV kv := by
  obtain ⟨es, ck, h1, h2, h3⟩ := h
  exact ⟨es, ck, (hb.block b hB).trans h1, h2, h3⟩

theorem cell_new (w : World) (b : Nat) (hb : b = w.heap.size) (cs : Array Value) (t : TypeId) (i : Nat) (v : Value) (h : cs[i]? = some v) : (w.alloc (.cells cs t)).cell? ⟨b, i, none⟩ = some v := by
  subst hb
  have e := World.alloc_heap_new w (.cells cs t)
  unfold World.cell?
  simp only [e]
  simpa using h
end Go.Proofs.YtlokljaeknmdpaaGreat

/-! ## AudB -/
namespace Go.Proofs.YtlokljaeknmdpaaGreat
open Go.RowKit Go.Shelf

/-- a parameter's box behind a call -/
theorem after1 {w w' : World} {cs : Array Value} {t : TypeId} (hb : Below (w.alloc (.cells cs t)).heap.size (w.alloc (.cells cs t)) w') : (∀ i v, cs[i]? = some v → w'.cell? ⟨w.heap.size, i, none⟩ = some v) ∧ Below w.heap.size w w' :=
  ⟨fun i v h => (hb.cell (p := ⟨w.heap.size, i, none⟩) (by simp)).trans (cell_new w _ rfl _ _ i v h), ((Below.refl _ w).alloc (Nat.le_refl _) _).trans (hb.mono (by simp))⟩

end Go.Proofs.YtlokljaeknmdpaaGreat

/-! ## AudC -/
namespace Go.Proofs.YtlokljaeknmdpaaGreat
open Go.RowKit Go.Shelf

end Go.Proofs.YtlokljaeknmdpaaGreat
