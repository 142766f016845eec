/-
  undo.Back: an operation is taken back; condition: the graph is in order, the record lies apart from the graph.
-/
import Derived.Test.YtlokljaeknmdpaaGreatKZ38
/-! ## UndoD -/
namespace Go.Proofs.YtlokljaeknmdpaaGreat
open Go.RowKit Go.Shelf Go.Proofs
set_option linter.unusedVariables false

theorem cellsSt' {w : World} {zs : List St} {b off : Nat} (hc : ∀ j, j < zs.length → ∀ i u, (St.cells zs[j]!)[i]? = some u → w.cell? ⟨b, off + j * 2 + i, none⟩ = some u) (j : Nat) (hj : j < zs.length) :
    w.cell? ⟨b, off + j * 2, none⟩ = some (.int .i64 zs[j]!.t) ∧ w.cell? ⟨b, off + j * 2 + 1, none⟩ = some (.int .i64 zs[j]!.r) := by
  have h := hc j hj
  generalize zs[j]! = x at h
  exact ⟨h 0 _ rfl, h 1 _ rfl⟩
theorem foldl_take {α β : Type} [Inhabited α] (f : β → α → β) (g : β) (l : List α) (i : Nat) (h : i < l.length) : (l.take (i + 1)).foldl f g = f ((l.take i).foldl f g) l[i]! := by
  rw [List.take_succ_eq_append_getElem h, List.foldl_append, getElem!_pos l i h]; rfl
theorem fold_ok {α : Type} (f : Gr → α → Gr) (hf : ∀ g x, g.Ok → (f g x).Ok) (l : List α) : ∀ {g : Gr}, g.Ok → (l.foldl f g).Ok := by
  induction l with
  | nil => intro g h; exact h
  | cons a l ih => intro g h; exact ih (hf _ _ h)
theorem remake_ok (g : Gr) (i : Ino) (h : g.Ok) : (g.remake i).Ok := (h.makeD _ _).setIf _ _ _

end Go.Proofs.YtlokljaeknmdpaaGreat
