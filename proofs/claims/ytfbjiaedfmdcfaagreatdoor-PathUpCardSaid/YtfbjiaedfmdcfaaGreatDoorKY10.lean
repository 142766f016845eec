/-
  The audit's order; no condition.
-/
import Derived.Test.YtfbjiaedfmdcfaaGreatDoorKY9
import Derived.Deep.RegionHeld3
/-! ## AudD -/
namespace Go.Proofs.YtfbjiaedfmdcfaaGreatDoor
open Go.RowKit Go.Shelf

/-- two parameters' boxes behind a call in a drawn region -/
theorem after2 {w w' : World} {cs ds : Array Value} {t u : TypeId} (h : New (((w.alloc (.cells cs t)).alloc (.cells ds u)).drew) w') : (∀ i v, cs[i]? = some v → w'.cell? ⟨w.heap.size, i, none⟩ = some v) ∧ (∀ i v, ds[i]? = some v → w'.cell? ⟨w.heap.size + 1, i, none⟩ = some v) := by
  have hb := h.below
  refine ⟨fun i v hv => (hb.cell (p := ⟨w.heap.size, i, none⟩) (by show _ < ((w.alloc _).alloc _).heap.size; simp only [World.size_alloc]; omega)).trans ?_, fun i v hv => (hb.cell (p := ⟨w.heap.size + 1, i, none⟩) (by show _ < ((w.alloc _).alloc _).heap.size; simp only [World.size_alloc]; omega)).trans ?_⟩
  · exact Lib.cell?_alloc_some _ (cell_new w _ rfl _ _ i v hv)
  · exact cell_new (w.alloc _) _ (by simp) _ _ i v hv

end Go.Proofs.YtfbjiaedfmdcfaaGreatDoor
