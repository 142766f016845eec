/-
  What is fine, in plain words; no condition.
-/
import Derived.Test.YtfbjiaedfmdcfaaGreatDoorKY13
/-! ## FineLaw -/
namespace Go.Proofs.YtfbjiaedfmdcfaaGreatDoor
open Go.RowKit

theorem getElem!_mem {α : Type} [Inhabited α] {l : List α} {i : Nat} (h : i < l.length) : l[i]! ∈ l := by
  rw [getElem!_pos l i h]; exact List.getElem_mem h

end Go.Proofs.YtfbjiaedfmdcfaaGreatDoor
