/-
  The audit's rises; no condition.
-/
import Derived.Test.YtfbjiaedfmdcfaaGreatDoorKY10
import Derived.Shelf.GgClosure.Gives
/-! ## AudE -/
namespace Go.Proofs.YtfbjiaedfmdcfaaGreatDoor
open Go.RowKit Go.Shelf

theorem wrapNat (k : Nat) (h : k < 9223372036854775808) : IntKind.i64.wrap (k : Int) = (k : Int) := by
  rw [IntWalk.i64_left]
  unfold wrap64
  omega
theorem cellsEnt {w : World} {zs : List Ent} {b off : Nat} (hc : ∀ j, j < zs.length → ∀ i u, (Ent.cells zs[j]!)[i]? = some u → w.cell? ⟨b, off + j * 5 + i, none⟩ = some u) (j : Nat) (hj : j < zs.length) :
    w.cell? ⟨b, off + j * 5, none⟩ = some (.int .i64 zs[j]!.at_.t) ∧ w.cell? ⟨b, off + j * 5 + 1, none⟩ = some (.int .i64 zs[j]!.at_.r) ∧ w.cell? ⟨b, off + j * 5 + 2, none⟩ = some (.string zs[j]!.name) ∧ w.cell? ⟨b, off + j * 5 + 3, none⟩ = some (.int .i64 zs[j]!.ino.t) ∧ w.cell? ⟨b, off + j * 5 + 4, none⟩ = some (.int .i64 zs[j]!.ino.r) := by
  have h := hc j hj
  generalize zs[j]! = x at h
  exact ⟨h 0 _ rfl, h 1 _ rfl, h 2 _ rfl, h 3 _ rfl, h 4 _ rfl⟩

end Go.Proofs.YtfbjiaedfmdcfaaGreatDoor
