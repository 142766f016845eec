/-
  A slice of deeds in memory; no condition.
-/
import Derived.Test.YtmnkaohhjhjciaaShown9
namespace Go.Proofs.Ytmnkaohhjhjciaa
open Go.RowKit Go.Shelf Go.Proofs

theorem ret_bool {a b : Bool} (h : a = b) : Ending.returned (.bool a) = .returned (.bool b) := by rw [h]
theorem cellsDeed {w : World} {zs : List Deed} {b off : Nat} (hc : ∀ j, j < zs.length → ∀ i u, (Deed.cells zs[j]!)[i]? = some u → w.cell? ⟨b, off + j * 9 + i, none⟩ = some u) (j : Nat) (hj : j < zs.length) :
    w.cell? ⟨b, off + j * 9, none⟩ = some (.int .i64 zs[j]!.kind) ∧ w.cell? ⟨b, off + j * 9 + 1, none⟩ = some (.int .i64 zs[j]!.of) ∧ w.cell? ⟨b, off + j * 9 + 2, none⟩ = some (.int .i64 zs[j]!.mode) ∧ w.cell? ⟨b, off + j * 9 + 3, none⟩ = some (.int .i64 zs[j]!.e.at_.t) ∧ w.cell? ⟨b, off + j * 9 + 4, none⟩ = some (.int .i64 zs[j]!.e.at_.r) ∧
      w.cell? ⟨b, off + j * 9 + 5, none⟩ = some (.string zs[j]!.e.name) ∧ w.cell? ⟨b, off + j * 9 + 6, none⟩ = some (.int .i64 zs[j]!.e.ino.t) ∧ w.cell? ⟨b, off + j * 9 + 7, none⟩ = some (.int .i64 zs[j]!.e.ino.r) ∧ w.cell? ⟨b, off + j * 9 + 8, none⟩ = some (.string zs[j]!.data) :=
  ⟨hc j hj 0 _ rfl, hc j hj 1 _ rfl, hc j hj 2 _ rfl, hc j hj 3 _ rfl, hc j hj 4 _ rfl, hc j hj 5 _ rfl, hc j hj 6 _ rfl, hc j hj 7 _ rfl, hc j hj 8 _ rfl⟩

end Go.Proofs.Ytmnkaohhjhjciaa
