/-
  Opening a parameter that is a slice of inodes, of entries; no condition.
-/
import Derived.Test.YtfbjiaedfmdcfaaGreatDoorKY9
import Derived.Deep.Slices
import Derived.ChangeOld
/-! ## Open -/
namespace Go.Proofs.YtfbjiaedfmdcfaaGreatDoor
open Go.RowKit Go.ChangeShapes Go.Deep

section
variable {H : Type} {enc : TypeId × Value → H} {w : World} {base : Nat} {spare : Nat → Bool} {held : Bool}

theorem open_i64 {t : TypeId} {fuel : Nat} {cs : List Value} {x : DataW H × List MemPlace} (ht : Tryz.prog.underlying t = some (.int .i64)) (h : DataW.trod enc Tryz.prog w base spare held fuel t cs = some x) : ∃ n, cs = [.int .i64 n] := by
  cases fuel with
  | zero => simp [DataW.trod] at h
  | succ n =>
    unfold DataW.trod at h
    rw [ht] at h
    split at h <;> simp_all

theorem list2 {cs : List Value} {a b : Value} (hl : cs.length = 2) (h0 : (cs.drop 0).take 1 = [a]) (h1 : (cs.drop 1).take 1 = [b]) : cs = [a, b] := by
  match cs, hl with
  | [x, y], _ => simp at h0 h1; simp [h0, h1]

set_option maxRecDepth 100000 in
theorem open_st {fuel : Nat} {cs : List Value} {x : DataW H × List MemPlace} (h : DataW.trod enc Tryz.prog w base spare held fuel 26 cs = some x) : ∃ z : St, cs = z.cells := by
  obtain ⟨xs, n, _, _, hl, hlen, hf⟩ := DataW.trod_struct Tryz.underlying26 h
  rw [show Tryz.prog.cellsOf 26 = 2 by kernel_rfl] at hl
  match xs, hlen with
  | [y0, y1], _ =>
    have h0 := hf 0 _ rfl
    have h1 := hf 1 _ rfl
    simp only [List.getElem?_cons_zero, List.getElem?_cons_succ] at h0 h1
    obtain ⟨a, ha⟩ := open_i64 Tryz.underlying2 h0
    obtain ⟨b, hb⟩ := open_i64 Tryz.underlying3 h1
    exact ⟨⟨a, b⟩, list2 hl ha hb⟩

end
end Go.Proofs.YtfbjiaedfmdcfaaGreatDoor
