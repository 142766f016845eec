/-
  Opening deeds; no condition.
-/
import Derived.Test.YtmnkaohhjhjciaaOpen
import Derived.Test.YtmnkaohhjhjciaaDeed
namespace Go.Proofs.Ytmnkaohhjhjciaa
open Go.RowKit Go.ChangeShapes Go.Deep

section
variable {H : Type} {enc : TypeId × Value → H} {w : World} {base : Nat} {spare : Nat → Bool} {held : Bool}
set_option maxRecDepth 100000 in
theorem open_deed {fuel : Nat} {cs : List Value} {x : DataW H × List MemPlace} (h : DataW.trod enc Try.prog w base spare held fuel 48 cs = some x) : ∃ z : Deed, cs = z.cells ∧ z.e.name.size ≤ maxLen := by
  obtain ⟨xs, n, _, _, hl, hlen, hf⟩ := DataW.trod_struct Try.underlying48 h
  rw [show Try.prog.cellsOf 48 = 9 by kernel_rfl] at hl
  match xs, hlen with
  | [y0, y1, y2, y3, y4], _ =>
    have h0 := hf 0 _ rfl
    have h1 := hf 1 _ rfl
    have h2 := hf 2 _ rfl
    have h3 := hf 3 _ rfl
    have h4 := hf 4 _ rfl
    simp only [List.getElem?_cons_zero, List.getElem?_cons_succ] at h0 h1 h2 h3 h4
    obtain ⟨a, ha⟩ := open_i64 Try.underlying3 h0
    obtain ⟨b, hb⟩ := open_i64 Try.underlying3 h1
    obtain ⟨c, hc⟩ := open_i64 Try.underlying3 h2
    obtain ⟨d, hd, hds⟩ := open_ent h3
    obtain ⟨e, he, hes⟩ := open_text Try.underlying9 h4
    refine ⟨⟨a, b, c, d, e⟩, ?_, hds⟩
    match cs, hl with
    | [c0, c1, c2, c3, c4, c5, c6, c7, c8], _ =>
      have e0 : [c0] = [.int .i64 a] := ha
      have e1 : [c1] = [.int .i64 b] := hb
      have e2 : [c2] = [.int .i64 c] := hc
      have e3 : [c3, c4, c5, c6, c7] = d.cells := hd
      have e4 : [c8] = [.string e] := he
      simp [Ent.cells] at e0 e1 e2 e3 e4
      simp [Deed.cells, e0, e1, e2, e3, e4]
theorem open_st' {fuel : Nat} {cs : List Value} {x : DataW H × List MemPlace} (h : DataW.trod enc Try.prog w base spare held fuel 29 cs = some x) : ∃ z : St, cs = z.cells ∧ True := by
  obtain ⟨z, hz⟩ := open_st h
  exact ⟨z, hz, trivial⟩
end
end Go.Proofs.Ytmnkaohhjhjciaa
