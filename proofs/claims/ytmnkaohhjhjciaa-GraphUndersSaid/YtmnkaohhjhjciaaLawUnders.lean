/-
  The row of the statement GraphUnders, out of its walk: no condition but the form's own.
-/
import Derived.Test.YtmnkaohhjhjciaaRows
import Derived.Test.YtmnkaohhjhjciaaUnders
import Derived.Test.YtmnkaohhjhjciaaOpen
import Derived.Test.YtmnkaohhjhjciaaOpenD
import Derived.WalkKit
import Derived.ProofKit
import Derived.OpenShut
import Derived.ShutString
import Derived.ChangeOld
import Derived.Below
import Derived.SizedLaws
namespace Go.Proofs.Ytmnkaohhjhjciaa.graphUnders
open Go.ChangeShapes Go.WideShapes Go.ChangeAt Go.RowKit
open Go.ChangeMaps (open_string shut_string)
set_option linter.unusedVariables false
theorem own : ownKnob Try.prog.godebug = none := by kernel_rfl
theorem laid : laidOutB Try.prog = true := by kernel_rfl
set_option maxRecDepth 100000 in
theorem lifted (os : Os) (started : os.Started) (H : Type) (enc : TypeId × Value → H) :
    ReturnsInHanded {} Try.checked os 7 .any (Rows.graphUndersSpec.pre6 enc Try.prog Try.f7 Rows.graphUndersRow.domain false) (Rows.graphUndersSpec.post enc Try.prog Try.f7 false true false false) := by
  refine returnsInHanded_of_change_sized (C := Try.checked) own started (by kernel_rfl) Try.func7
    (ChangeSpec.witness6 (enc := enc) (C := Try.checked) false ⟨#[], #[.slice none 0 0, .agg #[.int .i64 0, .int .i64 0], .agg #[.int .i64 0, .int .i64 0], .agg #[.int .i64 0, .int .i64 0]], []⟩ 8 (by kernel_rfl) (by kernel_rfl) (by kernel_rfl) (by kernel_rfl)) ?_
  intro W base args ds gs before hval0 hW hcnd hsz0 _
  have hsz : (DataW.weightsEach Try.prog (Try.f7.params.toList ++ Rows.graphUndersSpec.plain.varTypes Try.prog) (ds ++ gs)).all (· ≤ reachBytes) = true := hsz0
  have hval : ∀ (j : Nat) t v, Try.f7.params[j]? = some t → args[j]? = some v → Value.okWide Try.prog W .any base t v := hval0
  have hW' := hW
  obtain ⟨p, q, hA0, hV, rfl, hfz, hnd⟩ := hW
  have hA : DataW.TrodAll enc Try.prog W 0 (fun _ => true) true Try.f7.params.toList args.toList ds p := hA0
  rw [Try.params7] at hA hval hsz
  obtain ⟨v0, vs0, d0, ds0, p0, q0, hargs, rfl, rfl, h0, r0⟩ := trodAll_cons hA
  obtain ⟨v1, vs1, d1, ds1, p1, q1, rfl, rfl, rfl, h1, r1⟩ := trodAll_cons r0
  obtain ⟨v2, vs2, d2, ds2, p2, q2, rfl, rfl, rfl, h2, r2⟩ := trodAll_cons r1
  obtain ⟨v3, vs3, d3, ds3, p3, q3, rfl, rfl, rfl, h3, r3⟩ := trodAll_cons r2
  obtain ⟨rfl, rfl, rfl⟩ := trodAll_nil r3
  obtain rfl : args = #[v0, v1, v2, v3] := by cases args; simp_all
  obtain ⟨rfl, rfl⟩ := trodVars_none hV
  have hv0 : ∃ a len cap, v0 = .slice a len cap := okWide_slice Try.underlying39 (hval 0 39 v0 rfl rfl)
  obtain ⟨fuel0, hd0⟩ := h0
  have hp0 : ∀ x ∈ p0, x.block < W.heap.size := fun x hx => DataW.trod_lt _ _ _ _ hd0 x hx
  have hT0 : DataW.Trod enc Try.prog W 0 (fun _ => true) true 39 v0 d0 p0 := ⟨fuel0, hd0⟩
  obtain ⟨z0, s0, y0⟩ := open_list (encE := Deed.cells) (Q := fun z : Deed => z.e.name.size ≤ maxLen) (k := 9) Try.underlying39 (by kernel_rfl) (by omega) (fun n cs y h => open_deed h) hd0 hv0
  obtain ⟨cs1, rfl, hcs1⟩ := okWide_struct Try.underlying29 (hval 1 29 v1 rfl rfl)
  obtain ⟨fuel1, hd1⟩ := h1
  have hp1 : ∀ x ∈ p1, x.block < W.heap.size := fun x hx => DataW.trod_lt _ _ _ _ hd1 x hx
  have hT1 : DataW.Trod enc Try.prog W 0 (fun _ => true) true 29 (.agg cs1) d1 p1 := ⟨fuel1, hd1⟩
  obtain ⟨z1, e1, y1⟩ := open_st' hd1
  obtain rfl : cs1 = z1.cells.toArray := by apply Array.ext'; exact e1
  obtain ⟨cs2, rfl, hcs2⟩ := okWide_struct Try.underlying29 (hval 2 29 v2 rfl rfl)
  obtain ⟨fuel2, hd2⟩ := h2
  have hp2 : ∀ x ∈ p2, x.block < W.heap.size := fun x hx => DataW.trod_lt _ _ _ _ hd2 x hx
  have hT2 : DataW.Trod enc Try.prog W 0 (fun _ => true) true 29 (.agg cs2) d2 p2 := ⟨fuel2, hd2⟩
  obtain ⟨z2, e2, y2⟩ := open_st' hd2
  obtain rfl : cs2 = z2.cells.toArray := by apply Array.ext'; exact e2
  obtain ⟨cs3, rfl, hcs3⟩ := okWide_struct Try.underlying29 (hval 3 29 v3 rfl rfl)
  obtain ⟨fuel3, hd3⟩ := h3
  have hp3 : ∀ x ∈ p3, x.block < W.heap.size := fun x hx => DataW.trod_lt _ _ _ _ hd3 x hx
  have hT3 : DataW.Trod enc Try.prog W 0 (fun _ => true) true 29 (.agg cs3) d3 p3 := ⟨fuel3, hd3⟩
  obtain ⟨z3, e3, y3⟩ := open_st' hd3
  obtain rfl : cs3 = z3.cells.toArray := by apply Array.ext'; exact e3
  clear hA0 hval0 hsz0 hsz
  refine (unders_walk v0 z0 z1 z2 z3 W s0 y0).mono fun e W' ⟨he, bel⟩ => ?_
  subst he
  exact ⟨_, rfl, _, _, _, [], _, [], hW', trodAll_mk1 (shut_bool Try.underlying4 _), (trodAll_cons_mk (Below.trod laid (by kernel_rfl) (of_decide_eq_true (by kernel_rfl)) hT0 bel hp0) (trodAll_cons_mk (Below.trod laid (by kernel_rfl) (of_decide_eq_true (by kernel_rfl)) hT1 bel hp1) (trodAll_cons_mk (Below.trod laid (by kernel_rfl) (of_decide_eq_true (by kernel_rfl)) hT2 bel hp2) (trodAll_cons_mk (Below.trod laid (by kernel_rfl) (of_decide_eq_true (by kernel_rfl)) hT3 bel hp3) trodAll_mk0)))), rfl, bel.frame _, fun h => by cases h⟩
theorem over : Rows.graphUndersRow.holds Try.pinned (OpenSpec.ofChange Rows.graphUndersSpec) :=
  OpenClaim.holds_of_wide 7 Try.f7 rfl rfl rfl rfl rfl rfl rfl ⟨rfl, rfl, rfl, rfl, rfl⟩ rfl rfl rfl rfl rfl (by kernel_rfl) Try.func7 (by kernel_rfl)
    (of_decide_eq_true (by kernel_rfl)) (by unfold Func.isWrapper; rw [if_neg (of_decide_eq_false (by kernel_rfl))]; exact ⟨rfl, rfl⟩)
    (fun os started H enc _ => lifted os started H enc)
end Go.Proofs.Ytmnkaohhjhjciaa.graphUnders
namespace Go.Proofs.Ytmnkaohhjhjciaa
theorem graphUnders_holds : Rows.GraphUndersSaid := graphUnders.over
#print axioms graphUnders_holds
end Go.Proofs.Ytmnkaohhjhjciaa

