/-
  The row of the statement GraphNothing, out of its walk: no condition but the form's own.
-/
import Derived.Test.YtmnkaohhjhjciaaRows
import Derived.Test.YtmnkaohhjhjciaaNothing
import Derived.Test.YtmnkaohhjhjciaaOpen
import Derived.Test.YtmnkaohhjhjciaaOpenD
import Derived.WalkKit
import Derived.ProofKit
import Derived.OpenShut
import Derived.ShutString
import Derived.ChangeOld
import Derived.Below
import Derived.SizedLaws
namespace Go.Proofs.Ytmnkaohhjhjciaa.graphNothing
open Go.ChangeShapes Go.WideShapes Go.ChangeAt Go.RowKit
open Go.ChangeMaps (open_string shut_string)
set_option linter.unusedVariables false
theorem own : ownKnob Try.prog.godebug = none := by kernel_rfl
theorem laid : laidOutB Try.prog = true := by kernel_rfl
set_option maxRecDepth 100000 in
theorem lifted (os : Os) (started : os.Started) (H : Type) (enc : TypeId × Value → H) :
    ReturnsInHanded {} Try.checked os 9 .any (Rows.graphNothingSpec.pre6 enc Try.prog Try.f9 Rows.graphNothingRow.domain false) (Rows.graphNothingSpec.post enc Try.prog Try.f9 false true false false) := by
  refine returnsInHanded_of_change_sized (C := Try.checked) own started (by kernel_rfl) Try.func9
    (ChangeSpec.witness6 (enc := enc) (C := Try.checked) false ⟨#[], #[.slice none 0 0, .agg #[.int .i64 0, .int .i64 0, .int .i64 0, .int .i64 0, .int .i64 0, .string ByteArray.empty, .int .i64 0, .int .i64 0, .string ByteArray.empty]], []⟩ 8 (by kernel_rfl) (by kernel_rfl) (by kernel_rfl) (by kernel_rfl)) ?_
  intro W base args ds gs before hval0 hW hcnd hsz0 _
  have hsz : (DataW.weightsEach Try.prog (Try.f9.params.toList ++ Rows.graphNothingSpec.plain.varTypes Try.prog) (ds ++ gs)).all (· ≤ reachBytes) = true := hsz0
  have hval : ∀ (j : Nat) t v, Try.f9.params[j]? = some t → args[j]? = some v → Value.okWide Try.prog W .any base t v := hval0
  have hW' := hW
  obtain ⟨p, q, hA0, hV, rfl, hfz, hnd⟩ := hW
  have hA : DataW.TrodAll enc Try.prog W 0 (fun _ => true) true Try.f9.params.toList args.toList ds p := hA0
  rw [Try.params9] at hA hval hsz
  obtain ⟨v0, vs0, d0, ds0, p0, q0, hargs, rfl, rfl, h0, r0⟩ := trodAll_cons hA
  obtain ⟨v1, vs1, d1, ds1, p1, q1, rfl, rfl, rfl, h1, r1⟩ := trodAll_cons r0
  obtain ⟨rfl, rfl, rfl⟩ := trodAll_nil r1
  obtain rfl : args = #[v0, v1] := by cases args; simp_all
  obtain ⟨rfl, rfl⟩ := trodVars_none hV
  have hv0 : ∃ a len cap, v0 = .slice a len cap := okWide_slice Try.underlying39 (hval 0 39 v0 rfl rfl)
  obtain ⟨fuel0, hd0⟩ := h0
  have hp0 : ∀ x ∈ p0, x.block < W.heap.size := fun x hx => DataW.trod_lt _ _ _ _ hd0 x hx
  have hT0 : DataW.Trod enc Try.prog W 0 (fun _ => true) true 39 v0 d0 p0 := ⟨fuel0, hd0⟩
  obtain ⟨z0, s0, y0⟩ := open_list (encE := Deed.cells) (Q := fun z : Deed => z.e.name.size ≤ maxLen) (k := 9) Try.underlying39 (by kernel_rfl) (by omega) (fun n cs y h => open_deed h) hd0 hv0
  obtain ⟨cs1, rfl, hcs1⟩ := okWide_struct Try.underlying48 (hval 1 48 v1 rfl rfl)
  obtain ⟨fuel1, hd1⟩ := h1
  have hp1 : ∀ x ∈ p1, x.block < W.heap.size := fun x hx => DataW.trod_lt _ _ _ _ hd1 x hx
  have hT1 : DataW.Trod enc Try.prog W 0 (fun _ => true) true 48 (.agg cs1) d1 p1 := ⟨fuel1, hd1⟩
  obtain ⟨z1, e1, y1⟩ := open_deed hd1
  obtain rfl : cs1 = z1.cells.toArray := by apply Array.ext'; exact e1
  clear hA0 hval0 hsz0 hsz
  refine (nothing_walk v0 z0 z1 W s0 y0 y1).mono fun e W' ⟨he, bel⟩ => ?_
  subst he
  exact ⟨_, rfl, _, _, _, [], _, [], hW', trodAll_mk1 (shut_bool Try.underlying4 _), (trodAll_cons_mk (Below.trod laid (by kernel_rfl) (of_decide_eq_true (by kernel_rfl)) hT0 bel hp0) (trodAll_cons_mk (Below.trod laid (by kernel_rfl) (of_decide_eq_true (by kernel_rfl)) hT1 bel hp1) trodAll_mk0)), rfl, bel.frame _, fun h => by cases h⟩
theorem over : Rows.graphNothingRow.holds Try.pinned (OpenSpec.ofChange Rows.graphNothingSpec) :=
  OpenClaim.holds_of_wide 9 Try.f9 rfl rfl rfl rfl rfl rfl rfl ⟨rfl, rfl, rfl, rfl, rfl⟩ rfl rfl rfl rfl rfl (by kernel_rfl) Try.func9 (by kernel_rfl)
    (of_decide_eq_true (by kernel_rfl)) (by unfold Func.isWrapper; rw [if_neg (of_decide_eq_false (by kernel_rfl))]; exact ⟨rfl, rfl⟩)
    (fun os started H enc _ => lifted os started H enc)
end Go.Proofs.Ytmnkaohhjhjciaa.graphNothing
namespace Go.Proofs.Ytmnkaohhjhjciaa
theorem graphNothing_holds : Rows.GraphNothingSaid := graphNothing.over
#print axioms graphNothing_holds
end Go.Proofs.Ytmnkaohhjhjciaa

