/-
  The row of the statement AuditGraph, out of its walk: no condition but the form's own.
-/
import Derived.Test.YtlokljaeknmdpaaGreatRows
import Derived.Test.YtlokljaeknmdpaaGreatQAGraph
import Derived.Test.YtlokljaeknmdpaaGreatQOpen
import Derived.Test.YtlokljaeknmdpaaGreatQOpenU
import Derived.WalkKit
import Derived.ProofKit
import Derived.OpenShut
import Derived.ShutString
import Derived.ChangeOld
import Derived.Below
import Derived.SizedLaws
namespace Go.Proofs.YtlokljaeknmdpaaGreat.auditGraph
open Go.ChangeShapes Go.WideShapes Go.ChangeAt Go.RowKit
open Go.ChangeMaps (open_string shut_string)
set_option linter.unusedVariables false
theorem own : ownKnob Tryz.prog.godebug = none := by kernel_rfl
theorem laid : laidOutB Tryz.prog = true := by kernel_rfl
set_option maxRecDepth 100000 in
theorem lifted (os : Os) (started : os.Started) (H : Type) (enc : TypeId × Value → H) :
    ReturnsInHanded {} Tryz.checked os 3 .any (Rows.auditGraphSpec.pre6 enc Tryz.prog Tryz.f3 Rows.auditGraphRow.domain false) (Rows.auditGraphSpec.post enc Tryz.prog Tryz.f3 false true false false) := by
  refine returnsInHanded_of_change_sized (C := Tryz.checked) own started (by kernel_rfl) Tryz.func3
    (ChangeSpec.witness6 (enc := enc) (C := Tryz.checked) false ⟨#[], #[.slice none 0 0, .slice none 0 0, .slice none 0 0], []⟩ 8 (by kernel_rfl) (by kernel_rfl) (by kernel_rfl) (by kernel_rfl)) ?_
  intro W base args ds gs before hval0 hW hcnd hsz0 _
  have hsz : (DataW.weightsEach Tryz.prog (Tryz.f3.params.toList ++ Rows.auditGraphSpec.plain.varTypes Tryz.prog) (ds ++ gs)).all (· ≤ reachBytes) = true := hsz0
  have hval : ∀ (j : Nat) t v, Tryz.f3.params[j]? = some t → args[j]? = some v → Value.okWide Tryz.prog W .any base t v := hval0
  have hW' := hW
  obtain ⟨p, q, hA0, hV, rfl, hfz, hnd⟩ := hW
  have hA : DataW.TrodAll enc Tryz.prog W 0 (fun _ => true) true Tryz.f3.params.toList args.toList ds p := hA0
  rw [Tryz.params3] at hA hval hsz
  obtain ⟨v0, vs0, d0, ds0, p0, q0, hargs, rfl, rfl, h0, r0⟩ := trodAll_cons hA
  obtain ⟨v1, vs1, d1, ds1, p1, q1, rfl, rfl, rfl, h1, r1⟩ := trodAll_cons r0
  obtain ⟨v2, vs2, d2, ds2, p2, q2, rfl, rfl, rfl, h2, r2⟩ := trodAll_cons r1
  obtain ⟨rfl, rfl, rfl⟩ := trodAll_nil r2
  obtain rfl : args = #[v0, v1, v2] := by cases args; simp_all
  obtain ⟨rfl, rfl⟩ := trodVars_none hV
  have hv0 : ∃ a len cap, v0 = .slice a len cap := okWide_slice Tryz.underlying22 (hval 0 22 v0 rfl rfl)
  obtain ⟨fuel0, hd0⟩ := h0
  have hp0 : ∀ x ∈ p0, x.block < W.heap.size := fun x hx => DataW.trod_lt _ _ _ _ hd0 x hx
  have hT0 : DataW.Trod enc Tryz.prog W 0 (fun _ => true) true 22 v0 d0 p0 := ⟨fuel0, hd0⟩
  obtain ⟨z0, s0, y0⟩ := open_list (encE := St.cells) (Q := fun z : St => True) (k := 2) Tryz.underlying22 (by kernel_rfl) (by omega) (fun n cs y h => (open_st h).imp fun _ e => And.intro e trivial) hd0 hv0
  have hv1 : ∃ a len cap, v1 = .slice a len cap := okWide_slice Tryz.underlying23 (hval 1 23 v1 rfl rfl)
  obtain ⟨fuel1, hd1⟩ := h1
  have hp1 : ∀ x ∈ p1, x.block < W.heap.size := fun x hx => DataW.trod_lt _ _ _ _ hd1 x hx
  have hT1 : DataW.Trod enc Tryz.prog W 0 (fun _ => true) true 23 v1 d1 p1 := ⟨fuel1, hd1⟩
  obtain ⟨z1, s1, y1⟩ := open_list (encE := I64.cells) (Q := fun z : Int => True) (k := 1) Tryz.underlying23 (by kernel_rfl) (by omega) (fun n cs y h => open_int64 h) hd1 hv1
  have hv2 : ∃ a len cap, v2 = .slice a len cap := okWide_slice Tryz.underlying24 (hval 2 24 v2 rfl rfl)
  obtain ⟨fuel2, hd2⟩ := h2
  have hp2 : ∀ x ∈ p2, x.block < W.heap.size := fun x hx => DataW.trod_lt _ _ _ _ hd2 x hx
  have hT2 : DataW.Trod enc Tryz.prog W 0 (fun _ => true) true 24 v2 d2 p2 := ⟨fuel2, hd2⟩
  obtain ⟨z2, s2, y2⟩ := open_list (encE := Ent.cells) (Q := fun z : Ent => z.name.size ≤ maxLen) (k := 5) Tryz.underlying24 (by kernel_rfl) (by omega) (fun n cs y h => open_ent h) hd2 hv2
  clear hA0 hval0 hsz0 hsz
  refine (L10.graph_walk v0 z0 v1 z1 v2 z2 W s0 y0 s1 y1 s2 y2).mono fun e W' ⟨he, bel⟩ => ?_
  subst he
  exact ⟨_, rfl, _, _, _, [], _, [], hW', trodAll_mk1 (shut_bool Tryz.underlying4 _), (trodAll_cons_mk (Below.trod laid (by kernel_rfl) (of_decide_eq_true (by kernel_rfl)) hT0 bel hp0) (trodAll_cons_mk (Below.trod laid (by kernel_rfl) (of_decide_eq_true (by kernel_rfl)) hT1 bel hp1) (trodAll_cons_mk (Below.trod laid (by kernel_rfl) (of_decide_eq_true (by kernel_rfl)) hT2 bel hp2) trodAll_mk0))), rfl, bel.frame _, fun h => by cases h⟩
theorem named : Tryz.pinned.checked.prog.funcNamed Rows.auditGraphRow.func = some 3 := by kernel_rfl
theorem facts : joinedFacts Tryz.pinned.checked.prog 3 Tryz.f3 Rows.auditGraphSpec Rows.auditGraphRow = true := by kernel_rfl
theorem inst : Tryz.f3.isInstance Tryz.pinned.checked.prog Rows.auditGraphRow.origin Rows.auditGraphRow.targs := of_decide_eq_true (by kernel_rfl)
theorem wrap : Tryz.f3.isWrapper Tryz.pinned.checked.prog Rows.auditGraphRow.wrapper Rows.auditGraphRow.mainSum := by unfold Func.isWrapper; rw [if_neg (of_decide_eq_false (by kernel_rfl))]; exact ⟨rfl, rfl⟩
theorem over : Rows.auditGraphRow.holds Tryz.pinned (OpenSpec.ofChange Rows.auditGraphSpec) :=
  OpenClaim.holds_of_wide 3 Tryz.f3 rfl rfl rfl rfl rfl rfl rfl ⟨rfl, rfl, rfl, rfl, rfl⟩ rfl rfl rfl rfl rfl named Tryz.func3 facts inst wrap
    (fun os started H enc _ => lifted os started H enc)
end Go.Proofs.YtlokljaeknmdpaaGreat.auditGraph
namespace Go.Proofs.YtlokljaeknmdpaaGreat
theorem auditGraph_holds : Rows.AuditGraphSaid := auditGraph.over
#print axioms auditGraph_holds
end Go.Proofs.YtlokljaeknmdpaaGreat

