/-
  The row of the statement OplogTheorem, out of its walk: no condition but the form's own.
-/
import Derived.Test.YtlokljaeknmdpaaGreatRows
import Derived.Test.YtlokljaeknmdpaaGreatKZ48
import Derived.Test.YtlokljaeknmdpaaGreatKZ33
import Derived.Test.YtlokljaeknmdpaaGreatKZ48
import Derived.WalkKit
import Derived.ProofKit
import Derived.OpenShut
import Derived.ShutString
import Derived.ChangeOld
import Derived.Below
import Derived.SizedLaws
namespace Go.Proofs.YtlokljaeknmdpaaGreat.oplogTheorem
open Go.ChangeShapes Go.WideShapes Go.ChangeAt Go.RowKit
open Go.ChangeMaps (open_string shut_string)
set_option linter.unusedVariables false
theorem own : ownKnob Tryz.prog.godebug = none := by kernel_rfl
theorem laid : laidOutB Tryz.prog = true := by kernel_rfl
set_option maxRecDepth 100000 in
theorem lifted (os : Os) (started : os.Started) (H : Type) (enc : TypeId × Value → H) :
    ReturnsInHanded {} Tryz.checked os 15 .any (Rows.oplogTheoremSpec.pre6 enc Tryz.prog Tryz.f15 Rows.oplogTheoremRow.domain false) (Rows.oplogTheoremSpec.post enc Tryz.prog Tryz.f15 false true false false) := by
  refine returnsInHanded_of_change_sized (C := Tryz.checked) own started (by kernel_rfl) Tryz.func15
    (ChangeSpec.witness6 (enc := enc) (C := Tryz.checked) false ⟨#[], #[.slice none 0 0], []⟩ 8 (by kernel_rfl) (by kernel_rfl) (by kernel_rfl) (by kernel_rfl)) ?_
  intro W base args ds gs before hval0 hW hcnd hsz0 _
  have hsz : (DataW.weightsEach Tryz.prog (Tryz.f15.params.toList ++ Rows.oplogTheoremSpec.plain.varTypes Tryz.prog) (ds ++ gs)).all (· ≤ reachBytes) = true := hsz0
  have hval : ∀ (j : Nat) t v, Tryz.f15.params[j]? = some t → args[j]? = some v → Value.okWide Tryz.prog W .any base t v := hval0
  have hW' := hW
  obtain ⟨p, q, hA0, hV, rfl, hfz, hnd⟩ := hW
  have hA : DataW.TrodAll enc Tryz.prog W 0 (fun _ => true) true Tryz.f15.params.toList args.toList ds p := hA0
  rw [Tryz.params15] at hA hval hsz
  obtain ⟨v0, vs0, d0, ds0, p0, q0, hargs, rfl, rfl, h0, r0⟩ := trodAll_cons hA
  obtain ⟨rfl, rfl, rfl⟩ := trodAll_nil r0
  obtain rfl : args = #[v0] := by cases args; simp_all
  obtain ⟨rfl, rfl⟩ := trodVars_none hV
  have hw0 : ∀ m ∈ d0.weights Tryz.prog 81, m ≤ reachBytes := fun m hm => by simpa using List.all_eq_true.1 hsz m (DataW.weights_mem_each (j := 0) (t := 81) (d := d0) rfl rfl m hm)
  have hv0 : ∃ a len cap, v0 = .slice a len cap := okWide_slice Tryz.underlying81 (hval 0 81 v0 rfl rfl)
  obtain ⟨fuel0, hd0⟩ := h0
  have hp0 : ∀ x ∈ p0, x.block < W.heap.size := fun x hx => DataW.trod_lt _ _ _ _ hd0 x hx
  have hT0 : DataW.Trod enc Tryz.prog W 0 (fun _ => true) true 81 v0 d0 p0 := ⟨fuel0, hd0⟩
  obtain ⟨z0, s0, y0⟩ := open_list_w (encE := DeedL.cells) (Q := fun z : DeedL => z.o.Small) (k := 14) Tryz.underlying81 (by kernel_rfl) (by omega) (fun n cs y h hw => open_dl h hw) hd0 hw0 hv0
  clear hA0 hval0 hsz0 hsz
  refine (L14.theorem_walk v0 z0 W s0 y0).mono fun e W' ⟨he, bel⟩ => ?_
  subst he
  exact ⟨_, rfl, _, _, _, [], _, [], hW', trodAll_mk1 (shut_bool Tryz.underlying4 _), (trodAll_cons_mk (Below.trod laid (by kernel_rfl) (of_decide_eq_true (by kernel_rfl)) hT0 bel hp0) trodAll_mk0), rfl, bel.frame _, fun h => by cases h⟩
theorem named : Tryz.pinned.checked.prog.funcNamed Rows.oplogTheoremRow.func = some 15 := by kernel_rfl
theorem facts : joinedFacts Tryz.pinned.checked.prog 15 Tryz.f15 Rows.oplogTheoremSpec Rows.oplogTheoremRow = true := by kernel_rfl
theorem inst : Tryz.f15.isInstance Tryz.pinned.checked.prog Rows.oplogTheoremRow.origin Rows.oplogTheoremRow.targs := of_decide_eq_true (by kernel_rfl)
theorem wrap : Tryz.f15.isWrapper Tryz.pinned.checked.prog Rows.oplogTheoremRow.wrapper Rows.oplogTheoremRow.mainSum := by unfold Func.isWrapper; rw [if_neg (of_decide_eq_false (by kernel_rfl))]; exact ⟨rfl, rfl⟩
theorem over : Rows.oplogTheoremRow.holds Tryz.pinned (OpenSpec.ofChange Rows.oplogTheoremSpec) :=
  OpenClaim.holds_of_wide 15 Tryz.f15 rfl rfl rfl rfl rfl rfl rfl ⟨rfl, rfl, rfl, rfl, rfl⟩ rfl rfl rfl rfl rfl named Tryz.func15 facts inst wrap
    (fun os started H enc _ => lifted os started H enc)
end Go.Proofs.YtlokljaeknmdpaaGreat.oplogTheorem
namespace Go.Proofs.YtlokljaeknmdpaaGreat
theorem oplogTheorem_holds : Rows.OplogTheoremSaid := oplogTheorem.over
#print axioms oplogTheorem_holds
end Go.Proofs.YtlokljaeknmdpaaGreat

