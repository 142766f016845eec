/-
  The row of the statement OplogTwice, out of its walk: no condition but the form's own.
-/
import Derived.Test.YtlokljaeknmdpaaGreatRows
import Derived.Test.YtlokljaeknmdpaaGreatKZ49
import Derived.Test.YtlokljaeknmdpaaGreatKZ33
import Derived.Test.YtlokljaeknmdpaaGreatKZ34
import Derived.WalkKit
import Derived.ProofKit
import Derived.OpenShut
import Derived.ShutString
import Derived.ChangeOld
import Derived.Below
import Derived.SizedLaws
namespace Go.Proofs.YtlokljaeknmdpaaGreat.oplogTwice
open Go.ChangeShapes Go.WideShapes Go.ChangeAt Go.RowKit
open Go.ChangeMaps (open_string shut_string)
set_option linter.unusedVariables false
theorem own : ownKnob Tryz.prog.godebug = none := by kernel_rfl
theorem laid : laidOutB Tryz.prog = true := by kernel_rfl
set_option maxRecDepth 100000 in
theorem lifted (os : Os) (started : os.Started) (H : Type) (enc : TypeId × Value → H) :
    ReturnsInHanded {} Tryz.checked os 14 .any (Rows.oplogTwiceSpec.pre6 enc Tryz.prog Tryz.f14 Rows.oplogTwiceRow.domain false) (Rows.oplogTwiceSpec.post enc Tryz.prog Tryz.f14 false true false false) := by
  refine returnsInHanded_of_change_sized (C := Tryz.checked) own started (by kernel_rfl) Tryz.func14
    (ChangeSpec.witness6 (enc := enc) (C := Tryz.checked) false ⟨#[], #[.slice none 0 0, .agg #[.int .i64 0, .int .i64 0], .agg #[.int .i64 0, .int .i64 0, .int .i64 0, .int .i64 0, .int .i64 0, .int .i64 0, .int .i64 0, .int .i64 0, .int .i64 0, .string ByteArray.empty, .string ByteArray.empty, .int .i64 0, .string ByteArray.empty]], []⟩ 8 (by kernel_rfl) (by kernel_rfl) (by kernel_rfl) (by kernel_rfl)) ?_
  intro W base args ds gs before hval0 hW hcnd hsz0 _
  have hsz : (DataW.weightsEach Tryz.prog (Tryz.f14.params.toList ++ Rows.oplogTwiceSpec.plain.varTypes Tryz.prog) (ds ++ gs)).all (· ≤ reachBytes) = true := hsz0
  have hval : ∀ (j : Nat) t v, Tryz.f14.params[j]? = some t → args[j]? = some v → Value.okWide Tryz.prog W .any base t v := hval0
  have hW' := hW
  obtain ⟨p, q, hA0, hV, rfl, hfz, hnd⟩ := hW
  have hA : DataW.TrodAll enc Tryz.prog W 0 (fun _ => true) true Tryz.f14.params.toList args.toList ds p := hA0
  rw [Tryz.params14] at hA hval hsz
  obtain ⟨v0, vs0, d0, ds0, p0, q0, hargs, rfl, rfl, h0, r0⟩ := trodAll_cons hA
  obtain ⟨v1, vs1, d1, ds1, p1, q1, rfl, rfl, rfl, h1, r1⟩ := trodAll_cons r0
  obtain ⟨v2, vs2, d2, ds2, p2, q2, rfl, rfl, rfl, h2, r2⟩ := trodAll_cons r1
  obtain ⟨rfl, rfl, rfl⟩ := trodAll_nil r2
  obtain rfl : args = #[v0, v1, v2] := by cases args; simp_all
  obtain ⟨rfl, rfl⟩ := trodVars_none hV
  have hw0 : ∀ m ∈ d0.weights Tryz.prog 40, m ≤ reachBytes := fun m hm => by simpa using List.all_eq_true.1 hsz m (DataW.weights_mem_each (j := 0) (t := 40) (d := d0) rfl rfl m hm)
  have hv0 : ∃ a len cap, v0 = .slice a len cap := okWide_slice Tryz.underlying40 (hval 0 40 v0 rfl rfl)
  obtain ⟨fuel0, hd0⟩ := h0
  have hp0 : ∀ x ∈ p0, x.block < W.heap.size := fun x hx => DataW.trod_lt _ _ _ _ hd0 x hx
  have hT0 : DataW.Trod enc Tryz.prog W 0 (fun _ => true) true 40 v0 d0 p0 := ⟨fuel0, hd0⟩
  obtain ⟨z0, s0, y0⟩ := open_list_w (encE := Op.cells) (Q := fun z : Op => z.Small) (k := 13) Tryz.underlying40 (by kernel_rfl) (by omega) (fun n cs y h hw => open_op h hw) hd0 hw0 hv0
  obtain ⟨cs1, rfl, hcs1⟩ := okWide_struct Tryz.underlying31 (hval 1 31 v1 rfl rfl)
  obtain ⟨fuel1, hd1⟩ := h1
  have hp1 : ∀ x ∈ p1, x.block < W.heap.size := fun x hx => DataW.trod_lt _ _ _ _ hd1 x hx
  have hT1 : DataW.Trod enc Tryz.prog W 0 (fun _ => true) true 31 (.agg cs1) d1 p1 := ⟨fuel1, hd1⟩
  obtain ⟨z1, e1⟩ := open_st hd1
  obtain rfl : cs1 = z1.cells.toArray := by apply Array.ext'; exact e1
  obtain ⟨cs2, rfl, hcs2⟩ := okWide_struct Tryz.underlying47 (hval 2 47 v2 rfl rfl)
  obtain ⟨fuel2, hd2⟩ := h2
  have hp2 : ∀ x ∈ p2, x.block < W.heap.size := fun x hx => DataW.trod_lt _ _ _ _ hd2 x hx
  have hT2 : DataW.Trod enc Tryz.prog W 0 (fun _ => true) true 47 (.agg cs2) d2 p2 := ⟨fuel2, hd2⟩
  obtain ⟨z2, e2, y2⟩ := open_op hd2 (fun m hm => by simpa using List.all_eq_true.1 hsz m (DataW.weights_mem_each (j := 2) (t := 47) (d := d2) rfl rfl m hm))
  obtain rfl : cs2 = z2.cells.toArray := by apply Array.ext'; exact e2
  clear hA0 hval0 hsz0 hsz
  refine (L14.twice_walk v0 z0 z1 z2 W s0 y0 y2).mono fun e W' ⟨he, bel⟩ => ?_
  subst he
  exact ⟨_, rfl, _, _, _, [], _, [], hW', trodAll_mk1 (shut_bool Tryz.underlying4 _), (trodAll_cons_mk (Below.trod laid (by kernel_rfl) (of_decide_eq_true (by kernel_rfl)) hT0 bel hp0) (trodAll_cons_mk (Below.trod laid (by kernel_rfl) (of_decide_eq_true (by kernel_rfl)) hT1 bel hp1) (trodAll_cons_mk (Below.trod laid (by kernel_rfl) (of_decide_eq_true (by kernel_rfl)) hT2 bel hp2) trodAll_mk0))), rfl, bel.frame _, fun h => by cases h⟩
theorem named : Tryz.pinned.checked.prog.funcNamed Rows.oplogTwiceRow.func = some 14 := by kernel_rfl
theorem facts : joinedFacts Tryz.pinned.checked.prog 14 Tryz.f14 Rows.oplogTwiceSpec Rows.oplogTwiceRow = true := by kernel_rfl
theorem inst : Tryz.f14.isInstance Tryz.pinned.checked.prog Rows.oplogTwiceRow.origin Rows.oplogTwiceRow.targs := of_decide_eq_true (by kernel_rfl)
theorem wrap : Tryz.f14.isWrapper Tryz.pinned.checked.prog Rows.oplogTwiceRow.wrapper Rows.oplogTwiceRow.mainSum := by unfold Func.isWrapper; rw [if_neg (of_decide_eq_false (by kernel_rfl))]; exact ⟨rfl, rfl⟩
theorem over : Rows.oplogTwiceRow.holds Tryz.pinned (OpenSpec.ofChange Rows.oplogTwiceSpec) :=
  OpenClaim.holds_of_wide 14 Tryz.f14 rfl rfl rfl rfl rfl rfl rfl ⟨rfl, rfl, rfl, rfl, rfl⟩ rfl rfl rfl rfl rfl named Tryz.func14 facts inst wrap
    (fun os started H enc _ => lifted os started H enc)
end Go.Proofs.YtlokljaeknmdpaaGreat.oplogTwice
namespace Go.Proofs.YtlokljaeknmdpaaGreat
theorem oplogTwice_holds : Rows.OplogTwiceSaid := oplogTwice.over
#print axioms oplogTwice_holds
end Go.Proofs.YtlokljaeknmdpaaGreat

