/-
  The row and the card of the statement PathPoints, out of its walk.
-/
import Derived.Test.YtfbjiaedfmdcfaaGreatDoorCards
import Derived.Test.YtfbjiaedfmdcfaaGreatDoorTie
import Derived.Test.YtfbjiaedfmdcfaaGreatDoorKX1
import Derived.Test.YtfbjiaedfmdcfaaGreatDoorKY41
import Derived.Test.YtfbjiaedfmdcfaaGreatDoorKY42
import Derived.WalkKit
import Derived.ProofKit
import Derived.OpenShut
import Derived.ShutString
import Derived.ChangeOld
import Derived.Below
import Derived.SizedLaws
import Derived.Deep.DeepHandedRow
import Derived.LaidLaws
namespace Go.Proofs.YtfbjiaedfmdcfaaGreatDoor.pathPoints
open Go.ChangeShapes Go.WideShapes Go.ChangeAt Go.RowKit
open Go.ChangeMaps (open_string shut_string)
set_option linter.unusedVariables false
theorem own : ownKnob Tryz.prog.godebug = none := by kernel_rfl
theorem laid : laidOutB Tryz.prog = true := by kernel_rfl
/-- a world that holds the tables -/
noncomputable def laidWorld (os : Os) : World :=
  let w0 := World.holding Tryz.prog os ⟨#[], #[], []⟩
  { w0 with heap := (w0.heap.modify 2 fun
      | .cells _ t frozen => .cells (([128, 191, 160, 191, 128, 159, 144, 191, 128, 143, 0, 0, 0, 0, 0, 0, 0, 0, 0, 0, 0, 0, 0, 0, 0, 0, 0, 0, 0, 0, 0, 0] : List Int).map fun z => Value.int .u8 z).toArray t frozen
      | o => o).modify 1 fun
      | .cells _ t frozen => .cells ((List.replicate 128 (240 : Int) ++ List.replicate 66 241 ++ List.replicate 30 2 ++ [19] ++ List.replicate 12 3 ++ [35] ++ List.replicate 2 3 ++ [52] ++ List.replicate 3 4 ++ [68] ++ List.replicate 11 241).map fun z : Int => Value.int .u8 z).toArray t frozen
      | o => o }
theorem laid_met (os : Os) : laidMet Tryz.prog Rows.pathPointsRow.laid ((laidWorld os).forCall (fun _ _ => 0) ⟨#[], #[.slice none 0 0, .agg #[.int .i64 0, .int .i64 0], .string ByteArray.empty, .bool false], []⟩).memory :=
  laidMet_of_run' 8 (by kernel_rfl) (by kernel_rfl)
theorem reads (os : Os) {H : Type} (enc : TypeId × Value → H) : ∃ ds places, DataW.whole enc Tryz.prog ((laidWorld os).forCall (fun _ _ => 0) ⟨#[], #[.slice none 0 0, .agg #[.int .i64 0, .int .i64 0], .string ByteArray.empty, .bool false], []⟩).memory Tryz.f5.params.toList Rows.pathPointsSpec.vars false (#[.slice none 0 0, .agg #[.int .i64 0, .int .i64 0], .string ByteArray.empty, .bool false] : Array Value).toList 8 = some (ds, [], places) ∧ (DataW.weightsEach Tryz.prog (Tryz.f5.params.toList ++ Rows.pathPointsSpec.plain.varTypes Tryz.prog) (ds ++ [])).all (· ≤ reachBytes) = true := by
  have h : (DataW.whole enc Tryz.prog ((laidWorld os).forCall (fun _ _ => 0) ⟨#[], #[.slice none 0 0, .agg #[.int .i64 0, .int .i64 0], .string ByteArray.empty, .bool false], []⟩).memory Tryz.f5.params.toList Rows.pathPointsSpec.vars false (#[.slice none 0 0, .agg #[.int .i64 0, .int .i64 0], .string ByteArray.empty, .bool false] : Array Value).toList 8).map (fun x => x.2.1.isEmpty && (DataW.weightsEach Tryz.prog (Tryz.f5.params.toList ++ Rows.pathPointsSpec.plain.varTypes Tryz.prog) (x.1 ++ [])).all (· ≤ reachBytes)) = some true := by kernel_rfl
  cases hx : DataW.whole enc Tryz.prog ((laidWorld os).forCall (fun _ _ => 0) ⟨#[], #[.slice none 0 0, .agg #[.int .i64 0, .int .i64 0], .string ByteArray.empty, .bool false], []⟩).memory Tryz.f5.params.toList Rows.pathPointsSpec.vars false (#[.slice none 0 0, .agg #[.int .i64 0, .int .i64 0], .string ByteArray.empty, .bool false] : Array Value).toList 8 with
  | none => rw [hx] at h; cases h
  | some x =>
    obtain ⟨ds, gs, places⟩ := x
    rw [hx] at h
    simp only [Option.map_some, Option.some.injEq, Bool.and_eq_true, List.isEmpty_iff] at h
    obtain ⟨rfl, h2⟩ := h
    exact ⟨ds, places, rfl, h2⟩
set_option maxRecDepth 100000 in
theorem lifted (os : Os) (started : os.Started) (H : Type) (enc : TypeId × Value → H) (F : Stop.Interp) :
    ReturnsInHanded {} Tryz.checked os 5 .any ((OpenSpec.ofChange Rows.pathPointsSpec).preRow enc Tryz.prog Tryz.f5 Rows.pathPointsRow.domain false Rows.pathPointsRow.laid) (((OpenSpec.ofChange Rows.pathPointsSpec).at F).post enc Tryz.prog Tryz.f5 false true false false) := by
  obtain ⟨ds, places, hx, hz⟩ := reads os enc
  refine returnsInHanded_of_row (C := Tryz.checked) (s := OpenSpec.ofChange Rows.pathPointsSpec) own started (by kernel_rfl) Tryz.func5
    (witness_row_at (enc := enc) (C := Tryz.checked) false (laidWorld os) #[.slice none 0 0, .agg #[.int .i64 0, .int .i64 0], .string ByteArray.empty, .bool false] rfl (by kernel_rfl) (by kernel_rfl) (by kernel_rfl)
      (OpenSpec.preRow_of_cond 8 hx (by first | kernel_rfl | rfl | exact hz) (fun k hk => by cases hk) (by first | kernel_rfl | exact hz) (laid_met os))) ?_
  intro W base args ds gs before hval0 hW _ _ hsz0 _ _ _
  have hsz : (DataW.weightsEach Tryz.prog (Tryz.f5.params.toList ++ Rows.pathPointsSpec.plain.varTypes Tryz.prog) (ds ++ gs)).all (· ≤ reachBytes) = true := hsz0
  have hval : ∀ (j : Nat) t v, Tryz.f5.params[j]? = some t → args[j]? = some v → Value.okWide Tryz.prog W .any base t v := hval0
  have hW' := hW
  obtain ⟨p, q, hA0, hV, rfl, hfz, hnd⟩ := hW
  have hA : DataW.TrodAll enc Tryz.prog W 0 (fun _ => true) true Tryz.f5.params.toList args.toList ds p := hA0
  rw [Tryz.params5] at hA hval hsz
  obtain ⟨v0, vs0, d0, ds0, p0, q0, hargs, rfl, rfl, h0, r0⟩ := trodAll_cons hA
  obtain ⟨v1, vs1, d1, ds1, p1, q1, rfl, rfl, rfl, h1, r1⟩ := trodAll_cons r0
  obtain ⟨v2, vs2, d2, ds2, p2, q2, rfl, rfl, rfl, h2, r2⟩ := trodAll_cons r1
  obtain ⟨v3, vs3, d3, ds3, p3, q3, rfl, rfl, rfl, h3, r3⟩ := trodAll_cons r2
  obtain ⟨rfl, rfl, rfl⟩ := trodAll_nil r3
  obtain rfl : args = #[v0, v1, v2, v3] := by cases args; simp_all
  obtain ⟨rfl, rfl⟩ := trodVars_none hV
  have hw0 : ∀ m ∈ d0.weights Tryz.prog 56, m ≤ reachBytes := fun m hm => by simpa using List.all_eq_true.1 hsz m (DataW.weights_mem_each (j := 0) (t := 56) (d := d0) rfl rfl m hm)
  have hv0 : ∃ a len cap, v0 = .slice a len cap := okWide_slice Tryz.underlying56 (hval 0 56 v0 rfl rfl)
  obtain ⟨fuel0, hd0⟩ := h0
  have hp0 : ∀ x ∈ p0, x.block < W.heap.size := fun x hx => DataW.trod_lt _ _ _ _ hd0 x hx
  have hT0 : DataW.Trod enc Tryz.prog W 0 (fun _ => true) true 56 v0 d0 p0 := ⟨fuel0, hd0⟩
  obtain ⟨z0, s0, y0⟩ := open_list_w (encE := Op.cells) (Q := fun z : Op => z.Small) (k := 13) Tryz.underlying56 (by kernel_rfl) (by omega) (fun n cs y h hw => open_op h hw) hd0 hw0 hv0
  obtain ⟨cs1, rfl, hcs1⟩ := okWide_struct Tryz.underlying26 (hval 1 26 v1 rfl rfl)
  obtain ⟨fuel1, hd1⟩ := h1
  have hp1 : ∀ x ∈ p1, x.block < W.heap.size := fun x hx => DataW.trod_lt _ _ _ _ hd1 x hx
  have hT1 : DataW.Trod enc Tryz.prog W 0 (fun _ => true) true 26 (.agg cs1) d1 p1 := ⟨fuel1, hd1⟩
  obtain ⟨z1, e1⟩ := open_st hd1
  obtain rfl : cs1 = z1.cells.toArray := by apply Array.ext'; exact e1
  obtain ⟨a2, rfl, rfl, rfl, y2⟩ := open_string Tryz.underlying9 (hval 2 9 v2 rfl rfl) h2
  have w2 : a2.size ≤ 140737488351232 := by
    have z := sized_string hsz (j := 2) (t := 9) rfl rfl
    rw [Array.length_toList] at z
    exact z
  obtain ⟨a3, rfl, rfl, rfl⟩ := open_bool Tryz.underlying4 (hval 3 4 v3 rfl rfl) h3
  clear hA0 hval0 hsz0 hsz
  refine (L15.points_walk v0 z0 z1 a2 a3 W s0 y0 w2).mono fun e W' ⟨he, bel⟩ => ?_
  subst he
  exact ⟨_, rfl, _, _, _, [], _, [], hW', trodAll_mk1 (shut_bool Tryz.underlying4 _), (trodAll_cons_mk (Below.trod laid (by kernel_rfl) (of_decide_eq_true (by kernel_rfl)) hT0 bel hp0) (trodAll_cons_mk (Below.trod laid (by kernel_rfl) (of_decide_eq_true (by kernel_rfl)) hT1 bel hp1) (trodAll_cons_mk (shut_string Tryz.underlying9 y2) (trodAll_cons_mk (shut_bool Tryz.underlying4 _) trodAll_mk0)))), rfl, bel.frame _, fun h => by cases h⟩
theorem named : Tryz.pinned.checked.prog.funcNamed Rows.pathPointsRow.func = some 5 := by kernel_rfl
theorem facts : joinedFacts Tryz.pinned.checked.prog 5 Tryz.f5 Rows.pathPointsSpec Rows.pathPointsRow = true := by kernel_rfl
theorem inst : Tryz.f5.isInstance Tryz.pinned.checked.prog Rows.pathPointsRow.origin Rows.pathPointsRow.targs := of_decide_eq_true (by kernel_rfl)
theorem wrap : Tryz.f5.isWrapper Tryz.pinned.checked.prog Rows.pathPointsRow.wrapper Rows.pathPointsRow.mainSum := by unfold Func.isWrapper; rw [if_neg (of_decide_eq_false (by kernel_rfl))]; exact ⟨rfl, rfl⟩
theorem said : Rows.PathPointsSaid :=
  OpenClaim.holds_of_cond 5 Tryz.f5 rfl rfl rfl rfl rfl rfl rfl ⟨rfl, rfl, rfl, rfl, rfl⟩ rfl rfl rfl rfl rfl named Tryz.func5 facts inst wrap
    (fun os started H enc _ F => by rw [OpenClaim.pre_eq_preRow]; exact lifted os started H enc F)
theorem plain (f : FuncId) (fn : Func) (hf : Tryz.pinned.checked.prog.funcNamed Rows.pathPointsRow.func = some f) (hfn : Tryz.pinned.checked.prog.funcs[f]? = some fn) :
    true = Tryz.pinned.checked.prog.looks [] ∧ ∀ (j : Nat) t, fn.params[j]? = some t → Tryz.pinned.checked.prog.wantsStandIn t = false := by
  obtain rfl : f = 5 := Option.some.inj (named.symm.trans hf) |>.symm
  obtain rfl : fn = Tryz.f5 := (Option.some.inj (Tryz.func5.symm.trans hfn)).symm
  refine ⟨by kernel_rfl, fun j t ht => ?_⟩
  rw [Tryz.params5] at ht
  have hm : t ∈ ([56, 26, 9, 4] : List TypeId) := by simpa using Array.mem_of_getElem? ht
  exact (by decide +kernel : ∀ t ∈ ([56, 26, 9, 4] : List TypeId), Tryz.pinned.checked.prog.wantsStandIn t = false) t hm
theorem card : Rows.PathPointsCardSaid :=
  Claim7.holds_tied_plain_at .later [] _ _ _ _ said (fun _ h => by cases h) (by kernel_rfl) (fun _ h => by cases h) pathPoints_row_tie rfl ⟨rfl, rfl⟩ (by kernel_rfl) rfl plain (by kernel_rfl)
end Go.Proofs.YtfbjiaedfmdcfaaGreatDoor.pathPoints
namespace Go.Proofs.YtfbjiaedfmdcfaaGreatDoor
theorem pathPoints_holds : Rows.PathPointsCardSaid := pathPoints.card
#print axioms pathPoints_holds
end Go.Proofs.YtfbjiaedfmdcfaaGreatDoor
