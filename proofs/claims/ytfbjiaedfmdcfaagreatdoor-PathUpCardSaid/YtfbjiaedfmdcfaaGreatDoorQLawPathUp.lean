/-
  The row of the statement PathUp, out of its walk: no condition but the form's own.
-/
import Derived.Test.YtfbjiaedfmdcfaaGreatDoorCards
import Derived.Test.YtfbjiaedfmdcfaaGreatDoorTie
import Derived.Test.YtfbjiaedfmdcfaaGreatDoorKY46
import Derived.Test.YtfbjiaedfmdcfaaGreatDoorKY41
import Derived.Test.YtfbjiaedfmdcfaaGreatDoorKY42
import Derived.WalkKit
import Derived.ProofKit
import Derived.OpenShut
import Derived.ShutString
import Derived.ChangeOld
import Derived.Below
import Derived.SizedLaws
import Derived.Deep.DeepHandedRow
import Derived.LaidLaws
namespace Go.Proofs.YtfbjiaedfmdcfaaGreatDoor.pathUp
open Go.ChangeShapes Go.WideShapes Go.ChangeAt Go.RowKit
open Go.ChangeMaps (open_string shut_string)
set_option linter.unusedVariables false
theorem own : ownKnob Tryz.prog.godebug = none := by kernel_rfl
theorem laid : laidOutB Tryz.prog = true := by kernel_rfl
/-- a world that holds the tables -/
noncomputable def laidWorld (os : Os) : World :=
  let w0 := World.holding Tryz.prog os ⟨#[], #[], []⟩
  { w0 with heap := (w0.heap.modify 2 fun
      | .cells _ t frozen => .cells (([128, 191, 160, 191, 128, 159, 144, 191, 128, 143, 0, 0, 0, 0, 0, 0, 0, 0, 0, 0, 0, 0, 0, 0, 0, 0, 0, 0, 0, 0, 0, 0] : List Int).map fun z => Value.int .u8 z).toArray t frozen
      | o => o).modify 1 fun
      | .cells _ t frozen => .cells ((List.replicate 128 (240 : Int) ++ List.replicate 66 241 ++ List.replicate 30 2 ++ [19] ++ List.replicate 12 3 ++ [35] ++ List.replicate 2 3 ++ [52] ++ List.replicate 3 4 ++ [68] ++ List.replicate 11 241).map fun z : Int => Value.int .u8 z).toArray t frozen
      | o => o }
theorem laid_met (os : Os) : laidMet Tryz.prog Rows.pathUpRow.laid ((laidWorld os).forCall (fun _ _ => 0) ⟨#[], #[.slice none 0 0, .string ByteArray.empty], []⟩).memory :=
  laidMet_of_run' 8 (by kernel_rfl) (by kernel_rfl)
theorem reads (os : Os) {H : Type} (enc : TypeId × Value → H) : ∃ ds places, DataW.whole enc Tryz.prog ((laidWorld os).forCall (fun _ _ => 0) ⟨#[], #[.slice none 0 0, .string ByteArray.empty], []⟩).memory Tryz.f9.params.toList Rows.pathUpSpec.vars false (#[.slice none 0 0, .string ByteArray.empty] : Array Value).toList 8 = some (ds, [], places) ∧ (DataW.weightsEach Tryz.prog (Tryz.f9.params.toList ++ Rows.pathUpSpec.plain.varTypes Tryz.prog) (ds ++ [])).all (· ≤ reachBytes) = true := by
  have h : (DataW.whole enc Tryz.prog ((laidWorld os).forCall (fun _ _ => 0) ⟨#[], #[.slice none 0 0, .string ByteArray.empty], []⟩).memory Tryz.f9.params.toList Rows.pathUpSpec.vars false (#[.slice none 0 0, .string ByteArray.empty] : Array Value).toList 8).map (fun x => x.2.1.isEmpty && (DataW.weightsEach Tryz.prog (Tryz.f9.params.toList ++ Rows.pathUpSpec.plain.varTypes Tryz.prog) (x.1 ++ [])).all (· ≤ reachBytes)) = some true := by kernel_rfl
  cases hx : DataW.whole enc Tryz.prog ((laidWorld os).forCall (fun _ _ => 0) ⟨#[], #[.slice none 0 0, .string ByteArray.empty], []⟩).memory Tryz.f9.params.toList Rows.pathUpSpec.vars false (#[.slice none 0 0, .string ByteArray.empty] : Array Value).toList 8 with
  | none => rw [hx] at h; cases h
  | some x =>
    obtain ⟨ds, gs, places⟩ := x
    rw [hx] at h
    simp only [Option.map_some, Option.some.injEq, Bool.and_eq_true, List.isEmpty_iff] at h
    obtain ⟨rfl, h2⟩ := h
    exact ⟨ds, places, rfl, h2⟩
set_option maxRecDepth 100000 in
theorem lifted (os : Os) (started : os.Started) (H : Type) (enc : TypeId × Value → H) (F : Stop.Interp) :
    ReturnsInHanded {} Tryz.checked os 9 .any ((OpenSpec.ofChange Rows.pathUpSpec).preRow enc Tryz.prog Tryz.f9 Rows.pathUpRow.domain false Rows.pathUpRow.laid) (((OpenSpec.ofChange Rows.pathUpSpec).at F).post enc Tryz.prog Tryz.f9 false true false false) := by
  obtain ⟨ds, places, hx, hz⟩ := reads os enc
  refine returnsInHanded_of_row (C := Tryz.checked) (s := OpenSpec.ofChange Rows.pathUpSpec) own started (by kernel_rfl) Tryz.func9
    (witness_row_at (enc := enc) (C := Tryz.checked) false (laidWorld os) #[.slice none 0 0, .string ByteArray.empty] rfl (by kernel_rfl) (by kernel_rfl) (by kernel_rfl)
      (OpenSpec.preRow_of_cond 8 hx (by first | kernel_rfl | rfl | exact hz) (fun k hk => by cases hk) (by first | kernel_rfl | exact hz) (laid_met os))) ?_
  intro W base args ds gs before hval0 hW _ _ hsz0 _ _ _
  have hsz : (DataW.weightsEach Tryz.prog (Tryz.f9.params.toList ++ Rows.pathUpSpec.plain.varTypes Tryz.prog) (ds ++ gs)).all (· ≤ reachBytes) = true := hsz0
  have hval : ∀ (j : Nat) t v, Tryz.f9.params[j]? = some t → args[j]? = some v → Value.okWide Tryz.prog W .any base t v := hval0
  have hW' := hW
  obtain ⟨p, q, hA0, hV, rfl, hfz, hnd⟩ := hW
  have hA : DataW.TrodAll enc Tryz.prog W 0 (fun _ => true) true Tryz.f9.params.toList args.toList ds p := hA0
  rw [Tryz.params9] at hA hval hsz
  obtain ⟨v0, vs0, d0, ds0, p0, q0, hargs, rfl, rfl, h0, r0⟩ := trodAll_cons hA
  obtain ⟨v1, vs1, d1, ds1, p1, q1, rfl, rfl, rfl, h1, r1⟩ := trodAll_cons r0
  obtain ⟨rfl, rfl, rfl⟩ := trodAll_nil r1
  obtain rfl : args = #[v0, v1] := by cases args; simp_all
  obtain ⟨rfl, rfl⟩ := trodVars_none hV
  have hw0 : ∀ m ∈ d0.weights Tryz.prog 56, m ≤ reachBytes := fun m hm => by simpa using List.all_eq_true.1 hsz m (DataW.weights_mem_each (j := 0) (t := 56) (d := d0) rfl rfl m hm)
  have hv0 : ∃ a len cap, v0 = .slice a len cap := okWide_slice Tryz.underlying56 (hval 0 56 v0 rfl rfl)
  obtain ⟨fuel0, hd0⟩ := h0
  have hp0 : ∀ x ∈ p0, x.block < W.heap.size := fun x hx => DataW.trod_lt _ _ _ _ hd0 x hx
  have hT0 : DataW.Trod enc Tryz.prog W 0 (fun _ => true) true 56 v0 d0 p0 := ⟨fuel0, hd0⟩
  obtain ⟨z0, s0, y0⟩ := open_list_w (encE := Op.cells) (Q := fun z : Op => z.Small) (k := 13) Tryz.underlying56 (by kernel_rfl) (by omega) (fun n cs y h hw => open_op h hw) hd0 hw0 hv0
  obtain ⟨a1, rfl, rfl, rfl, y1⟩ := open_string Tryz.underlying9 (hval 1 9 v1 rfl rfl) h1
  have w1 : a1.size ≤ 140737488351232 := by
    have z := sized_string hsz (j := 1) (t := 9) rfl rfl
    rw [Array.length_toList] at z
    exact z
  clear hA0 hval0 hsz0 hsz
  refine (L15.up_walk v0 z0 a1 W s0 y0 w1).mono fun e W' ⟨he, bel⟩ => ?_
  subst he
  exact ⟨_, rfl, _, _, _, [], _, [], hW', trodAll_mk1 (shut_bool Tryz.underlying4 _), (trodAll_cons_mk (Below.trod laid (by kernel_rfl) (of_decide_eq_true (by kernel_rfl)) hT0 bel hp0) (trodAll_cons_mk (shut_string Tryz.underlying9 y1) trodAll_mk0)), rfl, bel.frame _, fun h => by cases h⟩
theorem named : Tryz.pinned.checked.prog.funcNamed Rows.pathUpRow.func = some 9 := by kernel_rfl
theorem facts : joinedFacts Tryz.pinned.checked.prog 9 Tryz.f9 Rows.pathUpSpec Rows.pathUpRow = true := by kernel_rfl
theorem inst : Tryz.f9.isInstance Tryz.pinned.checked.prog Rows.pathUpRow.origin Rows.pathUpRow.targs := of_decide_eq_true (by kernel_rfl)
theorem wrap : Tryz.f9.isWrapper Tryz.pinned.checked.prog Rows.pathUpRow.wrapper Rows.pathUpRow.mainSum := by unfold Func.isWrapper; rw [if_neg (of_decide_eq_false (by kernel_rfl))]; exact ⟨rfl, rfl⟩
theorem said : Rows.PathUpSaid :=
  OpenClaim.holds_of_cond 9 Tryz.f9 rfl rfl rfl rfl rfl rfl rfl ⟨rfl, rfl, rfl, rfl, rfl⟩ rfl rfl rfl rfl rfl named Tryz.func9 facts inst wrap
    (fun os started H enc _ F => by rw [OpenClaim.pre_eq_preRow]; exact lifted os started H enc F)
theorem plain (f : FuncId) (fn : Func) (hf : Tryz.pinned.checked.prog.funcNamed Rows.pathUpRow.func = some f) (hfn : Tryz.pinned.checked.prog.funcs[f]? = some fn) :
    true = Tryz.pinned.checked.prog.looks [] ∧ ∀ (j : Nat) t, fn.params[j]? = some t → Tryz.pinned.checked.prog.wantsStandIn t = false := by
  obtain rfl : f = 9 := Option.some.inj (named.symm.trans hf) |>.symm
  obtain rfl : fn = Tryz.f9 := (Option.some.inj (Tryz.func9.symm.trans hfn)).symm
  refine ⟨by kernel_rfl, fun j t ht => ?_⟩
  rw [Tryz.params9] at ht
  have hm : t ∈ ([56, 9] : List TypeId) := by simpa using Array.mem_of_getElem? ht
  exact (by decide +kernel : ∀ t ∈ ([56, 9] : List TypeId), Tryz.pinned.checked.prog.wantsStandIn t = false) t hm
theorem card : Rows.PathUpCardSaid :=
  Claim7.holds_tied_plain_at .later [] _ _ _ _ said (fun _ h => by cases h) (by kernel_rfl) (fun _ h => by cases h) pathUp_row_tie rfl ⟨rfl, rfl⟩ (by kernel_rfl) rfl plain (by kernel_rfl)
end Go.Proofs.YtfbjiaedfmdcfaaGreatDoor.pathUp
namespace Go.Proofs.YtfbjiaedfmdcfaaGreatDoor
theorem pathUp_holds : Rows.PathUpCardSaid := pathUp.card
#print axioms pathUp_holds
end Go.Proofs.YtfbjiaedfmdcfaaGreatDoor

