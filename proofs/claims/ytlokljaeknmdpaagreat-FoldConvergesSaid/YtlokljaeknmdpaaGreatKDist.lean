/-
  A store of an operation into a row of the call's own, as a step of the walk; lists with two elements changed for each other; no condition. · thimblelaw13.distinct: operations without those whose stamp one ahead of them has; condition: at most 1000.
-/
import Derived.Test.YtlokljaeknmdpaaGreatKFold
import Derived.Laws.CopyRow
import Derived.Test.YtlokljaeknmdpaaGreatQL13
/-! ## Store -/
namespace Go.Proofs.YtlokljaeknmdpaaGreat
open Go.RowKit Go.Shelf Go.Proofs

theorem run_store_row {P : Program} (w : World) (g o : Nat) (ty t : TypeId) (cells cur : Array Value) (hg : w.heap[g]? = some (.cells cur t (0, 0))) (hfit : o + cells.size ≤ cur.size) (hi : (P.info? ty).map (·.size) = some cells.size) (h1 : ∀ v ∈ cells.toList, v.oneCell' = true) :
    (storeVar ty ⟨g, o, none⟩ (.agg cells)).run P w = .ok () (w.setRow g (cur.toList.take o ++ cells.toList ++ cur.toList.drop (o + cells.toList.length)).toArray) := by
  have := run_storeCells_at P g o t cells.toList 0 cur w hg (by simpa using hfit) h1
  cases hq : P.info? ty with
  | none => simp [hq] at hi
  | some i =>
    have hs : cells.size = i.size := by simp [hq] at hi; omega
    simp only [Nat.add_zero] at this
    simp [storeVar, sizeOf, typeInfo, hq, Value.cells, hs, this]
/-- cells of a list with another element at a place -/
theorem flat_set {α : Type} {f : α → List Value} {k : Nat} (hk : ∀ a, (f a).length = k) (l : List α) (i : Nat) (x : α) (hi : i < l.length) :
    (l.set i x).flatMap f = (l.flatMap f).take (i * k) ++ f x ++ (l.flatMap f).drop (i * k + k) := by
  rw [List.set_eq_take_append_cons_drop, if_pos hi, List.flatMap_append, List.flatMap_cons, flat_take hk, flat_drop hk, Nat.succ_mul, List.append_assoc]
theorem take_set {α : Type} {cur L oc : List α} {o n k : Nat} (hL : cur.take n = L) (hl : L.length = n) (hk : oc.length = k) (ho : o + k ≤ n) : (cur.take o ++ oc ++ cur.drop (o + oc.length)).take n = L.take o ++ oc ++ L.drop (o + k) := by
  have hn : n ≤ cur.length := by rw [← hl, ← hL, List.length_take]; omega
  have h1 : cur.take o = L.take o := by rw [← hL, List.take_take]; congr 1; omega
  have h2 : (cur.drop (o + oc.length)).take (n - (o + k)) = L.drop (o + k) := by rw [hk, ← hL, List.drop_take]
  have h3 : (cur.take o ++ oc).length = o + k := by rw [List.length_append, List.length_take, hk]; omega
  rw [List.take_append, List.take_of_length_le (by omega), h3, h2, h1]
theorem wpList_store_op {w : World} {ops : Array Oper} {rest : List Oper} {op : Oper} {a : Act} {Q : Exit → Act → World → Prop} (hgd : op.guard = none) (p v : Operand) (ho : op.op = .store 47 p v) (B g c k : Nat) (l : List Op) (x : Op)
    (hrow : OpsRow B (.slice (some ⟨g, 0, none⟩) l.length c) l w) (hk : k < l.length) (hp : a.eval p = .pointer (some ⟨g, k * 13, none⟩)) (hv : a.eval v = (.agg #[.int .i64 x.stamp.t, .int .i64 x.stamp.r, .int .i64 x.kind, .int .i64 x.at_.t, .int .i64 x.at_.r, .int .i64 x.ino.t, .int .i64 x.ino.r, .int .i64 x.to.t, .int .i64 x.to.r, .string x.name, .string x.new, .int .i64 x.off, .string x.data]))
    (h : ∀ W', OpsRow B (.slice (some ⟨g, 0, none⟩) l.length c) (l.set k x) W' → w.grownBy W' (some g) → wpList Tryz.prog ops Q rest (a.put op.dst undef) W') : wpList Tryz.prog ops Q (op :: rest) a w := by
  refine wpList_plain hgd fun K hK => ?_
  have hll : (l.flatMap Op.cells).length = l.length * 13 := flat_len (f := Op.cells) (k := 13) (fun _ => rfl) l
  rcases hrow.2 with ⟨h0, _⟩ | ⟨g', cap, cur, h0, hb, hh, h1, h2, h3, h4⟩
  · cases h0
  · simp only [Value.slice.injEq, Option.some.injEq, Addr.mk.injEq, and_true, true_and] at h0
    obtain ⟨rfl, rfl⟩ := h0
    have hrun := run_store_row (P := Tryz.prog) w g (k * 13) 47 47 x.cells.toArray cur hh (by show k * 13 + 13 ≤ cur.size; rw [h3]; omega) opSize (fun v hv => Op.one x v hv)
    have hset := take_set (cur := cur.toList) (L := l.flatMap Op.cells) (oc := x.cells) (o := k * 13) (n := l.length * 13) (k := 13) h4 hll rfl (by omega)
    rw [← flat_set (f := Op.cells) (k := 13) (fun _ => rfl) l k x hk] at hset
    unfold Oper.wp execOp
    have hv' : a.eval v = .agg x.cells.toArray := hv
    simp only [ho, hp, hv', Instr.storeAt, Instr.sureAddr, Sem.run_bind, Sem.run_pure, Result.andThen_ok, hrun]
    refine hK _ _ (h _ ⟨?_, .inr ⟨g, c, _, by rw [List.length_set], hb, setRow_heap w g cur _ _ _ hh, by rw [List.length_set]; exact h1, h2, ?_, ?_⟩⟩ ⟨rfl, rfl, rfl, by rw [setRow_size]; exact Nat.le_refl _, fun j _ hj => setRow_other w g j _ fun e => hj (by rw [e])⟩)
    · exact flat_len (f := Op.cells) (k := 13) (fun _ => rfl) _
    · simp only [List.size_toArray, List.length_append, List.length_take, List.length_drop, Array.length_toList, Op.cells, List.length_cons, List.length_nil]; omega
    · rw [List.length_set]; exact hset
/-- two elements changed for each other -/
theorem swap_perm {l : List Op} {i j : Nat} (hi : i < l.length) (hj : j < l.length) : ((l.set i l[j]!).set j l[i]!).Perm l := by
  rw [getElem!_pos l i hi, getElem!_pos l j hj]
  exact List.set_set_perm hi hj
end Go.Proofs.YtlokljaeknmdpaaGreat

/-! ## Dist -/
namespace Go.Proofs.YtlokljaeknmdpaaGreat.L13
open Go.RowKit Go.Shelf Go.Proofs

theorem all_succ {l : List Op} {k : Nat} (hk : k < l.length) (x : Op) : ((l.take (k + 1)).all fun a => !decide (a.stamp = x.stamp)) = (((l.take k).all fun a => !decide (a.stamp = x.stamp)) && !decide (l[k]!.stamp = x.stamp)) := by
  rw [List.take_succ_eq_append_getElem hk, getElem!_pos l k hk, List.all_append]
  simp

set_option maxRecDepth 100000 in
set_option maxHeartbeats 8000000 in
theorem distinct_any (v : Value) (l : List Op) (w : World) (h : SlAt w 13 Op.cells v l) (hl : l.length ≤ 1000) :
    Calls Tryz.prog 51 #[v] w fun e w' => ∃ v', e = .returned v' ∧ OpsRow w.heap.size v' (distinctOf l) w' ∧ Below w.heap.size w w' := by
  have HSL : Hid (∀ W, Below w.heap.size w W → SlAt W 13 Op.cells v l) := Lib.hid fun W hW => h.below hW
  obtain ⟨i0, hinf, hz0, hz1, hz2⟩ := info_parts infoOp
  obtain ⟨va, vc, rfl⟩ := h.len
  clear h
  go_enter Tryz.func51, Tryz.ntmps51
  go_wp2
  go_loopg [3, 4] l.length (fun gg s3 s4 wr => ∃ i : Nat, s4 = .int .i64 i ∧ i ≤ l.length ∧ l.length - i ≤ gg ∧ Aside (OpsRow w.heap.size s3 (distinctOf (l.take i)) wr) ∧ Aside (Below w.heap.size w wr))
  case atStart => exact ⟨0, rfl, Nat.zero_le _, by omega, (show Aside _ from World.ownsRow_nil _ _ _ _), (show Aside _ from Below.refl _ _)⟩
  case round =>
    obtain ⟨i, rfl, hil, hgg, hR, hB⟩ := hrel
    have hi0 : (0 : Int) ≤ (i : Int) := by omega
    have hwi : IntKind.i64.wrap ((i : Int) + 1) = (i : Int) + 1 := wrapNat (i + 1) (by omega)
    obtain ⟨ra, rc, rfl⟩ := hR.out.shape
    by_cases hlt : i < l.length
    · have hlti : (i : Int) < (l.length : Int) := by omega
      have hds := dist_step l i hlt
      have hdl : (distinctOf (l.take i)).length ≤ 1000 := by have := dist_len (l.take i) []; rw [List.length_take] at this; exact Nat.le_trans this (by omega)
      have HR := Lib.hid hR.out
      have HB := Lib.hid hB.out
      clear hR hB
      generalize distinctOf (l.take i) = D at *
      obtain ⟨x, hx⟩ : ∃ x, l[i]! = x := ⟨_, rfl⟩
      have HXI := Lib.hid hx
      rw [hx] at hds
      have HDS0 := Lib.hid hds
      clear hds hx
      obtain ⟨wo, hwo⟩ : ∃ wo, wo = wr := ⟨_, rfl⟩
      subst hwo
      go_wp2
      go_loopg [5, 6] i (fun gg s5 s6 wr => ∃ (k : Nat) (bb : Bool), s6 = .int .i64 k ∧ s5 = .bool bb ∧ k ≤ i ∧ i - k ≤ gg ∧ Aside (bb = (l.take k).all fun a => !decide (a.stamp = x.stamp)) ∧ Aside (Below wo.heap.size wo wr))
      case atStart => exact ⟨0, true, rfl, rfl, Nat.zero_le _, by omega, (show Aside _ from (by simp : true = (l.take 0).all fun a => !decide (a.stamp = x.stamp))), (show Aside _ from Below.refl _ _)⟩
      case round =>
        obtain ⟨k, bb, rfl, rfl, hkl, hgk, hE, hQ⟩ := hrel
        have hk0 : (0 : Int) ≤ (k : Int) := by omega
        have hwk : IntKind.i64.wrap ((k : Int) + 1) = (k : Int) + 1 := wrapNat (k + 1) (by omega)
        have hBR : Below w.heap.size w wr := HB.out.trans (hQ.out.mono HB.out.size)
        by_cases hlk : k < i
        · have hlkc : (k : Int) < (i : Int) := by omega
          have hkc2 : (k : Int) < (l.length : Int) := by omega
          have hms := all_succ (l := l) (k := k) (by omega) x
          obtain ⟨bb2, off, rfl, _, hcells⟩ := slAt_at (HSL.out wr hBR) hlt
          have x0 := hcells k (by omega) 0 _ rfl
          have x1 := hcells k (by omega) 1 _ rfl
          have y0 := hcells i (by omega) 0 _ rfl
          have y1 := hcells i (by omega) 1 _ rfl
          rw [Nat.add_zero] at x0 y0
          rw [HXI.out] at y0 y1
          have HNE : ∀ w, (binOp .neq 31 (.agg #[.int .i64 l[k]!.stamp.t, .int .i64 l[k]!.stamp.r]) (.agg #[.int .i64 x.stamp.t, .int .i64 x.stamp.r])).run Tryz.prog w = .ok (.bool (!decide (l[k]!.stamp = x.stamp))) w := neq_st _ _
          have HMS := Lib.hid hms
          clear hcells hms hBR
          generalize hdd : (!decide (l[k]!.stamp = x.stamp)) = dd at *
          clear hdd
          generalize l[k]! = z at *
          cases bb with
          | true =>
            go_wp2_with fail
            go_quiet (fail)
            go_wp2
            go_roundg (i - (k + 1))
            case measure => omega
            case rel => exact ⟨k + 1, dd, by first | rfl | go_num, by first | rfl | simp, by omega, by omega, (show Aside _ from by rw [HMS.out, ← hE.out]; rfl), (show Aside _ from hQ.out.trans ⟨rfl, rfl, rfl, Nat.le_refl _, fun _ _ => rfl⟩)⟩
          | false =>
            go_wp2_with fail
            go_quiet (fail)
            go_wp2
            go_roundg (i - (k + 1))
            case measure => omega
            case rel => exact ⟨k + 1, false, by first | rfl | go_num, rfl, by omega, by omega, (show Aside _ from by rw [HMS.out, ← hE.out]; rfl), (show Aside _ from hQ.out.trans ⟨rfl, rfl, rfl, Nat.le_refl _, fun _ _ => rfl⟩)⟩
        · have hlkc : ¬ (k : Int) < (i : Int) := by omega
          obtain rfl : k = i := by omega
          have hds := HDS0.out
          rw [← hE.out] at hds
          have HBR := Lib.hid hBR
          have HROW : Hid (OpsRow w.heap.size (.slice ra D.length rc) D wr) := Lib.hid (HR.out.kept hQ.out)
          obtain ⟨bb2, off, rfl, _, hcells⟩ := slAt_at (HSL.out wr hBR) hlt
          obtain ⟨x0, x1, x2, x3, x4, x5, x6, x7, x8, x9, x10, x11, x12⟩ := cellsOpF hcells k hlt
          rw [HXI.out] at x0 x1 x2 x3 x4 x5 x6 x7 x8 x9 x10 x11 x12
          clear hcells hE hQ hBR hlk
          cases bb with
          | false =>
            have HDS := Lib.hid (show distinctOf (l.take (k + 1)) = D by rw [hds]; simp)
            clear hds
            go_wp2
            go_roundg (l.length - (k + 1))
            case measure => omega
            case rel => exact ⟨k + 1, by first | rfl | go_num, by omega, by omega, (show Aside _ from by rw [HDS.out]; exact HROW.out), (show Aside _ from HBR.out)⟩
          | true =>
            have HDS := Lib.hid (show distinctOf (l.take (k + 1)) = D ++ [x] by rw [hds]; simp)
            clear hds
            cases ra with
            | none =>
              go_wp2_with ((at_builtin; refine wpList_append_own _ rfl _ _ 40 rfl w.heap.size 47 i0 _ 13 128 Tryz.underlying40 hinf hz0 hz1 hz2 rfl (by decide) _ _ _ rfl (World.ownsRow.alloc HROW.out _) ⟨wr.heap.size, 0, none⟩ 1 1 x.cells rfl rfl (box_cells (by rw [World.alloc_heap_new]; rfl)) (fun u hu => Op.one x u hu) (by simp only [maxLen]; omega) (by omega) (by have := HBR.out.size; simp only [World.size_alloc]; omega) ?_; intro v' w6 hown' hgrow _; have HO := Lib.hid hown'; have HGW := Lib.hid hgrow; clear hown' hgrow))
              go_roundg (l.length - (k + 1))
              case measure => omega
              case rel => exact (by
                  have hge := fun k (e : Value.ownBlock _ = some k) => rowGe HROW.out e
                  refine ⟨k + 1, by first | rfl | go_num, by omega, by omega, (show Aside _ from ?_), (show Aside _ from ?_)⟩
                  · rw [HDS.out]
                    show w6.ownsRow _ _ _ _ _ _
                    rw [List.length_append, List.flatMap_append, List.flatMap_cons, List.flatMap_nil, List.append_nil]
                    exact HO.out
                  · exact (HBR.out.alloc HBR.out.size _).trans (grownBy_below HGW.out (by have := HBR.out.size; simp only [World.size_alloc]; omega) hge))
            | some ra =>
              go_wp2_with ((at_builtin; refine wpList_append_own _ rfl _ _ 40 rfl w.heap.size 47 i0 _ 13 128 Tryz.underlying40 hinf hz0 hz1 hz2 rfl (by decide) _ _ _ rfl (World.ownsRow.alloc HROW.out _) ⟨wr.heap.size, 0, none⟩ 1 1 x.cells rfl rfl (box_cells (by rw [World.alloc_heap_new]; rfl)) (fun u hu => Op.one x u hu) (by simp only [maxLen]; omega) (by omega) (by have := HBR.out.size; simp only [World.size_alloc]; omega) ?_; intro v' w6 hown' hgrow _; have HO := Lib.hid hown'; have HGW := Lib.hid hgrow; clear hown' hgrow))
              all_goals (go_roundg (l.length - (k + 1)))
              case measure => omega
              case rel => exact (by
                  have hge := fun k (e : Value.ownBlock _ = some k) => rowGe HROW.out e
                  refine ⟨k + 1, by first | rfl | go_num, by omega, by omega, (show Aside _ from ?_), (show Aside _ from ?_)⟩
                  · rw [HDS.out]
                    show w6.ownsRow _ _ _ _ _ _
                    rw [List.length_append, List.flatMap_append, List.flatMap_cons, List.flatMap_nil, List.append_nil]
                    exact HO.out
                  · exact (HBR.out.alloc HBR.out.size _).trans (grownBy_below HGW.out (by have := HBR.out.size; simp only [World.size_alloc]; omega) hge))
    · have hlti : ¬ (i : Int) < (l.length : Int) := by omega
      have HGF : Hid (OpsRow w.heap.size (.slice ra (distinctOf (l.take i)).length rc) (distinctOf l) wr) := Lib.hid (by
        have e : l.take i = l := List.take_of_length_le (by omega)
        have := hR.out
        rw [e] at this ⊢
        exact this)
      clear hlt
      go_wp2
      go_ret
      exact ⟨_, rfl, HGF.out, hB.out⟩
end Go.Proofs.YtlokljaeknmdpaaGreat.L13
