/-
  slices.Insert at a row of operations of the call's own: one more, at its place; condition: the place is one.
-/
import Derived.Test.YtfbjiaedfmdcfaaGreatDoorKY29
import Derived.Deep.RegionLaw
import Derived.Laws.Externs
/-! ## Ins -/
namespace Go.Proofs.YtfbjiaedfmdcfaaGreatDoor
open Go.RowKit Go.Proofs

theorem wpList_append_run {P : Program} (w : World) {ops : Array Oper} {rest : List Oper} {o : Oper} {a : Act} {Q : Exit → Act → World → Prop} (hgd : o.guard = none) (d s : Operand) (t t' : TypeId)
    (ho : o.op = .call { callee := .builtin .append, args := #[d, s], argTypes := #[t, t'] }) (v u : Value) (hd : a.eval d = v) (hs : a.eval s = u) {v' : Value} {w' : World}
    (hr : (Builtin.append_ #[t, t'] o.type #[v, u]).run P w = .ok v' w') (h : wpList P ops Q rest (a.put o.dst v') w') : wpList P ops Q (o :: rest) a w :=
  wpList_plain hgd fun K hK => by
    unfold Oper.wp execOp
    simp only [ho, resolve, invoke, builtin, Sem.run_bind, Sem.run_pure, Result.andThen_ok, List.map_toArray, List.map_cons, List.map_nil, hd, hs, hr]
    exact hK _ _ h
theorem opSize : (Tryz.prog.info? 42).map (·.size) = some 13 := by kernel_rfl

set_option maxRecDepth 100000 in
set_option maxHeartbeats 4000000 in
theorem insert_shift (b cap n i vb : Nat) (cur : Array Value) (l : List Op) (o : Op) (w : World) (hn : l.length = n) (hi : i < n) (hroom : n + 1 ≤ cap) (hcap : cap ≤ maxLen)
    (hb : w.heap[b]? = some (.cells cur 42 (0, 0))) (hcs : cur.size = cap * 13) (hL : cur.toList.take (n * 13) = l.flatMap Op.cells)
    (hvb : w.heap[vb]? = some (.cells o.cells.toArray 42 (0, 0))) (hne : vb ≠ b) :
    Calls Tryz.prog 178 #[.slice (some ⟨b, 0, none⟩) n cap, .int .i64 i, .slice (some ⟨vb, 0, none⟩) 1 1] w fun e w' =>
      e = .returned (.slice (some ⟨b, 0, none⟩) (n + 1) cap) ∧ (∃ cur2 : Array Value, w'.heap[b]? = some (.cells cur2 42 (0, 0)) ∧ cur2.size = cur.size ∧ cur2.toList.take ((n + 1) * 13) = (l.take i ++ o :: l.drop i).flatMap Op.cells) ∧ w.grownBy w' (some b) := by
  have hll : (l.flatMap Op.cells).length = n * 13 := (flat_len (f := Op.cells) (k := 13) (fun _ => rfl) l).trans (by rw [hn])
  have hS := ins_shift (cur := cur.toList) (L := l.flatMap Op.cells) (oc := o.cells) (a := i * 13) (n := n * 13) (k := 13) hL hll (by omega) rfl (by rw [Array.length_toList, hcs]; omega)
  have hfl := flat_ins (f := Op.cells) (k := 13) (fun _ => rfl) l i o
  have hc1 : ∀ v ∈ l.flatMap Op.cells, v.oneCell' = true := fun v hv => by
    obtain ⟨x, _, hx⟩ := List.mem_flatMap.1 hv
    exact Op.one x v hx
  obtain ⟨L, hLL⟩ : ∃ L, L = l.flatMap Op.cells := ⟨_, rfl⟩
  rw [← hLL] at hll hS hfl hc1 hL
  rw [hfl]
  clear hfl
  have hov : ∀ off lb cb, (callFunc 209 #[.slice (some ⟨vb, 0, none⟩) 1 1, .slice (some ⟨b, off, none⟩) lb cb]).run Tryz.prog w = .ok (.value (.bool false)) w := fun off lb cb => by
    rw [run_callFunc_extern Tryz.func209 (by kernel_rfl) (by kernel_rfl) (by kernel_rfl) (e := Extern.SlicesOverlaps.overlaps #[56, 56] #[4]) (by kernel_rfl),
      Lib.run_overlaps_apart w 56 4 42 Tryz.underlying56 13 Tryz.sizeOf42 ⟨vb, 0, none⟩ ⟨b, off, none⟩ 1 1 lb cb hne 42 42 13 (cap * 13) (by simp [World.shape?, hvb, Op.cells]) (by simp [World.shape?, hb, hcs]) (by omega) (by simp [World.frozen?, hvb]) (by simp [World.frozen?, hvb])]
    rfl
  have hz2 : ¬ ((i : Int) = (n : Int)) := by omega
  have hw1 : IntKind.i64.wrap ((i : Int) + 1) = (i : Int) + 1 := by unfold maxLen at hcap; rw [IntKind.wrap_i64]; omega
  have hw2 : IntKind.i64.wrap ((n : Int) + 1) = (n : Int) + 1 := by unfold maxLen at hcap; rw [IntKind.wrap_i64]; omega
  have hb1 : (0 : Int) ≤ (i : Int) + 1 := by omega
  have hin : i ≤ n := by omega
  have htn : ((i : Int) + 1).toNat = i + 1 := by omega
  have hb2 : ¬ (cap = i + 1) := by omega
  have hb3 : (i : Int) ≤ (n : Int) + 1 := by omega
  have hb4 : ¬ (cap = i) := by omega
  have hdl : (L.drop (i * 13)).length = (n - i) * 13 := by rw [List.length_drop, hll]; omega
  have hcp1 : ∀ ty dc sc, (Builtin.copy_ #[56, 56] ty #[.slice (some ⟨b, (i + 1) * 13, none⟩) (n - i) dc, .slice (some ⟨b, i * 13, none⟩) (n + 1 - i) sc]).run Tryz.prog w.drew = .ok (goInt (Nat.min (n + 1 - i) (n - i))) _ := fun ty dc sc =>
    run_copy_rowk w.drew _ _ ty 42 13 b ((i + 1) * 13) (n - i) dc ⟨b, i * 13, none⟩ (n + 1 - i) sc cur 42 (L.drop (i * 13)) Tryz.underlying56 opSize hb (by rw [hdl]; congr 1; show n - i = min _ _; omega)
      (fun j v hj => by
        rw [Addr.add_lit]
        rw [List.getElem?_drop] at hj
        have hlt : i * 13 + j < n * 13 := by have := (List.getElem?_eq_some_iff.1 hj).1; omega
        rw [← hL, List.getElem?_take, if_pos hlt] at hj
        show World.cell? w _ = _
        simp only [World.cell?, hb]
        simpa using hj)
      (by rw [hdl, hcs]; omega) (fun v hv => hc1 v (List.mem_of_mem_drop hv))
  obtain ⟨C1, hC1⟩ : ∃ C1 : List Value, C1 = cur.toList.take ((i + 1) * 13) ++ L.drop (i * 13) ++ cur.toList.drop ((i + 1) * 13 + (L.drop (i * 13)).length) := ⟨_, rfl⟩
  rw [← hC1] at hcp1
  rw [show i * 13 + 13 = (i + 1) * 13 by omega, ← hC1] at hS
  obtain ⟨hS1, hS2, hS3⟩ := hS
  have hl1 : C1.length = cap * 13 := by rw [hS1, Array.length_toList, hcs]
  obtain ⟨W1, hW1⟩ : ∃ W1, W1 = w.drew.setRow b C1.toArray := ⟨_, rfl⟩
  rw [← hW1] at hcp1
  have hb1' : W1.heap[b]? = some (.cells C1.toArray 42 (0, 0)) := by rw [hW1]; exact setRow_heap w.drew b cur _ _ _ hb
  have hvb1 : W1.heap[vb]? = some (.cells o.cells.toArray 42 (0, 0)) := by rw [hW1, setRow_other w.drew b vb _ hne]; exact hvb
  have hcp2 : ∀ ty dc, (Builtin.copy_ #[56, 56] ty #[.slice (some ⟨b, i * 13, none⟩) (n + 1 - i) dc, .slice (some ⟨vb, 0, none⟩) 1 1]).run Tryz.prog W1 = .ok (goInt (Nat.min 1 (n + 1 - i))) _ := fun ty dc =>
    run_copy_rowk W1 _ _ ty 42 13 b (i * 13) (n + 1 - i) dc ⟨vb, 0, none⟩ 1 1 C1.toArray 42 o.cells Tryz.underlying56 opSize hb1' (by show 13 = min 1 (n + 1 - i) * 13; omega)
      (fun j v hj => by
        rw [Addr.add_lit, Nat.zero_add]
        simp only [World.cell?, hvb1]
        simpa using hj)
      (by show i * 13 + 13 ≤ C1.toArray.size; rw [List.size_toArray, hl1]; omega) (fun v hv => Op.one o v hv)
  obtain ⟨C2, hC2⟩ : ∃ C2 : List Value, C2 = C1.take (i * 13) ++ o.cells ++ C1.drop (i * 13 + o.cells.length) := ⟨_, rfl⟩
  rw [← hC2] at hS2 hS3
  rw [show C1.toArray.toList = C1 from rfl, ← hC2] at hcp2
  have HF : Hid ((W1.setRow b C2.toArray).heap[b]? = some (.cells C2.toArray 42 (0, 0)) ∧ C2.toArray.size = cur.size ∧ C2.toArray.toList.take ((n + 1) * 13) = L.take (i * 13) ++ o.cells ++ L.drop (i * 13)) := Lib.hid ⟨setRow_heap W1 b _ _ _ _ hb1', by rw [List.size_toArray, hS2, Array.length_toList], by rw [show (n + 1) * 13 = n * 13 + 13 by omega]; exact hS3⟩
  have HG : Hid (w.grownBy (W1.setRow b C2.toArray) (some b)) := Lib.hid ⟨by rw [hW1]; rfl, by rw [hW1]; rfl, by rw [hW1]; rfl, by rw [setRow_size, hW1, setRow_size]; exact Nat.le_refl _, fun k _ hk => by
    have hkb : k ≠ b := fun e => hk (by rw [e])
    rw [setRow_other W1 b k _ hkb, hW1, setRow_other w.drew b k _ hkb]; rfl⟩
  clear hS1 hS2 hS3 hC1 hC2 hW1 hL hc1 hLL hll hdl hl1 hb1' hvb1 hb hvb hcs hn
  go_enter Tryz.func178, Tryz.ntmps178
  go_wp2_with (simp only [hov])
  go_region_law (refine step_copy_run rfl _ _ 56 56 rfl _ _ (by simp [Act.eval, Act.put]) (by simp [Act.eval, Act.put]) (hcp1 _ _ _) ?_)
  go_wp2_with (at_builtin; refine wpList_copy_run _ rfl _ _ 56 56 rfl _ _ rfl rfl (hcp2 _ _) ?_)
  go_ret
  exact ⟨rfl, ⟨_, HF.out.1, HF.out.2.1, HF.out.2.2⟩, HG.out⟩

theorem infoOp : (Tryz.prog.info? 42).map (fun i => (i.zero, i.size, i.bytes)) = some (some (.agg #[.int .i64 0, .int .i64 0, .int .i64 0, .int .i64 0, .int .i64 0, .int .i64 0, .int .i64 0, .int .i64 0, .int .i64 0, .string ⟨#[]⟩, .string ⟨#[]⟩, .int .i64 0, .string ⟨#[]⟩]), 13, 128) := by kernel_rfl
theorem box_cells {w : World} {vb : Nat} {o : Op} (h : w.heap[vb]? = some (.cells o.cells.toArray 42 (0, 0))) : ∀ j u, o.cells[j]? = some u → w.cell? ((⟨vb, 0, none⟩ : Addr).add j) = some u := fun j u hj => by
  rw [Addr.add_lit, Nat.zero_add]
  simp only [World.cell?, h]
  simpa using hj

set_option maxRecDepth 100000 in
set_option maxHeartbeats 4000000 in
theorem insert_end (B : Nat) (v : Value) (vb : Nat) (l : List Op) (o : Op) (w : World) (h : w.ownsRow B 42 13 v l.length (l.flatMap Op.cells)) (hB : B ≤ w.heap.size) (hl : l.length ≤ 1000)
    (hvb : w.heap[vb]? = some (.cells o.cells.toArray 42 (0, 0))) :
    Calls Tryz.prog 178 #[v, .int .i64 l.length, .slice (some ⟨vb, 0, none⟩) 1 1] w fun e w' =>
      ∃ v', e = .returned v' ∧ w'.ownsRow B 42 13 v' (l.length + 1) ((l ++ [o]).flatMap Op.cells) ∧ w.grownBy w' v.ownBlock := by
  obtain ⟨i0, hinf, hz0, hz1, hz2⟩ := info_parts infoOp
  have hbc := box_cells hvb
  have e0 : (l ++ [o]).flatMap Op.cells = l.flatMap Op.cells ++ o.cells := by rw [List.flatMap_append, List.flatMap_cons, List.flatMap_nil, List.append_nil]
  rw [e0]
  clear hvb e0
  have h2 := h.2
  generalize hn : l.length = n at *
  generalize l.flatMap Op.cells = L at *
  rcases h2 with ⟨rfl, rfl⟩ | ⟨g, cap, cur, rfl, _⟩
  · go_enter Tryz.func178, Tryz.ntmps178
    go_wp2_with (at_builtin; refine wpList_append_own _ rfl _ _ 56 rfl B 42 i0 _ 13 128 Tryz.underlying56 hinf hz0 hz1 hz2 rfl (by decide) _ _ _ rfl h ⟨vb, 0, none⟩ 1 1 o.cells rfl rfl hbc (fun u hu => Op.one o u hu) (by simp only [maxLen]; omega) (by omega) hB ?_; intro v' w5 hown' hgrow _)
    go_ret
    exact ⟨_, rfl, hown', hgrow⟩
  · go_enter Tryz.func178, Tryz.ntmps178
    go_wp2_with (at_builtin; refine wpList_append_own _ rfl _ _ 56 rfl B 42 i0 _ 13 128 Tryz.underlying56 hinf hz0 hz1 hz2 rfl (by decide) _ _ _ rfl h ⟨vb, 0, none⟩ 1 1 o.cells rfl rfl hbc (fun u hu => Op.one o u hu) (by simp only [maxLen]; omega) (by omega) hB ?_; intro v' w5 hown' hgrow _)
    all_goals (go_ret; exact ⟨_, rfl, hown', hgrow⟩)

set_option maxRecDepth 100000 in
set_option maxHeartbeats 4000000 in
theorem insert_grow (b cap n i vb : Nat) (cur : Array Value) (l : List Op) (o : Op) (w : World) (hn : l.length = n) (hn1 : n ≤ 1000) (hi : i < n) (hnc : n ≤ cap) (hroom : cap < n + 1)
    (hb : w.heap[b]? = some (.cells cur 42 (0, 0))) (hcs : cur.size = cap * 13) (hL : cur.toList.take (n * 13) = l.flatMap Op.cells)
    (hvb : w.heap[vb]? = some (.cells o.cells.toArray 42 (0, 0))) :
    Calls Tryz.prog 178 #[.slice (some ⟨b, 0, none⟩) n cap, .int .i64 i, .slice (some ⟨vb, 0, none⟩) 1 1] w fun e w' =>
      ∃ G, e = .returned (.slice (some ⟨w.heap.size, 0, none⟩) (n + 1) G) ∧ (n + 1 ≤ G ∧ G ≤ maxLen) ∧ (∃ cur2 : Array Value, w'.heap[w.heap.size]? = some (.cells cur2 42 (0, 0)) ∧ cur2.size = G * 13 ∧ cur2.toList.take ((n + 1) * 13) = (l.take i ++ o :: l.drop i).flatMap Op.cells) ∧ w.grownBy w' none := by
  obtain ⟨i0, hinf, hz0, hz1, hz2⟩ := info_parts infoOp
  have hll : (l.flatMap Op.cells).length = n * 13 := (flat_len (f := Op.cells) (k := 13) (fun _ => rfl) l).trans (by rw [hn])
  have hfl := flat_ins (f := Op.cells) (k := 13) (fun _ => rfl) l i o
  have hc1 : ∀ v ∈ l.flatMap Op.cells, v.oneCell' = true := fun v hv => by
    obtain ⟨x, _, hx⟩ := List.mem_flatMap.1 hv
    exact Op.one x v hx
  obtain ⟨L, hLL⟩ : ∃ L, L = l.flatMap Op.cells := ⟨_, rfl⟩
  rw [← hLL] at hll hfl hc1 hL
  rw [hfl]
  clear hfl
  obtain rfl : cap = n := by omega
  have hcl : cur.toList = L := by rw [← hL, List.take_of_length_le (by rw [Array.length_toList, hcs]; omega)]
  have hLc : ∀ j v, L[j]? = some v → w.cell? ⟨b, j, none⟩ = some v := fun j v hj => by
    simp only [World.cell?, hb]
    rw [← hcl] at hj
    simpa using hj
  have hbw : b < w.heap.size := (Array.getElem?_eq_some_iff.1 hb).1
  have hvw : vb < w.heap.size := (Array.getElem?_eq_some_iff.1 hvb).1
  have hz2' : ¬ ((i : Int) = (cap : Int)) := by omega
  have hz3 : (cap : Int) < (cap : Int) + 1 := by omega
  have hold : (Builtin.firstCells i0.size i (.slice (some ⟨b, 0, none⟩) i cap)).run Tryz.prog w.drew = .ok (L.take (i * 13)).toArray w.drew := by
    rw [hz1]
    exact run_firstCells_some w.drew 13 i ⟨b, 0, none⟩ i cap (L.take (i * 13)) (by rw [List.length_take]; omega) (fun j v hj => by
      rw [Addr.add_lit, Nat.zero_add]
      rw [List.getElem?_take] at hj
      split at hj
      · exact hLc j v hj
      · cases hj)
  obtain ⟨G, hG⟩ : ∃ G, G = grownCap w (cap + 1) cap 42 := ⟨_, rfl⟩
  obtain ⟨Z, hZ⟩ : ∃ Z : Value, Z = (.agg #[.int .i64 0, .int .i64 0, .int .i64 0, .int .i64 0, .int .i64 0, .int .i64 0, .int .i64 0, .int .i64 0, .int .i64 0, .string ⟨#[]⟩, .string ⟨#[]⟩, .int .i64 0, .string ⟨#[]⟩]) := ⟨_, rfl⟩
  have hZc : Z.cells.size = 13 := by rw [hZ]; rfl
  rw [← hZ] at hz0
  have hrz : ∀ ty, (Builtin.append_ #[56, 3] ty #[.slice (some ⟨b, 0, none⟩) i cap, .int .i64 ((cap : Int) + 1 - (i : Int))]).run Tryz.prog w =
      .ok (.slice (some ⟨w.heap.size, 0, none⟩) (cap + 1) G) (w.drew.alloc (.cells ((L.take (i * 13)).toArray ++ Builtin.zeroCells Z.cells (cap + 1 - i) ++ Builtin.zeroCells Z.cells (G - (cap + 1))) 42)) := fun ty => by
    have h := Lib.run_append_grow_zeros w 56 3 ty 42 i0 Z .i64 .i64 Tryz.underlying56 Tryz.underlying3 hinf hz0 (some ⟨b, 0, none⟩) i cap (L.take (i * 13)) hold (cap + 1 - i) (by omega) (by rw [hz1]; omega) (by omega) (by omega) (by rw [hz2]; omega) (by rw [hz2, show i + (cap + 1 - i) = cap + 1 by omega]; exact growslice_fits (by omega) (by omega))
    rw [show i + (cap + 1 - i) = cap + 1 by omega, ← hG] at h
    rw [show (cap : Int) + 1 - (i : Int) = ((cap + 1 - i : Nat) : Int) by omega]
    exact h
  have hGn : cap + 1 ≤ G := by rw [hG]; exact grownCap_ge w _ _ _
  have hG63 : G ≤ maxLen := by rw [hG]; exact grownCap_le_maxLen w (cap + 1) cap 42 (by unfold maxLen; omega)
  obtain ⟨ROW, hROW⟩ : ∃ ROW : Array Value, ROW = (L.take (i * 13)).toArray ++ Builtin.zeroCells Z.cells (cap + 1 - i) ++ Builtin.zeroCells Z.cells (G - (cap + 1)) := ⟨_, rfl⟩
  rw [← hROW] at hrz
  have hlt : (L.take (i * 13)).length = i * 13 := by rw [List.length_take]; omega
  have hzc : ∀ k, (Builtin.zeroCells Z.cells k).size = k * 13 := fun k => by simp [Builtin.zeroCells, hZc]
  have hRl : ROW.size = G * 13 := by
    rw [hROW, Array.size_append, Array.size_append, List.size_toArray, hlt, hzc, hzc]; omega
  have hRt : ROW.toList.take (i * 13) = L.take (i * 13) := by
    rw [hROW, Array.toList_append, Array.toList_append, List.append_assoc]
    exact List.take_left' hlt
  have hS := ins_grow (R := ROW.toList) (L := L) (oc := o.cells) (a := i * 13) (n := cap * 13) (k := 13) hll (by omega) rfl hRt (by rw [Array.length_toList, hRl]; omega)
  dsimp only at hS
  obtain ⟨g, hg⟩ : ∃ g, g = w.heap.size := ⟨_, rfl⟩
  obtain ⟨W1, hW1⟩ : ∃ W1, W1 = w.drew.alloc (.cells ROW 42) := ⟨_, rfl⟩
  have hN : W1.heap[g]? = some (.cells ROW 42 (0, 0)) := by rw [hW1, hg]; exact World.alloc_heap_new w.drew _
  have hO : ∀ k, k < w.heap.size → W1.heap[k]? = w.heap[k]? := fun k hk => by rw [hW1]; exact Below.heap_alloc w.drew _ k hk
  have hbg : b ≠ g := by omega
  have hvg : vb ≠ g := by omega
  obtain ⟨C1, hC1⟩ : ∃ C1 : List Value, C1 = ROW.toList.take (i * 13) ++ o.cells ++ ROW.toList.drop (i * 13 + o.cells.length) := ⟨_, rfl⟩
  obtain ⟨C2, hC2⟩ : ∃ C2 : List Value, C2 = C1.take ((i + 1) * 13) ++ L.drop (i * 13) ++ C1.drop ((i + 1) * 13 + (L.drop (i * 13)).length) := ⟨_, rfl⟩
  rw [show i * 13 + 13 = (i + 1) * 13 by omega, ← hC1, ← hC2] at hS
  obtain ⟨hS1, hS2, hS3⟩ := hS
  have hl1 : C1.length = G * 13 := by rw [hS1, Array.length_toList, hRl]
  have hdl : (L.drop (i * 13)).length = (cap - i) * 13 := by rw [List.length_drop, hll]; omega
  have hcpA : ∀ (W : World), W.heap = W1.heap → ∀ ty dc, (Builtin.copy_ #[56, 56] ty #[.slice (some ⟨g, i * 13, none⟩) (cap + 1 - i) dc, .slice (some ⟨vb, 0, none⟩) 1 1]).run Tryz.prog W = .ok (goInt (Nat.min 1 (cap + 1 - i))) (W.setRow g C1.toArray) := fun W hW ty dc => by
    rw [hC1]
    exact run_copy_rowk W _ _ ty 42 13 g (i * 13) (cap + 1 - i) dc ⟨vb, 0, none⟩ 1 1 ROW 42 o.cells Tryz.underlying56 opSize (by rw [hW]; exact hN) (by show 13 = min 1 (cap + 1 - i) * 13; omega)
      (box_cells (by rw [hW, hO vb hvw]; exact hvb)) (by show i * 13 + 13 ≤ ROW.size; rw [hRl]; omega) (fun v hv => Op.one o v hv)
  have hcpB : ∀ (W : World), W.heap = (W1.setRow g C1.toArray).heap → ∀ ty dc sc, (Builtin.copy_ #[56, 56] ty #[.slice (some ⟨g, (i + 1) * 13, none⟩) (cap - i) dc, .slice (some ⟨b, i * 13, none⟩) (cap - i) sc]).run Tryz.prog W = .ok (goInt (Nat.min (cap - i) (cap - i))) (W.setRow g C2.toArray) := fun W hW ty dc sc => by
    rw [hC2]
    exact run_copy_rowk W _ _ ty 42 13 g ((i + 1) * 13) (cap - i) dc ⟨b, i * 13, none⟩ (cap - i) sc C1.toArray 42 (L.drop (i * 13)) Tryz.underlying56 opSize (by rw [hW]; exact setRow_heap W1 g _ _ _ _ hN) (by rw [hdl]; congr 1; show cap - i = min _ _; omega)
      (fun j v hj => by
        rw [Addr.add_lit]
        rw [List.getElem?_drop] at hj
        simp only [World.cell?, hW, setRow_other W1 g b _ hbg, hO b hbw, hb]
        rw [← hcl] at hj
        simpa using hj)
      (by rw [hdl, List.size_toArray, hl1]; omega) (fun v hv => hc1 v (List.mem_of_mem_drop hv))
  have HF : Hid (∀ W : World, W.heap = (W1.setRow g C1.toArray).heap → (W.setRow g C2.toArray).heap[g]? = some (.cells C2.toArray 42 (0, 0)) ∧ C2.toArray.size = G * 13 ∧ C2.toArray.toList.take ((cap + 1) * 13) = L.take (i * 13) ++ o.cells ++ L.drop (i * 13)) := Lib.hid fun W hW =>
    ⟨setRow_heap W g C1.toArray _ _ _ (by rw [hW]; exact setRow_heap W1 g _ _ _ _ hN), by rw [List.size_toArray, hS2, Array.length_toList, hRl], by rw [show (cap + 1) * 13 = cap * 13 + 13 by omega]; exact hS3⟩
  have HG : Hid (∀ W : World, W.heap = (W1.setRow g C1.toArray).heap → W.os = w.os → W.tape = w.tape → W.output = w.output → w.grownBy (W.setRow g C2.toArray) none) := Lib.hid fun W hW h1 h2 h3 =>
    ⟨h1, h2, h3, by rw [setRow_size, hW, setRow_size, hW1]; simp, fun k hk _ => by
      have hkg : k ≠ g := by omega
      rw [setRow_other W g k _ hkg, hW, setRow_other W1 g k _ hkg]; exact hO k hk⟩
  rw [← hg] at hrz ⊢
  have hE1 : ((w.alloc (.cells ROW 42)).drew).heap = W1.heap := by rw [hW1]; rfl
  have hE2 : (w.drew.alloc (.cells ROW 42)).heap = W1.heap := by rw [hW1]
  clear hS1 hS2 hS3 hC1 hC2 hL hc1 hLL hll hdl hl1 hN hO hb hvb hcs hn hROW hzc hlt hZc hZ hz0 hold hG hcl hLc hRl hRt
  have hw1 : IntKind.i64.wrap ((i : Int) + 1) = (i : Int) + 1 := by rw [IntKind.wrap_i64]; omega
  have hw2 : IntKind.i64.wrap ((cap : Int) + 1) = (cap : Int) + 1 := by rw [IntKind.wrap_i64]; omega
  have hw3 : IntKind.i64.wrap ((cap : Int) + 1 - (i : Int)) = (cap : Int) + 1 - (i : Int) := by rw [IntKind.wrap_i64]; omega
  have hb1 : (0 : Int) ≤ (i : Int) + 1 := by omega
  have hin : i ≤ cap := by omega
  have htn : ((i : Int) + 1).toNat = i + 1 := by omega
  have hGi : ¬ (G = i) := by omega
  have hGim : ¬ (G = i + 1) := by omega
  have hci : ¬ (cap = i) := by omega
  have hb3 : (i : Int) ≤ (cap : Int) := by omega
  have hb4 : (i : Int) ≤ (cap : Int) + 1 := by omega
  subst hW1
  subst hg
  have hA := hcpA ((w.alloc (.cells ROW 42)).drew) rfl
  have hB' := hcpB (((w.alloc (.cells ROW 42)).drew.setRow w.heap.size C1.toArray).drew) rfl
  clear hcpA hcpB
  go_enter Tryz.func178, Tryz.ntmps178
  go_wp2_with (first
    | (at_builtin; refine wpList_append_run _ rfl _ _ 56 3 rfl _ _ rfl rfl (hrz _) ?_)
    | (at_builtin; refine wpList_copy_run _ rfl _ _ 56 56 rfl _ _ rfl rfl (hA _ _) ?_))
  go_region_law (refine step_copy_run rfl _ _ 56 56 rfl _ _ (by simp [Act.eval, Act.put]) (by simp [Act.eval, Act.put]) (hB' _ _ _) ?_)
  go_wp2
  go_ret
  exact ⟨G, rfl, ⟨hGn, hG63⟩, ⟨_, (HF.out _ rfl).1, (HF.out _ rfl).2.1, (HF.out _ rfl).2.2⟩, HG.out _ rfl rfl rfl rfl⟩
end Go.Proofs.YtfbjiaedfmdcfaaGreatDoor
