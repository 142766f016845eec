/-
  slices.Insert at a row of operations of the call's own: one more, at its place; condition: the place is one. · Operations, plainly: what stays true of a graph; no condition. · Operations, plainly: what each kind does when it can be done; no condition. · Operations, plainly: what is made, tied, gone; no condition. · What was written is read, plainly; no condition. · Operations, plainly: what is renamed, and what is data alone; no condition.
-/
import Derived.Test.YtlokljaeknmdpaaGreatKZ4
import Derived.Deep.RegionLaw
import Derived.Laws.Externs
import Derived.Test.YtlokljaeknmdpaaGreatKZ3
import Derived.Test.YtlokljaeknmdpaaGreatKZ2
/-! ## Ins -/
namespace Go.Proofs.YtlokljaeknmdpaaGreat
open Go.RowKit Go.Proofs

theorem wpList_append_run {P : Program} (w : World) {ops : Array Oper} {rest : List Oper} {o : Oper} {a : Act} {Q : Exit → Act → World → Prop} (hgd : o.guard = none) (d s : Operand) (t t' : TypeId)
    (ho : o.op = .call { callee := .builtin .append, args := #[d, s], argTypes := #[t, t'] }) (v u : Value) (hd : a.eval d = v) (hs : a.eval s = u) {v' : Value} {w' : World}
    (hr : (Builtin.append_ #[t, t'] o.type #[v, u]).run P w = .ok v' w') (h : wpList P ops Q rest (a.put o.dst v') w') : wpList P ops Q (o :: rest) a w :=
  wpList_plain hgd fun K hK => by
    unfold Oper.wp execOp
    simp only [ho, resolve, invoke, builtin, Sem.run_bind, Sem.run_pure, Result.andThen_ok, List.map_toArray, List.map_cons, List.map_nil, hd, hs, hr]
    exact hK _ _ h
theorem opSize : (Tryz.prog.info? 47).map (·.size) = some 13 := by kernel_rfl

set_option maxRecDepth 100000 in
set_option maxHeartbeats 4000000 in
theorem insert_shift (b cap n i vb : Nat) (cur : Array Value) (l : List Op) (o : Op) (w : World) (hn : l.length = n) (hi : i < n) (hroom : n + 1 ≤ cap) (hcap : cap ≤ maxLen)
    (hb : w.heap[b]? = some (.cells cur 47 (0, 0))) (hcs : cur.size = cap * 13) (hL : cur.toList.take (n * 13) = l.flatMap Op.cells)
    (hvb : w.heap[vb]? = some (.cells o.cells.toArray 47 (0, 0))) (hne : vb ≠ b) :
    Calls Tryz.prog 96 #[.slice (some ⟨b, 0, none⟩) n cap, .int .i64 i, .slice (some ⟨vb, 0, none⟩) 1 1] w fun e w' =>
      e = .returned (.slice (some ⟨b, 0, none⟩) (n + 1) cap) ∧ (∃ cur2 : Array Value, w'.heap[b]? = some (.cells cur2 47 (0, 0)) ∧ cur2.size = cur.size ∧ cur2.toList.take ((n + 1) * 13) = (l.take i ++ o :: l.drop i).flatMap Op.cells) ∧ w.grownBy w' (some b) := by
  have hll : (l.flatMap Op.cells).length = n * 13 := (flat_len (f := Op.cells) (k := 13) (fun _ => rfl) l).trans (by rw [hn])
  have hS := ins_shift (cur := cur.toList) (L := l.flatMap Op.cells) (oc := o.cells) (a := i * 13) (n := n * 13) (k := 13) hL hll (by omega) rfl (by rw [Array.length_toList, hcs]; omega)
  have hfl := flat_ins (f := Op.cells) (k := 13) (fun _ => rfl) l i o
  have hc1 : ∀ v ∈ l.flatMap Op.cells, v.oneCell' = true := fun v hv => by
    obtain ⟨x, _, hx⟩ := List.mem_flatMap.1 hv
    exact Op.one x v hx
  obtain ⟨L, hLL⟩ : ∃ L, L = l.flatMap Op.cells := ⟨_, rfl⟩
  rw [← hLL] at hll hS hfl hc1 hL
  rw [hfl]
  clear hfl
  have hov : ∀ off lb cb, (callFunc 140 #[.slice (some ⟨vb, 0, none⟩) 1 1, .slice (some ⟨b, off, none⟩) lb cb]).run Tryz.prog w = .ok (.value (.bool false)) w := fun off lb cb => by
    rw [run_callFunc_extern Tryz.func140 (by kernel_rfl) (by kernel_rfl) (by kernel_rfl) (e := Extern.SlicesOverlaps.overlaps #[40, 40] #[4]) (by kernel_rfl),
      Lib.run_overlaps_apart w 40 4 47 Tryz.underlying40 13 Tryz.sizeOf47 ⟨vb, 0, none⟩ ⟨b, off, none⟩ 1 1 lb cb hne 47 47 13 (cap * 13) (by simp [World.shape?, hvb, Op.cells]) (by simp [World.shape?, hb, hcs]) (by omega) (by simp [World.frozen?, hvb]) (by simp [World.frozen?, hvb])]
    rfl
  have hz2 : ¬ ((i : Int) = (n : Int)) := by omega
  have hw1 : IntKind.i64.wrap ((i : Int) + 1) = (i : Int) + 1 := by unfold maxLen at hcap; rw [IntKind.wrap_i64]; omega
  have hw2 : IntKind.i64.wrap ((n : Int) + 1) = (n : Int) + 1 := by unfold maxLen at hcap; rw [IntKind.wrap_i64]; omega
  have hb1 : (0 : Int) ≤ (i : Int) + 1 := by omega
  have hin : i ≤ n := by omega
  have htn : ((i : Int) + 1).toNat = i + 1 := by omega
  have hb2 : ¬ (cap = i + 1) := by omega
  have hb3 : (i : Int) ≤ (n : Int) + 1 := by omega
  have hb4 : ¬ (cap = i) := by omega
  have hdl : (L.drop (i * 13)).length = (n - i) * 13 := by rw [List.length_drop, hll]; omega
  have hcp1 : ∀ ty dc sc, (Builtin.copy_ #[40, 40] ty #[.slice (some ⟨b, (i + 1) * 13, none⟩) (n - i) dc, .slice (some ⟨b, i * 13, none⟩) (n + 1 - i) sc]).run Tryz.prog w.drew = .ok (goInt (Nat.min (n + 1 - i) (n - i))) _ := fun ty dc sc =>
    run_copy_rowk w.drew _ _ ty 47 13 b ((i + 1) * 13) (n - i) dc ⟨b, i * 13, none⟩ (n + 1 - i) sc cur 47 (L.drop (i * 13)) Tryz.underlying40 opSize hb (by rw [hdl]; congr 1; show n - i = min _ _; omega)
      (fun j v hj => by
        rw [Addr.add_lit]
        rw [List.getElem?_drop] at hj
        have hlt : i * 13 + j < n * 13 := by have := (List.getElem?_eq_some_iff.1 hj).1; omega
        rw [← hL, List.getElem?_take, if_pos hlt] at hj
        show World.cell? w _ = _
        simp only [World.cell?, hb]
        simpa using hj)
      (by rw [hdl, hcs]; omega) (fun v hv => hc1 v (List.mem_of_mem_drop hv))
  obtain ⟨C1, hC1⟩ : ∃ C1 : List Value, C1 = cur.toList.take ((i + 1) * 13) ++ L.drop (i * 13) ++ cur.toList.drop ((i + 1) * 13 + (L.drop (i * 13)).length) := ⟨_, rfl⟩
  rw [← hC1] at hcp1
  rw [show i * 13 + 13 = (i + 1) * 13 by omega, ← hC1] at hS
  obtain ⟨hS1, hS2, hS3⟩ := hS
  have hl1 : C1.length = cap * 13 := by rw [hS1, Array.length_toList, hcs]
  obtain ⟨W1, hW1⟩ : ∃ W1, W1 = w.drew.setRow b C1.toArray := ⟨_, rfl⟩
  rw [← hW1] at hcp1
  have hb1' : W1.heap[b]? = some (.cells C1.toArray 47 (0, 0)) := by rw [hW1]; exact setRow_heap w.drew b cur _ _ _ hb
  have hvb1 : W1.heap[vb]? = some (.cells o.cells.toArray 47 (0, 0)) := by rw [hW1, setRow_other w.drew b vb _ hne]; exact hvb
  have hcp2 : ∀ ty dc, (Builtin.copy_ #[40, 40] ty #[.slice (some ⟨b, i * 13, none⟩) (n + 1 - i) dc, .slice (some ⟨vb, 0, none⟩) 1 1]).run Tryz.prog W1 = .ok (goInt (Nat.min 1 (n + 1 - i))) _ := fun ty dc =>
    run_copy_rowk W1 _ _ ty 47 13 b (i * 13) (n + 1 - i) dc ⟨vb, 0, none⟩ 1 1 C1.toArray 47 o.cells Tryz.underlying40 opSize hb1' (by show 13 = min 1 (n + 1 - i) * 13; omega)
      (fun j v hj => by
        rw [Addr.add_lit, Nat.zero_add]
        simp only [World.cell?, hvb1]
        simpa using hj)
      (by show i * 13 + 13 ≤ C1.toArray.size; rw [List.size_toArray, hl1]; omega) (fun v hv => Op.one o v hv)
  obtain ⟨C2, hC2⟩ : ∃ C2 : List Value, C2 = C1.take (i * 13) ++ o.cells ++ C1.drop (i * 13 + o.cells.length) := ⟨_, rfl⟩
  rw [← hC2] at hS2 hS3
  rw [show C1.toArray.toList = C1 from rfl, ← hC2] at hcp2
  have HF : Hid ((W1.setRow b C2.toArray).heap[b]? = some (.cells C2.toArray 47 (0, 0)) ∧ C2.toArray.size = cur.size ∧ C2.toArray.toList.take ((n + 1) * 13) = L.take (i * 13) ++ o.cells ++ L.drop (i * 13)) := Lib.hid ⟨setRow_heap W1 b _ _ _ _ hb1', by rw [List.size_toArray, hS2, Array.length_toList], by rw [show (n + 1) * 13 = n * 13 + 13 by omega]; exact hS3⟩
  have HG : Hid (w.grownBy (W1.setRow b C2.toArray) (some b)) := Lib.hid ⟨by rw [hW1]; rfl, by rw [hW1]; rfl, by rw [hW1]; rfl, by rw [setRow_size, hW1, setRow_size]; exact Nat.le_refl _, fun k _ hk => by
    have hkb : k ≠ b := fun e => hk (by rw [e])
    rw [setRow_other W1 b k _ hkb, hW1, setRow_other w.drew b k _ hkb]; rfl⟩
  clear hS1 hS2 hS3 hC1 hC2 hW1 hL hc1 hLL hll hdl hl1 hb1' hvb1 hb hvb hcs hn
  go_enter Tryz.func96, Tryz.ntmps96
  go_wp2_with (simp only [hov])
  go_region_law (refine step_copy_run rfl _ _ 40 40 rfl _ _ (by simp [Act.eval, Act.put]) (by simp [Act.eval, Act.put]) (hcp1 _ _ _) ?_)
  go_wp2_with (at_builtin; refine wpList_copy_run _ rfl _ _ 40 40 rfl _ _ rfl rfl (hcp2 _ _) ?_)
  go_ret
  exact ⟨rfl, ⟨_, HF.out.1, HF.out.2.1, HF.out.2.2⟩, HG.out⟩

theorem infoOp : (Tryz.prog.info? 47).map (fun i => (i.zero, i.size, i.bytes)) = some (some (.agg #[.int .i64 0, .int .i64 0, .int .i64 0, .int .i64 0, .int .i64 0, .int .i64 0, .int .i64 0, .int .i64 0, .int .i64 0, .string ⟨#[]⟩, .string ⟨#[]⟩, .int .i64 0, .string ⟨#[]⟩]), 13, 128) := by kernel_rfl
theorem box_cells {w : World} {vb : Nat} {o : Op} (h : w.heap[vb]? = some (.cells o.cells.toArray 47 (0, 0))) : ∀ j u, o.cells[j]? = some u → w.cell? ((⟨vb, 0, none⟩ : Addr).add j) = some u := fun j u hj => by
  rw [Addr.add_lit, Nat.zero_add]
  simp only [World.cell?, h]
  simpa using hj

set_option maxRecDepth 100000 in
set_option maxHeartbeats 4000000 in
theorem insert_end (B : Nat) (v : Value) (vb : Nat) (l : List Op) (o : Op) (w : World) (h : w.ownsRow B 47 13 v l.length (l.flatMap Op.cells)) (hB : B ≤ w.heap.size) (hl : l.length ≤ 1000)
    (hvb : w.heap[vb]? = some (.cells o.cells.toArray 47 (0, 0))) :
    Calls Tryz.prog 96 #[v, .int .i64 l.length, .slice (some ⟨vb, 0, none⟩) 1 1] w fun e w' =>
      ∃ v', e = .returned v' ∧ w'.ownsRow B 47 13 v' (l.length + 1) ((l ++ [o]).flatMap Op.cells) ∧ w.grownBy w' v.ownBlock := by
  obtain ⟨i0, hinf, hz0, hz1, hz2⟩ := info_parts infoOp
  have hbc := box_cells hvb
  have e0 : (l ++ [o]).flatMap Op.cells = l.flatMap Op.cells ++ o.cells := by rw [List.flatMap_append, List.flatMap_cons, List.flatMap_nil, List.append_nil]
  rw [e0]
  clear hvb e0
  have h2 := h.2
  generalize hn : l.length = n at *
  generalize l.flatMap Op.cells = L at *
  rcases h2 with ⟨rfl, rfl⟩ | ⟨g, cap, cur, rfl, _⟩
  · go_enter Tryz.func96, Tryz.ntmps96
    go_wp2_with (at_builtin; refine wpList_append_own _ rfl _ _ 40 rfl B 47 i0 _ 13 128 Tryz.underlying40 hinf hz0 hz1 hz2 rfl (by decide) _ _ _ rfl h ⟨vb, 0, none⟩ 1 1 o.cells rfl rfl hbc (fun u hu => Op.one o u hu) (by simp only [maxLen]; omega) (by omega) hB ?_; intro v' w5 hown' hgrow _)
    go_ret
    exact ⟨_, rfl, hown', hgrow⟩
  · go_enter Tryz.func96, Tryz.ntmps96
    go_wp2_with (at_builtin; refine wpList_append_own _ rfl _ _ 40 rfl B 47 i0 _ 13 128 Tryz.underlying40 hinf hz0 hz1 hz2 rfl (by decide) _ _ _ rfl h ⟨vb, 0, none⟩ 1 1 o.cells rfl rfl hbc (fun u hu => Op.one o u hu) (by simp only [maxLen]; omega) (by omega) hB ?_; intro v' w5 hown' hgrow _)
    all_goals (go_ret; exact ⟨_, rfl, hown', hgrow⟩)

set_option maxRecDepth 100000 in
set_option maxHeartbeats 4000000 in
theorem insert_grow (b cap n i vb : Nat) (cur : Array Value) (l : List Op) (o : Op) (w : World) (hn : l.length = n) (hn1 : n ≤ 1000) (hi : i < n) (hnc : n ≤ cap) (hroom : cap < n + 1)
    (hb : w.heap[b]? = some (.cells cur 47 (0, 0))) (hcs : cur.size = cap * 13) (hL : cur.toList.take (n * 13) = l.flatMap Op.cells)
    (hvb : w.heap[vb]? = some (.cells o.cells.toArray 47 (0, 0))) :
    Calls Tryz.prog 96 #[.slice (some ⟨b, 0, none⟩) n cap, .int .i64 i, .slice (some ⟨vb, 0, none⟩) 1 1] w fun e w' =>
      ∃ G, e = .returned (.slice (some ⟨w.heap.size, 0, none⟩) (n + 1) G) ∧ (n + 1 ≤ G ∧ G ≤ maxLen) ∧ (∃ cur2 : Array Value, w'.heap[w.heap.size]? = some (.cells cur2 47 (0, 0)) ∧ cur2.size = G * 13 ∧ cur2.toList.take ((n + 1) * 13) = (l.take i ++ o :: l.drop i).flatMap Op.cells) ∧ w.grownBy w' none := by
  obtain ⟨i0, hinf, hz0, hz1, hz2⟩ := info_parts infoOp
  have hll : (l.flatMap Op.cells).length = n * 13 := (flat_len (f := Op.cells) (k := 13) (fun _ => rfl) l).trans (by rw [hn])
  have hfl := flat_ins (f := Op.cells) (k := 13) (fun _ => rfl) l i o
  have hc1 : ∀ v ∈ l.flatMap Op.cells, v.oneCell' = true := fun v hv => by
    obtain ⟨x, _, hx⟩ := List.mem_flatMap.1 hv
    exact Op.one x v hx
  obtain ⟨L, hLL⟩ : ∃ L, L = l.flatMap Op.cells := ⟨_, rfl⟩
  rw [← hLL] at hll hfl hc1 hL
  rw [hfl]
  clear hfl
  obtain rfl : cap = n := by omega
  have hcl : cur.toList = L := by rw [← hL, List.take_of_length_le (by rw [Array.length_toList, hcs]; omega)]
  have hLc : ∀ j v, L[j]? = some v → w.cell? ⟨b, j, none⟩ = some v := fun j v hj => by
    simp only [World.cell?, hb]
    rw [← hcl] at hj
    simpa using hj
  have hbw : b < w.heap.size := (Array.getElem?_eq_some_iff.1 hb).1
  have hvw : vb < w.heap.size := (Array.getElem?_eq_some_iff.1 hvb).1
  have hz2' : ¬ ((i : Int) = (cap : Int)) := by omega
  have hz3 : (cap : Int) < (cap : Int) + 1 := by omega
  have hold : (Builtin.firstCells i0.size i (.slice (some ⟨b, 0, none⟩) i cap)).run Tryz.prog w.drew = .ok (L.take (i * 13)).toArray w.drew := by
    rw [hz1]
    exact run_firstCells_some w.drew 13 i ⟨b, 0, none⟩ i cap (L.take (i * 13)) (by rw [List.length_take]; omega) (fun j v hj => by
      rw [Addr.add_lit, Nat.zero_add]
      rw [List.getElem?_take] at hj
      split at hj
      · exact hLc j v hj
      · cases hj)
  obtain ⟨G, hG⟩ : ∃ G, G = grownCap w (cap + 1) cap 47 := ⟨_, rfl⟩
  obtain ⟨Z, hZ⟩ : ∃ Z : Value, Z = (.agg #[.int .i64 0, .int .i64 0, .int .i64 0, .int .i64 0, .int .i64 0, .int .i64 0, .int .i64 0, .int .i64 0, .int .i64 0, .string ⟨#[]⟩, .string ⟨#[]⟩, .int .i64 0, .string ⟨#[]⟩]) := ⟨_, rfl⟩
  have hZc : Z.cells.size = 13 := by rw [hZ]; rfl
  rw [← hZ] at hz0
  have hrz : ∀ ty, (Builtin.append_ #[40, 3] ty #[.slice (some ⟨b, 0, none⟩) i cap, .int .i64 ((cap : Int) + 1 - (i : Int))]).run Tryz.prog w =
      .ok (.slice (some ⟨w.heap.size, 0, none⟩) (cap + 1) G) (w.drew.alloc (.cells ((L.take (i * 13)).toArray ++ Builtin.zeroCells Z.cells (cap + 1 - i) ++ Builtin.zeroCells Z.cells (G - (cap + 1))) 47)) := fun ty => by
    have h := Lib.run_append_grow_zeros w 40 3 ty 47 i0 Z .i64 .i64 Tryz.underlying40 Tryz.underlying3 hinf hz0 (some ⟨b, 0, none⟩) i cap (L.take (i * 13)) hold (cap + 1 - i) (by omega) (by rw [hz1]; omega) (by omega) (by omega) (by rw [hz2]; omega) (by rw [hz2, show i + (cap + 1 - i) = cap + 1 by omega]; exact growslice_fits (by omega) (by omega))
    rw [show i + (cap + 1 - i) = cap + 1 by omega, ← hG] at h
    rw [show (cap : Int) + 1 - (i : Int) = ((cap + 1 - i : Nat) : Int) by omega]
    exact h
  have hGn : cap + 1 ≤ G := by rw [hG]; exact grownCap_ge w _ _ _
  have hG63 : G ≤ maxLen := by rw [hG]; exact grownCap_le_maxLen w (cap + 1) cap 47 (by unfold maxLen; omega)
  obtain ⟨ROW, hROW⟩ : ∃ ROW : Array Value, ROW = (L.take (i * 13)).toArray ++ Builtin.zeroCells Z.cells (cap + 1 - i) ++ Builtin.zeroCells Z.cells (G - (cap + 1)) := ⟨_, rfl⟩
  rw [← hROW] at hrz
  have hlt : (L.take (i * 13)).length = i * 13 := by rw [List.length_take]; omega
  have hzc : ∀ k, (Builtin.zeroCells Z.cells k).size = k * 13 := fun k => by simp [Builtin.zeroCells, hZc]
  have hRl : ROW.size = G * 13 := by
    rw [hROW, Array.size_append, Array.size_append, List.size_toArray, hlt, hzc, hzc]; omega
  have hRt : ROW.toList.take (i * 13) = L.take (i * 13) := by
    rw [hROW, Array.toList_append, Array.toList_append, List.append_assoc]
    exact List.take_left' hlt
  have hS := ins_grow (R := ROW.toList) (L := L) (oc := o.cells) (a := i * 13) (n := cap * 13) (k := 13) hll (by omega) rfl hRt (by rw [Array.length_toList, hRl]; omega)
  dsimp only at hS
  obtain ⟨g, hg⟩ : ∃ g, g = w.heap.size := ⟨_, rfl⟩
  obtain ⟨W1, hW1⟩ : ∃ W1, W1 = w.drew.alloc (.cells ROW 47) := ⟨_, rfl⟩
  have hN : W1.heap[g]? = some (.cells ROW 47 (0, 0)) := by rw [hW1, hg]; exact World.alloc_heap_new w.drew _
  have hO : ∀ k, k < w.heap.size → W1.heap[k]? = w.heap[k]? := fun k hk => by rw [hW1]; exact Below.heap_alloc w.drew _ k hk
  have hbg : b ≠ g := by omega
  have hvg : vb ≠ g := by omega
  obtain ⟨C1, hC1⟩ : ∃ C1 : List Value, C1 = ROW.toList.take (i * 13) ++ o.cells ++ ROW.toList.drop (i * 13 + o.cells.length) := ⟨_, rfl⟩
  obtain ⟨C2, hC2⟩ : ∃ C2 : List Value, C2 = C1.take ((i + 1) * 13) ++ L.drop (i * 13) ++ C1.drop ((i + 1) * 13 + (L.drop (i * 13)).length) := ⟨_, rfl⟩
  rw [show i * 13 + 13 = (i + 1) * 13 by omega, ← hC1, ← hC2] at hS
  obtain ⟨hS1, hS2, hS3⟩ := hS
  have hl1 : C1.length = G * 13 := by rw [hS1, Array.length_toList, hRl]
  have hdl : (L.drop (i * 13)).length = (cap - i) * 13 := by rw [List.length_drop, hll]; omega
  have hcpA : ∀ (W : World), W.heap = W1.heap → ∀ ty dc, (Builtin.copy_ #[40, 40] ty #[.slice (some ⟨g, i * 13, none⟩) (cap + 1 - i) dc, .slice (some ⟨vb, 0, none⟩) 1 1]).run Tryz.prog W = .ok (goInt (Nat.min 1 (cap + 1 - i))) (W.setRow g C1.toArray) := fun W hW ty dc => by
    rw [hC1]
    exact run_copy_rowk W _ _ ty 47 13 g (i * 13) (cap + 1 - i) dc ⟨vb, 0, none⟩ 1 1 ROW 47 o.cells Tryz.underlying40 opSize (by rw [hW]; exact hN) (by show 13 = min 1 (cap + 1 - i) * 13; omega)
      (box_cells (by rw [hW, hO vb hvw]; exact hvb)) (by show i * 13 + 13 ≤ ROW.size; rw [hRl]; omega) (fun v hv => Op.one o v hv)
  have hcpB : ∀ (W : World), W.heap = (W1.setRow g C1.toArray).heap → ∀ ty dc sc, (Builtin.copy_ #[40, 40] ty #[.slice (some ⟨g, (i + 1) * 13, none⟩) (cap - i) dc, .slice (some ⟨b, i * 13, none⟩) (cap - i) sc]).run Tryz.prog W = .ok (goInt (Nat.min (cap - i) (cap - i))) (W.setRow g C2.toArray) := fun W hW ty dc sc => by
    rw [hC2]
    exact run_copy_rowk W _ _ ty 47 13 g ((i + 1) * 13) (cap - i) dc ⟨b, i * 13, none⟩ (cap - i) sc C1.toArray 47 (L.drop (i * 13)) Tryz.underlying40 opSize (by rw [hW]; exact setRow_heap W1 g _ _ _ _ hN) (by rw [hdl]; congr 1; show cap - i = min _ _; omega)
      (fun j v hj => by
        rw [Addr.add_lit]
        rw [List.getElem?_drop] at hj
        simp only [World.cell?, hW, setRow_other W1 g b _ hbg, hO b hbw, hb]
        rw [← hcl] at hj
        simpa using hj)
      (by rw [hdl, List.size_toArray, hl1]; omega) (fun v hv => hc1 v (List.mem_of_mem_drop hv))
  have HF : Hid (∀ W : World, W.heap = (W1.setRow g C1.toArray).heap → (W.setRow g C2.toArray).heap[g]? = some (.cells C2.toArray 47 (0, 0)) ∧ C2.toArray.size = G * 13 ∧ C2.toArray.toList.take ((cap + 1) * 13) = L.take (i * 13) ++ o.cells ++ L.drop (i * 13)) := Lib.hid fun W hW =>
    ⟨setRow_heap W g C1.toArray _ _ _ (by rw [hW]; exact setRow_heap W1 g _ _ _ _ hN), by rw [List.size_toArray, hS2, Array.length_toList, hRl], by rw [show (cap + 1) * 13 = cap * 13 + 13 by omega]; exact hS3⟩
  have HG : Hid (∀ W : World, W.heap = (W1.setRow g C1.toArray).heap → W.os = w.os → W.tape = w.tape → W.output = w.output → w.grownBy (W.setRow g C2.toArray) none) := Lib.hid fun W hW h1 h2 h3 =>
    ⟨h1, h2, h3, by rw [setRow_size, hW, setRow_size, hW1]; simp, fun k hk _ => by
      have hkg : k ≠ g := by omega
      rw [setRow_other W g k _ hkg, hW, setRow_other W1 g k _ hkg]; exact hO k hk⟩
  rw [← hg] at hrz ⊢
  have hE1 : ((w.alloc (.cells ROW 47)).drew).heap = W1.heap := by rw [hW1]; rfl
  have hE2 : (w.drew.alloc (.cells ROW 47)).heap = W1.heap := by rw [hW1]
  clear hS1 hS2 hS3 hC1 hC2 hL hc1 hLL hll hdl hl1 hN hO hb hvb hcs hn hROW hzc hlt hZc hZ hz0 hold hG hcl hLc hRl hRt
  have hw1 : IntKind.i64.wrap ((i : Int) + 1) = (i : Int) + 1 := by rw [IntKind.wrap_i64]; omega
  have hw2 : IntKind.i64.wrap ((cap : Int) + 1) = (cap : Int) + 1 := by rw [IntKind.wrap_i64]; omega
  have hw3 : IntKind.i64.wrap ((cap : Int) + 1 - (i : Int)) = (cap : Int) + 1 - (i : Int) := by rw [IntKind.wrap_i64]; omega
  have hb1 : (0 : Int) ≤ (i : Int) + 1 := by omega
  have hin : i ≤ cap := by omega
  have htn : ((i : Int) + 1).toNat = i + 1 := by omega
  have hGi : ¬ (G = i) := by omega
  have hGim : ¬ (G = i + 1) := by omega
  have hci : ¬ (cap = i) := by omega
  have hb3 : (i : Int) ≤ (cap : Int) := by omega
  have hb4 : (i : Int) ≤ (cap : Int) + 1 := by omega
  subst hW1
  subst hg
  have hA := hcpA ((w.alloc (.cells ROW 47)).drew) rfl
  have hB' := hcpB (((w.alloc (.cells ROW 47)).drew.setRow w.heap.size C1.toArray).drew) rfl
  clear hcpA hcpB
  go_enter Tryz.func96, Tryz.ntmps96
  go_wp2_with (first
    | (at_builtin; refine wpList_append_run _ rfl _ _ 40 3 rfl _ _ rfl rfl (hrz _) ?_)
    | (at_builtin; refine wpList_copy_run _ rfl _ _ 40 40 rfl _ _ rfl rfl (hA _ _) ?_))
  go_region_law (refine step_copy_run rfl _ _ 40 40 rfl _ _ (by simp [Act.eval, Act.put]) (by simp [Act.eval, Act.put]) (hB' _ _ _) ?_)
  go_wp2
  go_ret
  exact ⟨G, rfl, ⟨hGn, hG63⟩, ⟨_, (HF.out _ rfl).1, (HF.out _ rfl).2.1, (HF.out _ rfl).2.2⟩, HG.out _ rfl rfl rfl rfl⟩
end Go.Proofs.YtlokljaeknmdpaaGreat

/-! ## OpLaw -/
namespace Go.Proofs.YtlokljaeknmdpaaGreat

section
variable {g : Gr}

theorem Gr.Ok.makeD (h : g.Ok) (id : St) (kind : Int) : (g.make id kind).Ok := by
  unfold Gr.make; split
  · exact h.make ‹_›
  · exact h
theorem Gr.Ok.tieD (h : g.Ok) (x : Ent) : (g.tie x).Ok := by
  unfold Gr.tie; split
  · exact h.tie ‹_›
  · exact h
theorem Gr.Ok.untieD (h : g.Ok) (p : Pl) : (g.untie p).Ok := by
  unfold Gr.untie
  cases hl : g.look p with
  | none => exact h
  | some id => exact h.untie hl
theorem Gr.Ok.dropD (h : g.Ok) (id : St) : (g.drop id).Ok := by
  unfold Gr.drop; split
  · exact h.drop ‹_›
  · exact h
theorem Gr.Ok.setIf (h : g.Ok) (id : St) (mode : Int) (data : ByteArray) : (g.setIf id mode data).Ok := by
  unfold Gr.setIf; split
  · exact h.set _ _ _
  · exact h
theorem Gr.Ok.gone (h : g.Ok) (p : Pl) : (g.gone p).Ok := by
  unfold Gr.gone
  cases hl : g.look p with
  | none => exact h
  | some id =>
    simp only
    split
    · exact (h.untieD _).dropD _
    · exact h.untieD _
theorem Gr.Ok.rename (h : g.Ok) (o : Op) : (g.rename o).Ok := by
  unfold Gr.rename
  cases hl : g.look ⟨o.to, o.new⟩ with
  | none => exact (h.untieD _).tieD _
  | some t =>
    simp only
    split
    · exact h
    · exact ((h.gone _).untieD _).tieD _
theorem Gr.Ok.does (h : g.Ok) (o : Op) : (g.does o).Ok := by
  unfold Gr.does
  split
  · exact ((h.makeD _ _).setIf _ _ _).tieD _
  split
  · exact h.tieD _
  split
  · exact h.gone _
  split
  · exact h.rename o
  split
  · exact h.setIf _ _ _
  split
  · exact h.setIf _ _ _
  split
  · exact h.setIf _ _ _
  · exact h
theorem Gr.Ok.apply (h : g.Ok) (o : Op) : (g.apply o).Ok := by
  unfold Gr.apply; split
  · exact h.does o
  · exact h

/-! ### inodes' data are short -/
def Gr.Thin (g : Gr) : Prop := ∀ i ∈ g.n, i.data.size ≤ 64
theorem Gr.Thin.new : Gr.new.Thin := fun i hi => by
  rw [List.mem_singleton.1 hi]; decide
theorem Gr.Thin.got (h : g.Thin) (id : St) : (g.got id).data.size ≤ 64 := by
  unfold Gr.got
  cases hg : g.get id with
  | none => decide
  | some i => exact h i (Gr.get_some hg).1
theorem Gr.Thin.upd (h : g.Thin) {id : St} {f : Ino → Ino} {e' : List Ent} (hf : ∀ i, i.data.size ≤ 64 → (f i).data.size ≤ 64) : (⟨g.upd id f, e'⟩ : Gr).Thin := by
  intro j hj
  obtain ⟨i, hi, rfl⟩ := mem_upd (g := g) hj
  split
  · exact hf i (h i hi)
  · exact h i hi
theorem Gr.Thin.makeD (h : g.Thin) (id : St) (kind : Int) : (g.make id kind).Thin := by
  unfold Gr.make; split
  · intro i hi
    rcases (putIn_mem (x := (⟨id, kind, 0, 0, ⟨#[]⟩⟩ : Ino))).1 hi with rfl | hi
    · exact Nat.zero_le _
    · exact h i hi
  · exact h
theorem Gr.Thin.tieD (h : g.Thin) (x : Ent) : (g.tie x).Thin := by
  unfold Gr.tie; split
  · exact h.upd fun i hi => hi
  · exact h
theorem Gr.Thin.untieD (h : g.Thin) (p : Pl) : (g.untie p).Thin := by
  unfold Gr.untie
  cases hl : g.look p with
  | none => exact h
  | some id => exact h.upd fun i hi => hi
theorem Gr.Thin.dropD (h : g.Thin) (id : St) : (g.drop id).Thin := by
  unfold Gr.drop; split
  · exact fun i hi => h i (List.mem_filter.1 hi).1
  · exact h
theorem Gr.Thin.setIf (h : g.Thin) (id : St) (mode : Int) {data : ByteArray} (hd : data.size ≤ 64) : (g.setIf id mode data).Thin := by
  unfold Gr.setIf; split
  · exact h.upd fun i hi => hd
  · exact h
theorem Gr.Thin.gone (h : g.Thin) (p : Pl) : (g.gone p).Thin := by
  unfold Gr.gone
  cases hl : g.look p with
  | none => exact h
  | some id =>
    simp only
    split
    · exact (h.untieD _).dropD _
    · exact h.untieD _
theorem Gr.Thin.rename (h : g.Thin) (o : Op) : (g.rename o).Thin := by
  unfold Gr.rename
  cases hl : g.look ⟨o.to, o.new⟩ with
  | none => exact (h.untieD _).tieD _
  | some t =>
    simp only
    split
    · exact h
    · exact ((h.gone _).untieD _).tieD _
theorem truncF_size (d : ByteArray) (n : Int) (hd : d.size ≤ 64) : (truncF d n).1.size ≤ 64 := by
  unfold truncF
  split
  · exact hd
  split
  · exact hd
  · show (fit d.data.toList n.toNat).toArray.size ≤ 64
    rw [List.size_toArray, fit_length]; omega
theorem writeF_size (d : ByteArray) (off : Int) (s : ByteArray) (hd : d.size ≤ 64) : (writeF d off s).1.size ≤ 64 := by
  unfold writeF
  split
  · exact hd
  split
  · exact hd
  · show (splice (fit d.data.toList (max d.size (off.toNat + s.size))) off.toNat s.data.toList).toArray.size ≤ 64
    have hs : s.data.toList.length = s.size := by rw [Array.length_toList]; rfl
    rw [List.size_toArray, length_splice _ _ _ (by rw [fit_length, hs]; omega), fit_length]
    omega
theorem opMay_data {o : Op} (h : opMay o = true) (hk : o.kind = 1 ∨ o.kind = 2 ∨ o.kind = 3) : o.data.size ≤ 64 := by
  unfold opMay rowsOk dataOk bitOk fieldsOf at h
  rcases hk with hk | hk | hk <;> simp [hk] at h
  · rw [h.1.2.2.2.2.2.2]; decide
  · rw [h.1.2.2.2.2.2.2]; decide
  · omega
theorem opMay_kind {o : Op} (h : opMay o = true) : 1 ≤ o.kind ∧ o.kind ≤ 10 := by
  unfold opMay fieldsOf at h
  simp only [Bool.and_eq_true, Bool.not_eq_true', beq_eq_false_iff_ne, ne_eq] at h
  have h1 := h.2.1
  repeat' split at h1
  all_goals first | omega | exact absurd rfl h1
theorem opMay_stamp {o : Op} (h : opMay o = true) : mayB o.stamp.t o.stamp.r = true ∧ o.stamp ≠ ⟨0, 0⟩ := by
  unfold opMay at h
  simp only [Bool.and_eq_true, Bool.not_eq_true', St.isZ, decide_eq_false_iff_not] at h
  exact ⟨h.2.2.1, h.2.2.2.1⟩
theorem opMay_make {o : Op} (h : opMay o = true) (hk : o.kind = 1 ∨ o.kind = 2 ∨ o.kind = 3) : nameOk o.name = true ∧ (o.kind = 1 → o.data.size = 0) ∧ (o.kind = 2 → o.data.size = 0) ∧ (o.kind = 3 → 1 ≤ o.data.size ∧ o.data.size ≤ 32) := by
  unfold opMay rowsOk dataOk bitOk fieldsOf at h
  rcases hk with hk | hk | hk <;> simp [hk] at h
  · exact ⟨h.1.2.2.2.1, fun _ => by rw [h.1.2.2.2.2.2.2]; rfl, fun e => by omega, fun e => by omega⟩
  · exact ⟨h.1.2.2.2.1, fun e => by omega, fun _ => by rw [h.1.2.2.2.2.2.2]; rfl, fun e => by omega⟩
  · refine ⟨h.1.2.2.2.1, fun e => by omega, fun e => by omega, fun _ => ?_⟩
    have h1 : ¬ o.data.size = 0 := fun e => h.2.2.2.1 (by simpa using e)
    exact ⟨by omega, by omega⟩
theorem opWhy_may {o : Op} (h : g.opWhy o = 0) : opMay o = true := by
  unfold Gr.opWhy at h
  cases hm : opMay o with
  | true => rfl
  | false => rw [hm] at h; cases h
theorem Gr.Thin.apply (h : g.Thin) (o : Op) : (g.apply o).Thin := by
  unfold Gr.apply
  split
  · rename_i hw
    have hm := opWhy_may hw
    unfold Gr.does
    split
    · exact ((h.makeD _ _).setIf _ _ (opMay_data hm ‹_›)).tieD _
    split
    · exact h.tieD _
    split
    · exact h.gone _
    split
    · exact h.rename o
    split
    · exact h.setIf _ _ (writeF_size _ _ _ (h.got _))
    split
    · exact h.setIf _ _ (truncF_size _ _ (h.got _))
    split
    · exact h.setIf _ _ (h.got _)
    · exact h
  · exact h
/-- what operations made -/
noncomputable def ran (l : List Op) : Gr := l.foldl Gr.apply Gr.new
end
end Go.Proofs.YtlokljaeknmdpaaGreat

/-! ## OpDo -/
namespace Go.Proofs.YtlokljaeknmdpaaGreat

theorem firstOf_zero {l : List Int} : firstOf l = 0 ↔ ∀ a ∈ l, a = 0 := by
  induction l with
  | nil => simp [firstOf]
  | cons a l ih =>
    unfold firstOf
    by_cases h : a = 0
    · rw [if_pos h, ih]; simp [h]
    · rw [if_neg h]; simp [h]
theorem whenB_zero {b : Bool} {e : Int} (he : e ≠ 0) : whenB b e = 0 ↔ b = false := by
  unfold whenB; cases b <;> simp [he]

section
variable {g : Gr}
theorem Gr.kind_some {id : St} (h : g.kindOf' id ≠ 0) : (g.get id).isSome = true := by
  unfold Gr.kindOf' Gr.got at h
  cases hg : g.get id with
  | none => rw [hg] at h; exact absurd rfl h
  | some i => rfl
theorem Gr.dir_iff {id : St} : g.isDir id = true ↔ g.kindOf' id = 1 := by
  unfold Gr.isDir
  constructor
  · intro h; simp only [Bool.and_eq_true, beq_iff_eq] at h; exact h.2
  · intro h
    have := Gr.kind_some (g := g) (id := id) (by rw [h]; decide)
    rw [this]; show (g.kindOf' id == 1) = true; rw [h]; rfl
theorem Gr.dirWhy_zero {id : St} : g.dirWhy id = 0 ↔ g.isDir id = true := by
  unfold Gr.dirWhy
  rw [firstOf_zero, Gr.dir_iff]
  simp only [List.mem_cons, List.not_mem_nil, or_false, forall_eq_or_imp, forall_eq]
  rw [whenB_zero (by decide), whenB_zero (by decide)]
  simp only [decide_eq_false_iff_not, Bool.not_eq_false', decide_eq_true_eq]
  omega

theorem Gr.makesWhy_zero {o : Op} (h : g.makesWhy o = 0) : g.isDir o.at_ = true ∧ g.look ⟨o.at_, o.name⟩ = none ∧ g.get o.stamp = none ∧ g.n.length < 40 := by
  unfold Gr.makesWhy Gr.placeWhy at h
  rw [firstOf_zero] at h
  simp only [List.mem_cons, List.not_mem_nil, or_false, forall_eq_or_imp, forall_eq] at h
  rw [whenB_zero (by decide), whenB_zero (by decide), whenB_zero (by decide), Gr.dirWhy_zero] at h
  exact ⟨h.1, by simpa using h.2.1, by simpa using h.2.2.1, by simpa using h.2.2.2⟩
/-- an inode that is put in anew, changed -/
theorem putIn_map {f : Ino → Ino} (hf : ∀ j, (f j).id = j.id) (i : Ino) (l : List Ino) : (putIn Ino.id ltSt i l).map f = putIn Ino.id ltSt (f i) (l.map f) := by
  unfold putIn
  rw [List.map_append, List.map_cons, List.takeWhile_map, List.dropWhile_map]
  have e : (fun a => decide (ltSt a.id i.id)) = (fun a => decide (ltSt a.id (f i).id)) ∘ f := by
    funext a; simp [Function.comp, hf]
  rw [← e]
theorem map_none {f : Ino → Ino} {id : St} {l : List Ino} (h : ∀ i ∈ l, i.id ≠ id) : (l.map fun i => if i.id = id then f i else i) = l := by
  conv => rhs; rw [← List.map_id l]
  apply List.map_congr_left
  intro i hi
  rw [if_neg (h i hi)]; rfl
theorem upd_put {f : Ino → Ino} (hf : ∀ j, (f j).id = j.id) {i : Ino} {l : List Ino} {e : List Ent} (h : ∀ j ∈ l, j.id ≠ i.id) : (⟨putIn Ino.id ltSt i l, e⟩ : Gr).upd i.id f = putIn Ino.id ltSt (f i) l := by
  unfold Gr.upd
  show (putIn Ino.id ltSt i l).map (fun j => if j.id = i.id then f j else j) = _
  rw [putIn_map (f := fun j => if j.id = i.id then f j else j) (fun j => by split <;> simp [hf]), map_none h]
  simp
theorem Gr.under_src {d a : St} (h : g.Under d a) : a = d ∨ ∃ x ∈ g.e, x.at_ = d := by
  induction h with
  | here => exact .inl rfl
  | step hp _ ih =>
    rcases ih with rfl | ih
    · obtain ⟨_, x, hx, _, hxp⟩ := Gr.parent_some hp
      exact .inr ⟨x, hx, hxp⟩
    · exact .inr ih

/-- what is made -/
def Gr.grown (g : Gr) (o : Op) : Gr := ⟨putIn Ino.id ltSt ⟨o.stamp, o.kind, 1, 0, o.data⟩ g.n, putIn Ent.pl ltPl ⟨o.at_, o.name, o.stamp⟩ g.e⟩
theorem Gr.Ok.does_make (h : g.Ok) {o : Op} (hk : o.kind = 1 ∨ o.kind = 2 ∨ o.kind = 3) (hm : opMay o = true) (hw : g.makesWhy o = 0) : g.does o = g.grown o ∧ (g.grown o).Ok := by
  obtain ⟨hd, hl, hn, hlen⟩ := Gr.makesWhy_zero hw
  obtain ⟨hs, hs0⟩ := opMay_stamp hm
  obtain ⟨hname, _⟩ := opMay_make hm hk
  have hno := Gr.get_none hn
  have hmk : makesOf o.kind = o.kind := by
    unfold makesOf
    rcases hk with hk | hk | hk <;> rw [hk] <;> rfl
  have h1 : g.make o.stamp (makesOf o.kind) = ⟨putIn Ino.id ltSt ⟨o.stamp, o.kind, 0, 0, ⟨#[]⟩⟩ g.n, g.e⟩ := by
    rw [hmk]
    unfold Gr.make
    have : g.makeWhy o.stamp o.kind = 0 := by
      unfold Gr.makeWhy
      rw [hs, hn]
      have e1 : decide (o.kind < 1) = false := by simp; omega
      have e2 : decide (3 < o.kind) = false := by simp; omega
      rw [e1, e2]
      simp
      omega
    rw [if_pos this]; rfl
  have hok1 := h.makeD o.stamp (makesOf o.kind)
  have h2 : (g.make o.stamp (makesOf o.kind)).setIf o.stamp 0 o.data = ⟨putIn Ino.id ltSt ⟨o.stamp, o.kind, 0, 0, o.data⟩ g.n, g.e⟩ := by
    rw [h1]
    unfold Gr.setIf Gr.setWhy
    have : ((⟨putIn Ino.id ltSt ⟨o.stamp, o.kind, 0, 0, ⟨#[]⟩⟩ g.n, g.e⟩ : Gr).get o.stamp).isSome = true := Gr.isSome_iff.2 ⟨_, putIn_mem.2 (.inl rfl), rfl⟩
    rw [this]
    simp only [if_true]
    unfold Gr.set
    have := upd_put (f := setTo 0 o.data) (fun _ => rfl) (i := ⟨o.stamp, o.kind, 0, 0, ⟨#[]⟩⟩) (l := g.n) (e := g.e) hno
    simp only at this
    rw [this]; rfl
  have hok2 := hok1.setIf o.stamp 0 o.data
  have h3 : g.does o = ((g.make o.stamp (makesOf o.kind)).setIf o.stamp 0 o.data).tie ⟨o.at_, o.name, o.stamp⟩ := by
    unfold Gr.does; rw [if_pos hk]
  rw [h2] at h3 hok2
  have hG : ∀ k, (⟨putIn Ino.id ltSt ⟨o.stamp, o.kind, 0, 0, o.data⟩ g.n, g.e⟩ : Gr).get k = if k = o.stamp then some ⟨o.stamp, o.kind, 0, 0, o.data⟩ else g.get k := by
    intro k
    by_cases hk' : k = o.stamp
    · rw [if_pos hk']
      exact hok2.get_iff.2 ⟨putIn_mem.2 (.inl rfl), hk'.symm⟩
    · rw [if_neg hk']
      apply Option.ext
      intro i
      rw [hok2.get_iff, h.get_iff]
      show i ∈ putIn _ _ _ _ ∧ _ ↔ _
      rw [putIn_mem]
      constructor
      · rintro ⟨rfl | hi, hid⟩
        · exact absurd hid.symm hk'
        · exact ⟨hi, hid⟩
      · rintro ⟨hi, hid⟩; exact ⟨.inr hi, hid⟩
  have hat : o.at_ ≠ o.stamp := by
    intro he
    obtain ⟨i, hi, _⟩ := Gr.isDir_iff.1 hd
    rw [he, hn] at hi; cases hi
  have hwhy : (⟨putIn Ino.id ltSt ⟨o.stamp, o.kind, 0, 0, o.data⟩ g.n, g.e⟩ : Gr).tieWhy ⟨o.at_, o.name, o.stamp⟩ = 0 := by
    generalize hg1 : (⟨putIn Ino.id ltSt ⟨o.stamp, o.kind, 0, 0, o.data⟩ g.n, g.e⟩ : Gr) = g1 at *
    have hgot : g1.got o.stamp = ⟨o.stamp, o.kind, 0, 0, o.data⟩ := Gr.got_of (by rw [hG, if_pos rfl])
    have hgat : g1.get o.at_ = g.get o.at_ := by rw [hG, if_neg hat]
    obtain ⟨i, hi, hik⟩ := Gr.isDir_iff.1 hd
    have hu : g1.under o.at_ o.stamp = false := by
      rw [Bool.eq_false_iff]
      intro hu
      rcases Gr.under_src (Gr.under_iff.1 hu) with h5 | ⟨x, hx, hxa⟩
      · exact hat h5
      · have hx' : x ∈ g.e := by rw [← hg1] at hx; exact hx
        have := (h.ends x hx').1
        obtain ⟨j, hj, _⟩ := Gr.isDir_iff.1 this
        rw [hxa, hn] at hj; cases hj
    have hlook : g1.look ⟨o.at_, o.name⟩ = none := by rw [← hg1]; exact hl
    unfold Gr.tieWhy
    simp only [Ent.pl]
    rw [hname, hgat, hi, show (g1.get o.stamp).isSome = true by rw [hG, if_pos rfl]; rfl, show g1.got o.at_ = i from Gr.got_of (by rw [hgat, hi]), hik, hlook, hgot, hu]
    have : decide (o.stamp = ⟨0, 0⟩) = false := by simpa using hs0
    rw [this]
    unfold roomB
    simp
  have h4 : g.does o = g.grown o := by
    rw [h3]
    unfold Gr.tie
    rw [if_pos hwhy]
    unfold Gr.tied Gr.grown
    have := upd_put (f := moreLinks 1) (fun _ => rfl) (i := ⟨o.stamp, o.kind, 0, 0, o.data⟩) (l := g.n) (e := g.e) hno
    simp only at this
    rw [this]; rfl
  exact ⟨h4, by rw [← h4]; exact h.does o⟩
end
end Go.Proofs.YtlokljaeknmdpaaGreat

/-! ## OpMk -/
namespace Go.Proofs.YtlokljaeknmdpaaGreat

section
variable {g : Gr}
theorem opWhy_zero {o : Op} (h : g.opWhy o = 0) : opMay o = true ∧ g.kindWhy o = 0 := by
  refine ⟨opWhy_may h, ?_⟩
  unfold Gr.opWhy at h
  rwa [opWhy_may h, if_pos rfl] at h
theorem kindWhy_make {o : Op} (hk : o.kind = 1 ∨ o.kind = 2 ∨ o.kind = 3) : g.kindWhy o = g.makesWhy o := by unfold Gr.kindWhy; rw [if_pos hk]
theorem kindWhy_link {o : Op} (hk : o.kind = 4) : g.kindWhy o = g.linksWhy o := by unfold Gr.kindWhy; simp [hk]
theorem kindWhy_unlink {o : Op} (hk : o.kind = 5) : g.kindWhy o = g.unlinksWhy o := by unfold Gr.kindWhy; simp [hk]
theorem kindWhy_rmdir {o : Op} (hk : o.kind = 6) : g.kindWhy o = g.rmdirsWhy o := by unfold Gr.kindWhy; simp [hk]
theorem kindWhy_rename {o : Op} (hk : o.kind = 7) : g.kindWhy o = g.renamesWhy o := by unfold Gr.kindWhy; simp [hk]
theorem kindWhy_data {o : Op} (hk : o.kind = 8 ∨ o.kind = 9) : g.kindWhy o = g.dataWhy o := by unfold Gr.kindWhy; rcases hk with hk | hk <;> simp [hk]
theorem kindWhy_attr {o : Op} (hk : o.kind = 10) : g.kindWhy o = g.attrWhy o := by unfold Gr.kindWhy; simp [hk]
theorem apply_zero {o : Op} (h : g.opWhy o = 0) : g.apply o = g.does o := by unfold Gr.apply; rw [if_pos h]
theorem apply_err {o : Op} (h : g.opWhy o ≠ 0) : g.apply o = g := by unfold Gr.apply; rw [if_neg h]

theorem Gr.Ok.get_put {i : Ino} {e' : List Ent} (hp : (⟨putIn Ino.id ltSt i g.n, e'⟩ : Gr).Ok) (h : g.Ok) (k : St) : (⟨putIn Ino.id ltSt i g.n, e'⟩ : Gr).get k = if k = i.id then some i else g.get k := by
  by_cases hk' : k = i.id
  · rw [if_pos hk']; exact hp.get_iff.2 ⟨putIn_mem.2 (.inl rfl), hk'.symm⟩
  · rw [if_neg hk']
    apply Option.ext
    intro j
    rw [hp.get_iff, h.get_iff]
    show j ∈ putIn _ _ _ _ ∧ _ ↔ _
    rw [putIn_mem]
    constructor
    · rintro ⟨rfl | hi, hid⟩
      · exact absurd hid.symm hk'
      · exact ⟨hi, hid⟩
    · rintro ⟨hi, hid⟩; exact ⟨.inr hi, hid⟩

end
end Go.Proofs.YtlokljaeknmdpaaGreat

/-! ## ExtLaw -/
namespace Go.Proofs.YtlokljaeknmdpaaGreat
open Go.RowKit

end Go.Proofs.YtlokljaeknmdpaaGreat

/-! ## OpMv -/
namespace Go.Proofs.YtlokljaeknmdpaaGreat

theorem Gr.under_mono {g g' : Gr} (hp : ∀ a p, g'.parent a = some p → g.parent a = some p) {d a : St} (h : g'.Under d a) : g.Under d a := by
  induction h with
  | here => exact .here
  | step h1 _ ih => exact .step (hp _ _ h1) ih
section
variable {g : Gr}
end
end Go.Proofs.YtlokljaeknmdpaaGreat
