/-
  graph.count, tie, Tie, Untie, Drop, Set, Make; condition: the graph is in order.
-/
import Derived.Test.YtlokljaeknmdpaaGreatQGrOps
namespace Go.Proofs.YtlokljaeknmdpaaGreat
open Go.RowKit Go.Shelf

section
variable {g : Gr} {id : St}
theorem nodes_upd (hs : RisesN g.n) {kv : List (St × Ino)} (hp : kv.Perm (nodesKV g.n)) {i : Ino} (hi : g.get id = some i) (f : Ino → Ino) (hf : ∀ i, (f i).id = i.id) : (putKV id (f i) kv).Perm (nodesKV (g.upd id f)) := by
  obtain ⟨hin, hid⟩ := Gr.get_some hi
  have hn : ((nodesKV g.n).map (·.1)).Nodup := by rw [nodesKV_keys]; exact hs.nodup strictSt
  have hnk : (kv.map (·.1)).Nodup := (hp.map _).nodup_iff.2 hn
  have hk : id ∈ kv.map (·.1) := (hp.map (·.1)).mem_iff.2 (by rw [nodesKV_keys]; exact List.mem_map.2 ⟨i, hin, hid⟩)
  rw [putKV_map hnk hk]
  refine (hp.map _).trans (List.Perm.of_eq ?_)
  unfold nodesKV Gr.upd
  rw [List.map_map, List.map_map]
  apply List.map_congr_left
  intro j hj
  simp only [Function.comp]
  by_cases hji : j.id = id
  · have : j = i := RisesK.apart strictSt hs hj hin (hji.trans hid.symm)
    rw [if_pos hji, if_pos hji, hf, hji, this]
  · rw [if_neg hji, if_neg hji]
theorem nodes_new {kv : List (St × Ino)} (hp : kv.Perm (nodesKV g.n)) (hi : g.get id = none) (x : Ino) (hx : x.id = id) : (putKV id x kv).Perm (nodesKV (putIn Ino.id ltSt x g.n)) := by
  have hno := Gr.get_none hi
  have hk : id ∉ kv.map (·.1) := by
    intro h
    have := (hp.map (·.1)).mem_iff.1 h
    rw [nodesKV_keys] at this
    obtain ⟨j, hj, e⟩ := List.mem_map.1 this
    exact hno j hj e
  refine (putKV_perm_new hk).trans ?_
  have h1 := (putIn_perm (key := Ino.id) (lt := ltSt) x g.n).map (fun i => (i.id, i))
  refine List.Perm.trans ?_ h1.symm
  rw [List.map_cons, hx]
  exact hp.cons _
theorem nodes_del (hs : RisesN g.n) {kv : List (St × Ino)} (hp : kv.Perm (nodesKV g.n)) : (delKV id kv).Perm (nodesKV (g.n.filter fun i => decide (i.id ≠ id))) := by
  have hn : ((nodesKV g.n).map (·.1)).Nodup := by rw [nodesKV_keys]; exact hs.nodup strictSt
  have hnk : (kv.map (·.1)).Nodup := (hp.map _).nodup_iff.2 hn
  rw [delKV_filter hnk]
  refine (hp.filter _).trans (List.Perm.of_eq ?_)
  unfold nodesKV
  rw [List.filter_map]
  rfl
theorem ents_new {kv : List (Pl × St)} (hp : kv.Perm (entsKV g.e)) {x : Ent} (hi : g.look x.pl = none) : (putKV x.pl x.ino kv).Perm (entsKV (putIn Ent.pl ltPl x g.e)) := by
  have hno := Gr.look_none hi
  have hk : x.pl ∉ kv.map (·.1) := by
    intro h
    have := (hp.map (·.1)).mem_iff.1 h
    rw [entsKV_keys] at this
    obtain ⟨j, hj, e⟩ := List.mem_map.1 this
    exact hno j hj e
  refine (putKV_perm_new hk).trans ?_
  have h1 := (putIn_perm (key := Ent.pl) (lt := ltPl) x g.e).map (fun x => (x.pl, x.ino))
  refine List.Perm.trans ?_ h1.symm
  rw [List.map_cons]
  exact hp.cons _
theorem ents_del (hs : RisesE g.e) {kv : List (Pl × St)} (hp : kv.Perm (entsKV g.e)) (p : Pl) : (delKV p kv).Perm (entsKV (g.e.filter fun x => decide (x.pl ≠ p))) := by
  have hn : ((entsKV g.e).map (·.1)).Nodup := by rw [entsKV_keys]; exact hs.nodup strictPl
  have hnk : (kv.map (·.1)).Nodup := (hp.map _).nodup_iff.2 hn
  rw [delKV_filter hnk]
  refine (hp.filter _).trans (List.Perm.of_eq ?_)
  unfold entsKV
  rw [List.filter_map]
  rfl

variable {w w' : World} {gb mI mE : Nat}
theorem GrAt.put_nodes (h : GrAt w gb mI mE g) (hp : MapPut w mI w') {kv : List (St × Ino)} (hm : MapAt w' mI St.v Ino.v kv) {n : List Ino} (hk : kv.Perm (nodesKV n)) : GrAt w' gb mI mE ⟨n, g.e⟩ := by
  refine ⟨(hp.other _ h.apart.1).trans h.box, ⟨kv, hm, hk⟩, ?_, h.ne⟩
  obtain ⟨kE, ⟨es, ck, h1, h2⟩, h3⟩ := h.ents
  exact ⟨kE, ⟨es, ck, (hp.other _ h.ne.symm).trans h1, h2⟩, h3⟩
theorem GrAt.put_ents (h : GrAt w gb mI mE g) (hp : MapPut w mE w') {kv : List (Pl × St)} (hm : MapAt w' mE Pl.v St.v kv) {e : List Ent} (hk : kv.Perm (entsKV e)) : GrAt w' gb mI mE ⟨g.n, e⟩ := by
  refine ⟨(hp.other _ h.apart.2).trans h.box, ?_, ⟨kv, hm, hk⟩, h.ne⟩
  obtain ⟨kI, ⟨es, ck, h1, h2⟩, h3⟩ := h.nodes
  exact ⟨kI, ⟨es, ck, (hp.other _ h.ne).trans h1, h2⟩, h3⟩

/-- the maps' deeds, as the walk meets them -/
theorem GrAt.run_put_node (h : GrAt w gb mI mE g) (hs : RisesN g.n) (f : Ino → Ino) (hf : ∀ i, (f i).id = i.id) (hi : (g.get id).isSome = true) : ∃ w', (Instr.mapUpdate 89 (.map (some mI)) (.agg #[.int .i64 id.t, .int .i64 id.r]) (f (g.got id)).v).run Tryz.prog w = .ok () w' ∧ GrAt w' gb mI mE ⟨g.upd id f, g.e⟩ ∧ Turn (· = mI) w w' := by
  obtain ⟨i, hi⟩ := Option.isSome_iff_exists.1 hi
  rw [Gr.got_of hi]
  obtain ⟨kv, hm, hp⟩ := h.nodes
  obtain ⟨w', hu, hp', hm'⟩ := run_update_kv keySt Tryz.underlying89 hm id (f i)
  exact ⟨w', hu, h.put_nodes hp' hm' (nodes_upd hs hp hi f hf), Turn.of_put hp'⟩
theorem GrAt.run_new_node (h : GrAt w gb mI mE g) (hi : g.get id = none) (x : Ino) (hx : x.id = id) : ∃ w', (Instr.mapUpdate 89 (.map (some mI)) (.agg #[.int .i64 id.t, .int .i64 id.r]) x.v).run Tryz.prog w = .ok () w' ∧ GrAt w' gb mI mE ⟨putIn Ino.id ltSt x g.n, g.e⟩ ∧ Turn (· = mI) w w' := by
  obtain ⟨kv, hm, hp⟩ := h.nodes
  obtain ⟨w', hu, hp', hm'⟩ := run_update_kv keySt Tryz.underlying89 hm id x
  exact ⟨w', hu, h.put_nodes hp' hm' (nodes_new hp hi x hx), Turn.of_put hp'⟩
theorem GrAt.run_del_node (h : GrAt w gb mI mE g) (hs : RisesN g.n) (id : St) (ty kT : TypeId) : ∃ w', (Builtin.delete_ #[89, kT] ty #[.map (some mI), .agg #[.int .i64 id.t, .int .i64 id.r]]).run Tryz.prog w = .ok (.tuple #[]) w' ∧ GrAt w' gb mI mE (g.dropped id) ∧ Turn (· = mI) w w' := by
  obtain ⟨kv, hm, hp⟩ := h.nodes
  obtain ⟨w', hu, hp', hm'⟩ := run_delete_kv keySt Tryz.underlying89 hm id ty kT
  exact ⟨w', hu, h.put_nodes hp' hm' (nodes_del hs hp), Turn.of_put hp'⟩
theorem GrAt.run_new_ent (h : GrAt w gb mI mE g) {x : Ent} (hi : g.look x.pl = none) : ∃ w', (Instr.mapUpdate 90 (.map (some mE)) (.agg #[.int .i64 x.at_.t, .int .i64 x.at_.r, .string x.name]) (.agg #[.int .i64 x.ino.t, .int .i64 x.ino.r])).run Tryz.prog w = .ok () w' ∧ GrAt w' gb mI mE ⟨g.n, putIn Ent.pl ltPl x g.e⟩ ∧ Turn (· = mE) w w' := by
  obtain ⟨kv, hm, hp⟩ := h.ents
  obtain ⟨w', hu, hp', hm'⟩ := run_update_kv keyPl Tryz.underlying90 hm x.pl x.ino
  exact ⟨w', hu, h.put_ents hp' hm' (ents_new hp hi), Turn.of_put hp'⟩
theorem GrAt.run_del_ent (h : GrAt w gb mI mE g) (hs : RisesE g.e) (p : Pl) (ty kT : TypeId) : ∃ w', (Builtin.delete_ #[90, kT] ty #[.map (some mE), .agg #[.int .i64 p.at_.t, .int .i64 p.at_.r, .string p.name]]).run Tryz.prog w = .ok (.tuple #[]) w' ∧ GrAt w' gb mI mE ⟨g.n, g.e.filter fun x => decide (x.pl ≠ p)⟩ ∧ Turn (· = mE) w w' := by
  obtain ⟨kv, hm, hp⟩ := h.ents
  obtain ⟨w', hu, hp', hm'⟩ := run_delete_kv keyPl Tryz.underlying90 hm p ty kT
  exact ⟨w', hu, h.put_ents hp' hm' (ents_del hs hp p), Turn.of_put hp'⟩
theorem GrAt.run_len (h : GrAt w gb mI mE g) (ty : TypeId) : (Builtin.len_ #[89] ty #[.map (some mI)]).run Tryz.prog w = .ok (.int .i64 g.n.length) w := by
  obtain ⟨kv, hm, hp⟩ := h.nodes
  have := run_len_kv (P := Tryz.prog) Tryz.underlying89 hm ty
  rw [hp.length_eq] at this
  simpa [nodesKV] using this
end

set_option maxRecDepth 100000 in
set_option maxHeartbeats 1000000 in
theorem count_g (gb mI mE : Nat) (g : Gr) (id : St) (k : Int) (w : World) (h : GrAt w gb mI mE g) (hs : RisesN g.n) (hi : (g.get id).isSome = true) (h1 : -100 ≤ (g.got id).links) (h2 : (g.got id).links ≤ 100) (hk1 : -1 ≤ k) (hk2 : k ≤ 1) :
    Calls Tryz.prog 64 #[.pointer (some ⟨gb, 0, none⟩), id.v, .int .i64 k] w fun x w' => x = .returned (.tuple #[]) ∧ GrAt w' gb mI mE ⟨g.upd id (moreLinks k), g.e⟩ ∧ Turn (· = mI) w w' := by
  obtain ⟨c0, c1⟩ := h.cells
  have hlt := h.lt.1
  have hl : ∀ W, New w W → (Instr.lookup 89 (.map (some mI)) (.agg #[.int .i64 id.t, .int .i64 id.r]) false).run Tryz.prog W = .ok (g.got id).v W := fun W hW => ((h.new hW).look_node hs id).2
  have HU : Hid (∀ W, New w W → ∃ w', (Instr.mapUpdate 89 (.map (some mI)) (.agg #[.int .i64 id.t, .int .i64 id.r]) (moreLinks k (g.got id)).v).run Tryz.prog W = .ok () w' ∧ GrAt w' gb mI mE ⟨g.upd id (moreLinks k), g.e⟩ ∧ Turn (· = mI) W w') := Lib.hid fun W hW => (h.new hW).run_put_node hs (moreLinks k) (fun _ => rfl) hi
  generalize g.got id = i at hl HU h1 h2
  unfold Ino.v moreLinks at HU
  unfold Ino.v at hl
  have hw : IntKind.i64.wrap (i.links + k) = i.links + k := wrapInt _ (by omega) (by omega)
  have n1 := (New.refl w).alloc (.cells #[.int .i64 id.t, .int .i64 id.r] 31)
  have hl2 := hl _ n1.drew
  have hl3 := hl _ (n1.alloc (.cells #[.int .i64 0, .int .i64 0, .int .i64 0, .int .i64 0, .int .i64 0, .string ⟨#[]⟩] 62)).drew
  have n2 := (n1.alloc (.cells #[.int .i64 i.id.t, .int .i64 i.id.r, .int .i64 i.kind, .int .i64 (i.links + k), .int .i64 i.mode, .string i.data] 62)).drew.drew
  have HU2 := HU.out _ n2
  obtain ⟨w3, hu, hG, hT⟩ := HU2
  have HG := Lib.hid hG
  have HT := Lib.hid ((n2.turn _).trans hT)
  clear n1 n2 hl h HU hG hT c1 hi h1 h2 hk1 hk2
  unfold St.v
  go_enter Tryz.func64, Tryz.ntmps64
  go_wp2
  go_region
  all_goals
    go_wp2
    go_region
    all_goals
      go_wp2
      go_end0
      exact ⟨rfl, HG.out, HT.out⟩

theorem size_setCell' (w : World) (a : Addr) (v : Value) : (w.setCell a v).heap.size = w.heap.size := by simp [World.setCell]
theorem bcell {W w1 : World} (hb : Below W.heap.size W w1) : (∀ b o, b < W.heap.size → w1.cell? ⟨b, o, none⟩ = W.cell? ⟨b, o, none⟩) ∧ (∀ b o, b < W.heap.size → w1.frozen? ⟨b, o, none⟩ = W.frozen? ⟨b, o, none⟩) :=
  ⟨fun b o h => hb.cell (p := ⟨b, o, none⟩) h, fun b o h => hb.frozen (p := ⟨b, o, none⟩) h⟩

set_option maxRecDepth 100000 in
set_option maxHeartbeats 400000 in
theorem links_g (i : Ino) (w : World) : Calls Tryz.prog 109 #[i.v] w fun x w' => x = .returned (.bool (roomB i)) ∧ Below w.heap.size w w' := by
  unfold roomB
  obtain ⟨d, k, l, m, s⟩ := i
  unfold Ino.v
  by_cases hk : k = 1
  · subst hk
    go_enter Tryz.func109, Tryz.ntmps109
    go_wp2
    go_ret
    exact ⟨rfl, (Below.refl _ _).alloc (Nat.le_refl _) _⟩
  · have hk' : (k == 1) = false := beq_eq_false_iff_ne.2 hk
    rw [if_neg hk]
    clear hk
    go_enter Tryz.func109, Tryz.ntmps109
    go_wp2
    go_ret
    exact ⟨rfl, (Below.refl _ _).alloc (Nat.le_refl _) _⟩

set_option maxRecDepth 100000 in
set_option maxHeartbeats 4000000 in
theorem tie_why (gb mI mE : Nat) (g : Gr) (x : Ent) (w : World) (h : GrAt w gb mI mE g) (hok : g.Ok) (hl : g.e.length ≤ 1000) (hx : x.name.size ≤ maxLen) :
    Calls Tryz.prog 63 #[.pointer (some ⟨gb, 0, none⟩), x.v] w fun e w' => e = .returned (.int .i64 (g.tieWhy x)) ∧ Below w.heap.size w w' := by
  have HG : Hid (∀ (id : St) W, Below w.heap.size w W → Calls Tryz.prog 42 #[.pointer (some ⟨gb, 0, none⟩), (.agg #[.int .i64 id.t, .int .i64 id.r])] W fun e w' => e = .returned (.tuple #[(g.got id).v, .bool (g.get id).isSome]) ∧ Below W.heap.size W w') := Lib.hid fun id W hW => (get_any gb mI mE g id W (h.below hW) hok.sn).mono fun e w' ⟨a, b⟩ => ⟨a, b.below⟩
  have HLk : Hid (∀ W, Below w.heap.size w W → Calls Tryz.prog 92 #[.pointer (some ⟨gb, 0, none⟩), (.agg #[.int .i64 x.at_.t, .int .i64 x.at_.r]), .string x.name] W fun e w' => e = .returned (.tuple #[((g.look x.pl).getD ⟨0, 0⟩).v, .bool (g.look x.pl).isSome]) ∧ Below W.heap.size W w') := Lib.hid fun W hW => (look_any gb mI mE g x.pl W (h.below hW) hok.se).mono fun e w' ⟨a, b⟩ => ⟨a, b.below⟩
  have HU : Hid (∀ W, Below w.heap.size w W → Calls Tryz.prog 108 #[.pointer (some ⟨gb, 0, none⟩), (.agg #[.int .i64 x.at_.t, .int .i64 x.at_.r]), (.agg #[.int .i64 x.ino.t, .int .i64 x.ino.r])] W fun e w' => e = .returned (.bool (g.under x.at_ x.ino)) ∧ Below W.heap.size W w') := Lib.hid fun W hW => under_any gb mI mE g x.at_ x.ino W (h.below hW) hok hl
  have HN := Lib.hid (name_any x.name)
  have HXS := Lib.hid hx
  have HB0 : Hid (Below w.heap.size w (w.alloc (.cells #[.int .i64 x.at_.t, .int .i64 x.at_.r, .string x.name, .int .i64 x.ino.t, .int .i64 x.ino.r] 34))) := Lib.hid ((Below.refl _ w).alloc (Nat.le_refl _) _)
  have HG1 := Lib.hid (HG.out x.at_)
  have HG2 := Lib.hid (HG.out x.ino)
  clear h hok hl HG hx
  have hcase := St.three x.ino ⟨0, 0⟩
  unfold Gr.tieWhy
  generalize g.got x.at_ = i1 at HG1 ⊢
  generalize g.got x.ino = i2 at HG2 ⊢
  generalize (g.get x.at_).isSome = b1 at HG1 ⊢
  generalize (g.get x.ino).isSome = b2 at HG2 ⊢
  generalize (g.look x.pl).getD ⟨0, 0⟩ = id3 at HLk
  generalize (g.look x.pl).isSome = b3 at HLk ⊢
  generalize g.under x.at_ x.ino = bu at HU ⊢
  generalize hno : nameOk x.name = bn at *
  obtain ⟨at_, name, ino⟩ := x
  obtain ⟨d2, k2, l2, m2, s2⟩ := i2
  have HLI := Lib.hid (links_g ⟨d2, k2, l2, m2, s2⟩)
  generalize hro : roomB ⟨d2, k2, l2, m2, s2⟩ = br at *
  simp only at *
  unfold Ent.v
  unfold Ino.v at HG1 HG2 HLI
  unfold St.v at HLk
  have hk2 : k2 = 1 ∨ (k2 ≠ 1 ∧ (k2 == 1) = false) := by
    by_cases h : k2 = 1
    · exact .inl h
    · exact .inr ⟨h, beq_eq_false_iff_ne.2 h⟩
  have hk1 : i1.kind = 1 ∨ (i1.kind ≠ 1 ∧ (i1.kind != 1) = true) := by
    by_cases h : i1.kind = 1
    · exact .inl h
    · exact .inr ⟨h, by simpa using h⟩
  obtain ⟨d1, k1, l1, m1, s1⟩ := i1
  simp only at *
  have hend : ∀ (W W' : World), Below w.heap.size w W → W = W' → Below w.heap.size w W' := fun _ _ a b => b ▸ a
  have HEND := Lib.hid hend
  clear hend
  rcases hcase with rfl | ⟨hne, ht⟩ | ⟨r, rfl, hne, hr⟩ <;> rcases hk2 with rfl | ⟨hk2, hk2'⟩ <;> rcases hk1 with rfl | ⟨hk1, hk1'⟩
  all_goals
    try (have HNE := Lib.hid hne; clear hne)
    try (have HK2 := Lib.hid hk2; clear hk2)
    try (have HK1 := Lib.hid hk1; clear hk1)
    go_enter Tryz.func63, Tryz.ntmps63
    go_wp2_with fail
    refine (HG1.out _ (by first | exact HB0.out | exact HB0.out.alloc HB0.out.size _ | exact (HB0.out.alloc HB0.out.size _).alloc (le_al HB0.out.size) _ | exact ((HB0.out.alloc HB0.out.size _).alloc (le_al HB0.out.size) _).alloc (le_al (le_al HB0.out.size)) _)).mono ?_
    rintro e w1 ⟨rfl, hb1⟩
    obtain ⟨hc1, hf1⟩ := bcell hb1
    have hs1 := hb1.size
    try simp only [World.size_alloc] at hs1
    try simp only [size_setCell'] at hs1
    try have le1_0 : w.heap.size ≤ w1.heap.size := (by omega)
    try have lt1_0 : w.heap.size < w1.heap.size := (by omega)
    have HB1 : Hid (Below w.heap.size w w1) := Lib.hid (Below.trans (by first | exact HB0.out | exact HB0.out.alloc HB0.out.size _ | exact (HB0.out.alloc HB0.out.size _).alloc (le_al HB0.out.size) _ | exact ((HB0.out.alloc HB0.out.size _).alloc (le_al HB0.out.size) _).alloc (le_al (le_al HB0.out.size)) _) (hb1.mono (by (try simp only [World.size_alloc]); (try simp only [size_setCell']); omega)))
    have HN1 := Lib.hid hb1
    clear hb1 hs1
    go_wp2_with fail
    refine (HG2.out _ (by first | exact HB1.out | exact HB1.out.alloc HB1.out.size _ | exact (HB1.out.alloc HB1.out.size _).alloc (le_al HB1.out.size) _ | exact ((HB1.out.alloc HB1.out.size _).alloc (le_al HB1.out.size) _).alloc (le_al (le_al HB1.out.size)) _ | exact HB0.out | exact HB0.out.alloc HB0.out.size _ | exact (HB0.out.alloc HB0.out.size _).alloc (le_al HB0.out.size) _ | exact ((HB0.out.alloc HB0.out.size _).alloc (le_al HB0.out.size) _).alloc (le_al (le_al HB0.out.size)) _)).mono ?_
    rintro e w2 ⟨rfl, hb2⟩
    obtain ⟨hc2, hf2⟩ := bcell hb2
    have hs2 := hb2.size
    try simp only [World.size_alloc] at hs2
    try simp only [size_setCell'] at hs2
    try have le2_0 : w.heap.size ≤ w2.heap.size := (by omega)
    try have lt2_0 : w.heap.size < w2.heap.size := (by omega)
    try have le2_1 : w1.heap.size ≤ w2.heap.size := (by omega)
    try have lt2_1 : w1.heap.size < w2.heap.size := (by omega)
    have HB2 : Hid (Below w.heap.size w w2) := Lib.hid (Below.trans (by first | exact HB1.out | exact HB1.out.alloc HB1.out.size _ | exact (HB1.out.alloc HB1.out.size _).alloc (le_al HB1.out.size) _ | exact ((HB1.out.alloc HB1.out.size _).alloc (le_al HB1.out.size) _).alloc (le_al (le_al HB1.out.size)) _ | exact HB0.out | exact HB0.out.alloc HB0.out.size _ | exact (HB0.out.alloc HB0.out.size _).alloc (le_al HB0.out.size) _ | exact ((HB0.out.alloc HB0.out.size _).alloc (le_al HB0.out.size) _).alloc (le_al (le_al HB0.out.size)) _) (hb2.mono (by (try simp only [World.size_alloc]); (try simp only [size_setCell']); omega)))
    have HN2 := Lib.hid hb2
    clear hb2 hs2
    go_wp2_with fail
    refine (HLk.out _ (by first | exact HB2.out | exact HB2.out.alloc HB2.out.size _ | exact (HB2.out.alloc HB2.out.size _).alloc (le_al HB2.out.size) _ | exact ((HB2.out.alloc HB2.out.size _).alloc (le_al HB2.out.size) _).alloc (le_al (le_al HB2.out.size)) _ | exact HB1.out | exact HB1.out.alloc HB1.out.size _ | exact (HB1.out.alloc HB1.out.size _).alloc (le_al HB1.out.size) _ | exact ((HB1.out.alloc HB1.out.size _).alloc (le_al HB1.out.size) _).alloc (le_al (le_al HB1.out.size)) _ | exact HB0.out | exact HB0.out.alloc HB0.out.size _ | exact (HB0.out.alloc HB0.out.size _).alloc (le_al HB0.out.size) _ | exact ((HB0.out.alloc HB0.out.size _).alloc (le_al HB0.out.size) _).alloc (le_al (le_al HB0.out.size)) _)).mono ?_
    rintro e w3 ⟨rfl, hb3⟩
    obtain ⟨hc3, hf3⟩ := bcell hb3
    have hs3 := hb3.size
    try simp only [World.size_alloc] at hs3
    try simp only [size_setCell'] at hs3
    try have le3_0 : w.heap.size ≤ w3.heap.size := (by omega)
    try have lt3_0 : w.heap.size < w3.heap.size := (by omega)
    try have le3_1 : w1.heap.size ≤ w3.heap.size := (by omega)
    try have lt3_1 : w1.heap.size < w3.heap.size := (by omega)
    try have le3_2 : w2.heap.size ≤ w3.heap.size := (by omega)
    try have lt3_2 : w2.heap.size < w3.heap.size := (by omega)
    have HB3 : Hid (Below w.heap.size w w3) := Lib.hid (Below.trans (by first | exact HB2.out | exact HB2.out.alloc HB2.out.size _ | exact (HB2.out.alloc HB2.out.size _).alloc (le_al HB2.out.size) _ | exact ((HB2.out.alloc HB2.out.size _).alloc (le_al HB2.out.size) _).alloc (le_al (le_al HB2.out.size)) _ | exact HB1.out | exact HB1.out.alloc HB1.out.size _ | exact (HB1.out.alloc HB1.out.size _).alloc (le_al HB1.out.size) _ | exact ((HB1.out.alloc HB1.out.size _).alloc (le_al HB1.out.size) _).alloc (le_al (le_al HB1.out.size)) _ | exact HB0.out | exact HB0.out.alloc HB0.out.size _ | exact (HB0.out.alloc HB0.out.size _).alloc (le_al HB0.out.size) _ | exact ((HB0.out.alloc HB0.out.size _).alloc (le_al HB0.out.size) _).alloc (le_al (le_al HB0.out.size)) _) (hb3.mono (by (try simp only [World.size_alloc]); (try simp only [size_setCell']); omega)))
    have HN3 := Lib.hid hb3
    clear hb3 hs3
    go_wp2_with fail
    refine (HN.out _ HXS.out).mono ?_
    rintro e w4 ⟨rfl, hb4⟩
    obtain ⟨hc4, hf4⟩ := bcell hb4
    have hs4 := hb4.size
    try simp only [World.size_alloc] at hs4
    try simp only [size_setCell'] at hs4
    try have le4_0 : w.heap.size ≤ w4.heap.size := (by omega)
    try have lt4_0 : w.heap.size < w4.heap.size := (by omega)
    try have le4_1 : w1.heap.size ≤ w4.heap.size := (by omega)
    try have lt4_1 : w1.heap.size < w4.heap.size := (by omega)
    try have le4_2 : w2.heap.size ≤ w4.heap.size := (by omega)
    try have lt4_2 : w2.heap.size < w4.heap.size := (by omega)
    try have le4_3 : w3.heap.size ≤ w4.heap.size := (by omega)
    try have lt4_3 : w3.heap.size < w4.heap.size := (by omega)
    have HB4 : Hid (Below w.heap.size w w4) := Lib.hid (Below.trans (by first | exact HB3.out | exact HB3.out.alloc HB3.out.size _ | exact (HB3.out.alloc HB3.out.size _).alloc (le_al HB3.out.size) _ | exact ((HB3.out.alloc HB3.out.size _).alloc (le_al HB3.out.size) _).alloc (le_al (le_al HB3.out.size)) _ | exact HB2.out | exact HB2.out.alloc HB2.out.size _ | exact (HB2.out.alloc HB2.out.size _).alloc (le_al HB2.out.size) _ | exact ((HB2.out.alloc HB2.out.size _).alloc (le_al HB2.out.size) _).alloc (le_al (le_al HB2.out.size)) _ | exact HB1.out | exact HB1.out.alloc HB1.out.size _ | exact (HB1.out.alloc HB1.out.size _).alloc (le_al HB1.out.size) _ | exact ((HB1.out.alloc HB1.out.size _).alloc (le_al HB1.out.size) _).alloc (le_al (le_al HB1.out.size)) _ | exact HB0.out | exact HB0.out.alloc HB0.out.size _ | exact (HB0.out.alloc HB0.out.size _).alloc (le_al HB0.out.size) _ | exact ((HB0.out.alloc HB0.out.size _).alloc (le_al HB0.out.size) _).alloc (le_al (le_al HB0.out.size)) _) (hb4.mono (by (try simp only [World.size_alloc]); (try simp only [size_setCell']); omega)))
    have HN4 := Lib.hid hb4
    clear hb4 hs4
    go_wp2_with (first
      | (go_at_call 108; (with_reducible refine (HU.out _ (by first | exact HB4.out | exact HB4.out.alloc HB4.out.size _ | exact (HB4.out.alloc HB4.out.size _).alloc (le_al HB4.out.size) _ | exact ((HB4.out.alloc HB4.out.size _).alloc (le_al HB4.out.size) _).alloc (le_al (le_al HB4.out.size)) _ | exact HB3.out | exact HB3.out.alloc HB3.out.size _ | exact (HB3.out.alloc HB3.out.size _).alloc (le_al HB3.out.size) _ | exact ((HB3.out.alloc HB3.out.size _).alloc (le_al HB3.out.size) _).alloc (le_al (le_al HB3.out.size)) _ | exact HB2.out | exact HB2.out.alloc HB2.out.size _ | exact (HB2.out.alloc HB2.out.size _).alloc (le_al HB2.out.size) _ | exact ((HB2.out.alloc HB2.out.size _).alloc (le_al HB2.out.size) _).alloc (le_al (le_al HB2.out.size)) _ | exact HB1.out | exact HB1.out.alloc HB1.out.size _ | exact (HB1.out.alloc HB1.out.size _).alloc (le_al HB1.out.size) _ | exact ((HB1.out.alloc HB1.out.size _).alloc (le_al HB1.out.size) _).alloc (le_al (le_al HB1.out.size)) _ | exact HB0.out | exact HB0.out.alloc HB0.out.size _ | exact (HB0.out.alloc HB0.out.size _).alloc (le_al HB0.out.size) _ | exact ((HB0.out.alloc HB0.out.size _).alloc (le_al HB0.out.size) _).alloc (le_al (le_al HB0.out.size)) _)).mono ?_); rintro e w5 ⟨rfl, hb5⟩; obtain ⟨hc5, hf5⟩ := bcell hb5; have hs5 := hb5.size; (try simp only [World.size_alloc] at hs5); (try simp only [size_setCell'] at hs5); (try have le5_0 : w.heap.size ≤ w5.heap.size := (by omega)); (try have lt5_0 : w.heap.size < w5.heap.size := (by omega)); (try have le5_1 : w1.heap.size ≤ w5.heap.size := (by omega)); (try have lt5_1 : w1.heap.size < w5.heap.size := (by omega)); (try have le5_2 : w2.heap.size ≤ w5.heap.size := (by omega)); (try have lt5_2 : w2.heap.size < w5.heap.size := (by omega)); (try have le5_3 : w3.heap.size ≤ w5.heap.size := (by omega)); (try have lt5_3 : w3.heap.size < w5.heap.size := (by omega)); (try have le5_4 : w4.heap.size ≤ w5.heap.size := (by omega)); (try have lt5_4 : w4.heap.size < w5.heap.size := (by omega)); have HB5 : Hid (Below w.heap.size w w5) := Lib.hid (Below.trans (by first | exact HB4.out | exact HB4.out.alloc HB4.out.size _ | exact (HB4.out.alloc HB4.out.size _).alloc (le_al HB4.out.size) _ | exact ((HB4.out.alloc HB4.out.size _).alloc (le_al HB4.out.size) _).alloc (le_al (le_al HB4.out.size)) _ | exact HB3.out | exact HB3.out.alloc HB3.out.size _ | exact (HB3.out.alloc HB3.out.size _).alloc (le_al HB3.out.size) _ | exact ((HB3.out.alloc HB3.out.size _).alloc (le_al HB3.out.size) _).alloc (le_al (le_al HB3.out.size)) _ | exact HB2.out | exact HB2.out.alloc HB2.out.size _ | exact (HB2.out.alloc HB2.out.size _).alloc (le_al HB2.out.size) _ | exact ((HB2.out.alloc HB2.out.size _).alloc (le_al HB2.out.size) _).alloc (le_al (le_al HB2.out.size)) _ | exact HB1.out | exact HB1.out.alloc HB1.out.size _ | exact (HB1.out.alloc HB1.out.size _).alloc (le_al HB1.out.size) _ | exact ((HB1.out.alloc HB1.out.size _).alloc (le_al HB1.out.size) _).alloc (le_al (le_al HB1.out.size)) _ | exact HB0.out | exact HB0.out.alloc HB0.out.size _ | exact (HB0.out.alloc HB0.out.size _).alloc (le_al HB0.out.size) _ | exact ((HB0.out.alloc HB0.out.size _).alloc (le_al HB0.out.size) _).alloc (le_al (le_al HB0.out.size)) _) (hb5.mono (by (try simp only [World.size_alloc]); (try simp only [size_setCell']); omega))); have HN5 := Lib.hid hb5; clear hb5 hs5)
      | (go_at_call 109; (with_reducible refine (HLI.out _).mono ?_); rintro e w6 ⟨rfl, hb6⟩; obtain ⟨hc6, hf6⟩ := bcell hb6; have hs6 := hb6.size; (try simp only [World.size_alloc] at hs6); (try simp only [size_setCell'] at hs6); (try have le6_0 : w.heap.size ≤ w6.heap.size := (by omega)); (try have lt6_0 : w.heap.size < w6.heap.size := (by omega)); (try have le6_1 : w1.heap.size ≤ w6.heap.size := (by omega)); (try have lt6_1 : w1.heap.size < w6.heap.size := (by omega)); (try have le6_2 : w2.heap.size ≤ w6.heap.size := (by omega)); (try have lt6_2 : w2.heap.size < w6.heap.size := (by omega)); (try have le6_3 : w3.heap.size ≤ w6.heap.size := (by omega)); (try have lt6_3 : w3.heap.size < w6.heap.size := (by omega)); (try have le6_4 : w4.heap.size ≤ w6.heap.size := (by omega)); (try have lt6_4 : w4.heap.size < w6.heap.size := (by omega)); (try have le6_5 : w5.heap.size ≤ w6.heap.size := (by omega)); (try have lt6_5 : w5.heap.size < w6.heap.size := (by omega)); have HB6 : Hid (Below w.heap.size w w6) := Lib.hid (Below.trans (by first | exact HB5.out | exact HB5.out.alloc HB5.out.size _ | exact (HB5.out.alloc HB5.out.size _).alloc (le_al HB5.out.size) _ | exact ((HB5.out.alloc HB5.out.size _).alloc (le_al HB5.out.size) _).alloc (le_al (le_al HB5.out.size)) _ | exact HB4.out | exact HB4.out.alloc HB4.out.size _ | exact (HB4.out.alloc HB4.out.size _).alloc (le_al HB4.out.size) _ | exact ((HB4.out.alloc HB4.out.size _).alloc (le_al HB4.out.size) _).alloc (le_al (le_al HB4.out.size)) _ | exact HB3.out | exact HB3.out.alloc HB3.out.size _ | exact (HB3.out.alloc HB3.out.size _).alloc (le_al HB3.out.size) _ | exact ((HB3.out.alloc HB3.out.size _).alloc (le_al HB3.out.size) _).alloc (le_al (le_al HB3.out.size)) _ | exact HB2.out | exact HB2.out.alloc HB2.out.size _ | exact (HB2.out.alloc HB2.out.size _).alloc (le_al HB2.out.size) _ | exact ((HB2.out.alloc HB2.out.size _).alloc (le_al HB2.out.size) _).alloc (le_al (le_al HB2.out.size)) _ | exact HB1.out | exact HB1.out.alloc HB1.out.size _ | exact (HB1.out.alloc HB1.out.size _).alloc (le_al HB1.out.size) _ | exact ((HB1.out.alloc HB1.out.size _).alloc (le_al HB1.out.size) _).alloc (le_al (le_al HB1.out.size)) _ | exact HB0.out | exact HB0.out.alloc HB0.out.size _ | exact (HB0.out.alloc HB0.out.size _).alloc (le_al HB0.out.size) _ | exact ((HB0.out.alloc HB0.out.size _).alloc (le_al HB0.out.size) _).alloc (le_al (le_al HB0.out.size)) _) (hb6.mono (by (try simp only [World.size_alloc]); (try simp only [size_setCell']); omega))); have HN6 := Lib.hid hb6; clear hb6 hs6))
  all_goals
    go_ret
    refine ⟨?_, ?_⟩
    · first
        | rfl
        | (simp [*]; done)
        | (have h1 := HNE.out
           simp at h1
           simp [*]
           done)
        | (have h1 := HNE.out
           simp at h1
           exact absurd (by assumption) h1)
    · first | exact HB6.out | exact HB5.out | exact HB4.out
end Go.Proofs.YtlokljaeknmdpaaGreat
