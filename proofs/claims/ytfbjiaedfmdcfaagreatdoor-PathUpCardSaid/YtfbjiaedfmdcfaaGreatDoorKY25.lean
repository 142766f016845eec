/-
  graph.Tie, Untie, Drop, Set, Make; condition: the graph is in order. · graph.Drop, Set, Make; condition: the graph is in order.
-/
import Derived.Test.YtfbjiaedfmdcfaaGreatDoorKY24
/-! ## GrTie -/
namespace Go.Proofs.YtfbjiaedfmdcfaaGreatDoor
open Go.RowKit Go.Shelf

theorem _root_.Go.RowKit.Below.turn {w w' : World} (h : Below w.heap.size w w') (S : Nat → Prop) : Turn S w w' := ⟨h.os, h.tape, h.output, h.size, fun k hk _ => h.block k hk, fun _ ha => h.cell ha, fun _ ha => h.frozen ha⟩
theorem tcell {S : Nat → Prop} {W w1 : World} (hb : Turn S W w1) : (∀ b o, b < W.heap.size → w1.cell? ⟨b, o, none⟩ = W.cell? ⟨b, o, none⟩) ∧ (∀ b o, b < W.heap.size → w1.frozen? ⟨b, o, none⟩ = W.frozen? ⟨b, o, none⟩) :=
  ⟨fun b o h => hb.cell ⟨b, o, none⟩ h, fun b o h => hb.frozen ⟨b, o, none⟩ h⟩

/-- the two maps of a graph -/
def Maps2 (mI mE k : Nat) : Prop := k = mI ∨ k = mE
theorem Turn.I {mI mE : Nat} {w w' : World} (h : Turn (· = mI) w w') : Turn (Maps2 mI mE) w w' := h.more fun _ => .inl
theorem Turn.E {mI mE : Nat} {w w' : World} (h : Turn (· = mE) w w') : Turn (Maps2 mI mE) w w' := h.more fun _ => .inr

theorem Gr.Ok.got_small {g : Gr} (h : g.Ok) (id : St) : 0 ≤ (g.got id).links ∧ (g.got id).links ≤ 6 := by
  unfold Gr.got
  cases hg : g.get id with
  | none => decide
  | some i =>
    have h1 := (Gr.get_some hg).1
    have h2 := h.links i h1
    have h3 := h.most i h1
    simp only [Option.getD_some]
    omega

set_option maxRecDepth 100000 in
set_option maxHeartbeats 1000000 in
theorem tie_g (gb mI mE : Nat) (g : Gr) (x : Ent) (w : World) (h : GrAt w gb mI mE g) (hok : g.Ok) (hl : g.e.length ≤ 1000) (hx : x.name.size ≤ maxLen) :
    Calls Tryz.prog 118 #[.pointer (some ⟨gb, 0, none⟩), x.v] w fun e w' => e = .returned (.int .i64 (g.tieWhy x)) ∧ GrAt w' gb mI mE (g.tie x) ∧ Turn (Maps2 mI mE) w w' := by
  have hb0 : Below w.heap.size w (w.alloc (.cells #[.int .i64 x.at_.t, .int .i64 x.at_.r, .string x.name, .int .i64 x.ino.t, .int .i64 x.ino.r] 125)) := (Below.refl _ w).alloc (Nat.le_refl _) _
  have HW := Lib.hid (tie_why gb mI mE g x _ (h.below hb0) hok hl hx)
  have hlt := h.lt.1
  unfold Gr.tie
  unfold Ent.v at HW ⊢
  by_cases h0 : g.tieWhy x = 0
  · rw [if_pos h0]
    rw [h0] at HW ⊢
    obtain ⟨_, _, hsome, hlook, _, _⟩ := Gr.tieWhy_zero h0
    have HM : Hid (∀ W, Below w.heap.size w W → ∃ w', (Instr.mapUpdate 98 (.map (some mE)) (.agg #[.int .i64 x.at_.t, .int .i64 x.at_.r, .string x.name]) (.agg #[.int .i64 x.ino.t, .int .i64 x.ino.r])).run Tryz.prog W = .ok () w' ∧ GrAt w' gb mI mE ⟨g.n, putIn Ent.pl ltPl x g.e⟩ ∧ Turn (· = mE) W w') := Lib.hid fun W hW => (h.below hW).run_new_ent hlook
    have HC : Hid (∀ W, GrAt W gb mI mE ⟨g.n, putIn Ent.pl ltPl x g.e⟩ → Calls Tryz.prog 154 #[.pointer (some ⟨gb, 0, none⟩), (.agg #[.int .i64 x.ino.t, .int .i64 x.ino.r]), .int .i64 1] W fun e w' => e = .returned (.tuple #[]) ∧ GrAt w' gb mI mE (g.tied x) ∧ Turn (· = mI) W w') := Lib.hid fun W hW => by
      have hs := hok.got_small x.ino
      exact count_g gb mI mE ⟨g.n, putIn Ent.pl ltPl x g.e⟩ x.ino 1 W hW hok.sn hsome (by show -100 ≤ (g.got x.ino).links; omega) (by show (g.got x.ino).links ≤ 100; omega) (by omega) (by omega)
    obtain ⟨c0, c1⟩ := h.cells
    have HB0 := Lib.hid hb0
    clear h hok hsome hlook h0 hb0 c0
    go_enter Tryz.func118, Tryz.ntmps118
    go_wp2_with fail
    refine (HW.out).mono ?_
    rintro e w1 ⟨rfl, hb⟩
    obtain ⟨hc1, hf1⟩ := bcell hb
    have hs1 := hb.size
    simp only [World.size_alloc] at hs1
    have hz1 : w.heap.size < w1.heap.size := by omega
    have hgl : gb < w.heap.size + 1 := by omega
    have HB1 := Lib.hid (HB0.out.trans (hb.mono HB0.out.size))
    obtain ⟨w2, hu, hG, hT⟩ := HM.out w1.drew HB1.out.drew
    have hc2 : ∀ b o, b < w1.heap.size → w2.cell? ⟨b, o, none⟩ = w1.cell? ⟨b, o, none⟩ := (tcell hT).1
    have hs2 : w1.heap.size ≤ w2.heap.size := hT.size
    have HG2 := Lib.hid hG
    have HT2 : Hid (Turn (Maps2 mI mE) w w2) := Lib.hid ((HB1.out.drew.turn _).trans hT.E)
    clear hG hT hb
    go_wp2_with fail
    go_region
    all_goals
      go_wp2_with (go_at_call 154; refine (HC.out _ HG2.out).mono ?_; rintro e w3 ⟨rfl, hG, hT⟩)
      go_ret
      exact ⟨rfl, hG, HT2.out.trans hT.I⟩
  · rw [if_neg h0]
    have h1 : (g.tieWhy x != 0) = true := by simpa using h0
    have HG := Lib.hid h
    clear h0 h hok
    generalize g.tieWhy x = t at HW h1 ⊢
    go_enter Tryz.func118, Tryz.ntmps118
    go_wp2_with (go_at_call 153; refine (HW.out).mono ?_; rintro e w1 ⟨rfl, hb⟩)
    go_ret
    have hB := hb0.trans (hb.mono hb0.size)
    exact ⟨rfl, HG.out.below hB, hB.turn _⟩

theorem Turn.setCell {S : Nat → Prop} {w w' : World} (h : Turn S w w') {p : Addr} (hp : w.heap.size ≤ p.block) (v : Value) : Turn S w (w'.setCell p v) := by
  refine ⟨h.os, h.tape, h.output, by rw [size_setCell']; exact h.size, fun k hk hs => (heap_setCell_other _ p k v (by omega)).trans (h.block k hk hs), fun a ha => ?_, fun a ha => ?_⟩
  · have e : (w'.setCell p v).heap[a.block]? = w'.heap[a.block]? := heap_setCell_other _ p a.block v (by omega)
    rw [← h.cell a ha]
    unfold World.cell?
    rw [e]
  · have e : (w'.setCell p v).heap[a.block]? = w'.heap[a.block]? := heap_setCell_other _ p a.block v (by omega)
    rw [← h.frozen a ha]
    unfold World.frozen?
    rw [e]
theorem GrAt.setCell {w : World} {gb mI mE : Nat} {g : Gr} (h : GrAt w gb mI mE g) {p : Addr} (h1 : gb ≠ p.block) (h2 : mI ≠ p.block) (h3 : mE ≠ p.block) (v : Value) : GrAt (w.setCell p v) gb mI mE g :=
  h.kept (heap_setCell_other _ p _ v h1) (heap_setCell_other _ p _ v h2) (heap_setCell_other _ p _ v h3)
theorem set2_turn {S : Nat → Prop} {w w' : World} {k : Nat} (h : Turn S w w') (hp : w.heap.size ≤ k) (v0 v1 : Value) : Turn S w ((w'.setCell ⟨k, 0, none⟩ v0).setCell ⟨k, 1, none⟩ v1) :=
  (h.setCell (p := ⟨k, 0, none⟩) hp v0).setCell (p := ⟨k, 1, none⟩) hp v1
theorem set2_gr {w : World} {gb mI mE k : Nat} {g : Gr} (h : GrAt w gb mI mE g) (h1 : gb ≠ k) (h2 : mI ≠ k) (h3 : mE ≠ k) (v0 v1 : Value) : GrAt ((w.setCell ⟨k, 0, none⟩ v0).setCell ⟨k, 1, none⟩ v1) gb mI mE g :=
  (h.setCell (p := ⟨k, 0, none⟩) h1 h2 h3 v0).setCell (p := ⟨k, 1, none⟩) h1 h2 h3 v1

set_option maxRecDepth 100000 in
set_option maxHeartbeats 1000000 in
theorem untie_g (gb mI mE : Nat) (g : Gr) (p : Pl) (w : World) (h : GrAt w gb mI mE g) (hok : g.Ok) :
    Calls Tryz.prog 155 #[.pointer (some ⟨gb, 0, none⟩), p.at_.v, .string p.name] w fun e w' => e = .returned (.tuple #[((g.look p).getD ⟨0, 0⟩).v, .int .i64 (g.untieWhy p)]) ∧ GrAt w' gb mI mE (g.untie p) ∧ Turn (Maps2 mI mE) w w' := by
  have hb0 : Below w.heap.size w ((w.alloc (.cells #[.int .i64 p.at_.t, .int .i64 p.at_.r] 26)).alloc (.cells #[.int .i64 0, .int .i64 0] 26)) := ((Below.refl _ w).alloc (Nat.le_refl _) _).alloc (by simp) _
  have HL := Lib.hid (look_any gb mI mE g p _ (h.below hb0) hok.se)
  obtain ⟨hlt, hmI, hmE⟩ := h.lt
  unfold Gr.untie Gr.untieWhy
  unfold St.v at HL ⊢
  cases hlook : g.look p with
  | none =>
    rw [hlook] at HL
    have HG := Lib.hid h
    clear h hok hlook
    go_enter Tryz.func155, Tryz.ntmps155
    go_wp2_with (go_at_call 32; refine (HL.out).mono ?_; rintro e w1 ⟨rfl, hN⟩; obtain ⟨hc1, hf1⟩ := bnew hN; have hs1 := hN.size; simp only [World.size_alloc] at hs1; have hz1 : w.heap.size + 1 < w1.heap.size := (by omega); have HB := Lib.hid (hb0.trans (hN.below.mono hb0.size)); clear hN)
    have hB2 : Below w.heap.size w (w1.alloc (.cells #[.int .i64 0, .int .i64 0] 26)) := HB.out.alloc HB.out.size _
    refine bodyPost_ret (v := .tuple #[(.agg #[.int .i64 0, .int .i64 0]), .int .i64 3]) (by simp [results, Tryz.results155, go_sem, hc1, hz1]) rfl ⟨rfl, ?_, ?_⟩
    · exact (set2_gr (HG.out.below HB.out) (by omega) (by omega) (by omega) _ _).new (New.alloc' _ _)
    · exact (set2_turn (HB.out.turn _) (Nat.le_succ _) _ _).trans ((New.alloc' _ _).turn _)
  | some id =>
    rw [hlook] at HL
    have HM : Hid (∀ W, Below w.heap.size w W → ∃ w', (Builtin.delete_ #[98, 110] 0 #[.map (some mE), (.agg #[.int .i64 p.at_.t, .int .i64 p.at_.r, .string p.name])]).run Tryz.prog W = .ok (.tuple #[]) w' ∧ GrAt w' gb mI mE ⟨g.n, g.e.filter fun x => decide (x.pl ≠ p)⟩ ∧ Turn (· = mE) W w') := Lib.hid fun W hW => (h.below hW).run_del_ent hok.se p 0 _
    have HC : Hid (∀ W, GrAt W gb mI mE ⟨g.n, g.e.filter fun x => decide (x.pl ≠ p)⟩ → Calls Tryz.prog 154 #[.pointer (some ⟨gb, 0, none⟩), (.agg #[.int .i64 id.t, .int .i64 id.r]), .int .i64 (-1)] W fun e w' => e = .returned (.tuple #[]) ∧ GrAt w' gb mI mE (g.untied p id) ∧ Turn (· = mI) W w') := Lib.hid fun W hW => by
      have hs := hok.got_small id
      have hsome : (g.get id).isSome = true := by
        obtain ⟨x, hx, _, rfl⟩ := Gr.look_some hlook
        exact (hok.ends x hx).2.1
      exact count_g gb mI mE ⟨g.n, g.e.filter fun x => decide (x.pl ≠ p)⟩ id (-1) W hW hok.sn hsome (by show -100 ≤ (g.got id).links; omega) (by show (g.got id).links ≤ 100; omega) (by omega) (by omega)
    obtain ⟨c0, c1⟩ := h.cells
    have HB0 := Lib.hid hb0
    clear h hok hlook hb0 c0
    obtain ⟨at_, name⟩ := p
    simp only at *
    go_enter Tryz.func155, Tryz.ntmps155
    go_wp2_with fail
    refine (HL.out).mono ?_
    rintro e w1 ⟨rfl, hN⟩
    obtain ⟨hc1, hf1⟩ := bnew hN
    have hs1 := hN.size
    simp only [World.size_alloc] at hs1
    have hz1 : w.heap.size + 1 < w1.heap.size := by omega
    have hz0 : w.heap.size < w1.heap.size := by omega
    have hgl : gb < w.heap.size + 1 + 1 := by omega
    have hgl1 : gb < w1.heap.size := by omega
    have HB1 := Lib.hid (HB0.out.trans (hN.below.mono HB0.out.size))
    have hB2 : Below w.heap.size w (w1.alloc (.cells #[.int .i64 id.t, .int .i64 id.r] 26)).drew := (HB1.out.alloc HB1.out.size _).drew
    obtain ⟨w2, hu, hG, hT⟩ := HM.out _ hB2
    have hc2 : ∀ b o, b < w1.heap.size + 1 → w2.cell? ⟨b, o, none⟩ = (w1.alloc (.cells #[.int .i64 id.t, .int .i64 id.r] 26)).cell? ⟨b, o, none⟩ := fun b o h => (tcell hT).1 b o (by show b < (w1.alloc _).heap.size; simp only [World.size_alloc]; exact h)
    have hf2 : ∀ b o, b < w1.heap.size + 1 → w2.frozen? ⟨b, o, none⟩ = (w1.alloc (.cells #[.int .i64 id.t, .int .i64 id.r] 26)).frozen? ⟨b, o, none⟩ := fun b o h => (tcell hT).2 b o (by show b < (w1.alloc _).heap.size; simp only [World.size_alloc]; exact h)
    have hs2 : w1.heap.size + 1 ≤ w2.heap.size := by have := hT.size; have e : (w1.alloc (.cells #[.int .i64 id.t, .int .i64 id.r] 26)).drew.heap.size = w1.heap.size + 1 := by show (w1.alloc _).heap.size = _; simp only [World.size_alloc]
                                                     omega
    have HG2 := Lib.hid hG
    have HT2 : Hid (Turn (Maps2 mI mE) w w2) := Lib.hid ((hB2.turn _).trans hT.E)
    clear hG hT hN hB2
    go_wp2_with fail
    go_region
    all_goals
      go_wp2_with (go_at_call 154; refine (HC.out _ HG2.out).mono ?_; rintro e w3 ⟨rfl, hG, hT⟩; have hc3 : ∀ b o, b < w2.heap.size → w3.cell? ⟨b, o, none⟩ = w2.cell? ⟨b, o, none⟩ := (tcell hT).1; have hf3 : ∀ b o, b < w2.heap.size → w3.frozen? ⟨b, o, none⟩ = w2.frozen? ⟨b, o, none⟩ := (tcell hT).2; have hz2 : w1.heap.size < w2.heap.size := (by omega); have hz3 : w.heap.size + 1 < w2.heap.size := (by omega); have HT3 := Lib.hid (HT2.out.trans hT.I); have HG3 := Lib.hid hG; clear hG hT)
      have r0 : w3.cell? ⟨w.heap.size + 1, 0, none⟩ = some (.int .i64 0) := (hc3 _ _ hz3).trans ((hc2 _ _ (by omega)).trans ((World.cell?_alloc_lt w1 _ ⟨w.heap.size + 1, 0, none⟩ hz1).trans ((hc1 _ _ (by simp)).trans (cell_new (w.alloc (.cells #[.int .i64 at_.t, .int .i64 at_.r] 26)) _ (by simp) _ _ 0 _ rfl))))
      have r1 : w3.cell? ⟨w.heap.size + 1, 1, none⟩ = some (.int .i64 0) := (hc3 _ _ hz3).trans ((hc2 _ _ (by omega)).trans ((World.cell?_alloc_lt w1 _ ⟨w.heap.size + 1, 1, none⟩ hz1).trans ((hc1 _ _ (by simp)).trans (cell_new (w.alloc (.cells #[.int .i64 at_.t, .int .i64 at_.r] 26)) _ (by simp) _ _ 1 _ rfl))))
      refine bodyPost_ret (v := .tuple #[(.agg #[.int .i64 id.t, .int .i64 id.r]), .int .i64 0]) (by simp [results, Tryz.results155, go_sem, r0, r1]) rfl ⟨rfl, ?_, ?_⟩
      · exact set2_gr HG3.out (by omega) (by omega) (by omega) _ _
      · exact set2_turn HT3.out (Nat.le_succ _) _ _
end Go.Proofs.YtfbjiaedfmdcfaaGreatDoor

/-! ## GrSet -/
namespace Go.Proofs.YtfbjiaedfmdcfaaGreatDoor
open Go.RowKit Go.Shelf

/-- what a deed leaves: its answer, the graph, all else but its maps -/
def Done (gb mI mE : Nat) (g' : Gr) (v : Value) (w : World) (e : Ending) (w' : World) : Prop := e = .returned v ∧ GrAt w' gb mI mE g' ∧ Turn (Maps2 mI mE) w w'

set_option maxRecDepth 100000 in
set_option maxHeartbeats 2000000 in
theorem drop_g (gb mI mE : Nat) (g : Gr) (id : St) (w : World) (h : GrAt w gb mI mE g) (hok : g.Ok) (hl : g.e.length ≤ 1000) :
    Calls Tryz.prog 156 #[.pointer (some ⟨gb, 0, none⟩), id.v] w (Done gb mI mE (g.drop id) (.int .i64 (g.dropWhy id)) w) := by
  have HB0 : Hid (Below w.heap.size w (w.alloc (.cells #[.int .i64 id.t, .int .i64 id.r] 26))) := Lib.hid ((Below.refl _ w).alloc (Nat.le_refl _) _)
  have HG : Hid (∀ W, Below w.heap.size w W → Calls Tryz.prog 33 #[.pointer (some ⟨gb, 0, none⟩), (.agg #[.int .i64 id.t, .int .i64 id.r])] W fun e w' => e = .returned (.tuple #[(g.got id).v, .bool (g.get id).isSome]) ∧ Below W.heap.size W w') := Lib.hid fun W hW => (get_any gb mI mE g id W (h.below hW) hok.sn).mono fun e w' ⟨a, b⟩ => ⟨a, b.below⟩
  have HL : Hid (∀ W, Below w.heap.size w W → Calls Tryz.prog 72 #[.pointer (some ⟨gb, 0, none⟩), (.agg #[.int .i64 id.t, .int .i64 id.r])] W fun e w' => (∃ a c, e = .returned (.slice a (g.list id).length c)) ∧ Below W.heap.size W w') := Lib.hid fun W hW => (list_any gb mI mE g id W (h.below hW) hok.se hl).mono fun e w' ⟨v, a, b, c⟩ => by
    obtain ⟨x, y, rfl⟩ := ownsRow_len b
    exact ⟨⟨x, y, a⟩, c⟩
  have HD : Hid (∀ W, Below w.heap.size w W → ∃ w', (Builtin.delete_ #[97, 26] 0 #[.map (some mI), (.agg #[.int .i64 id.t, .int .i64 id.r])]).run Tryz.prog W = .ok (.tuple #[]) w' ∧ GrAt w' gb mI mE (g.dropped id) ∧ Turn (· = mI) W w') := Lib.hid fun W hW => (h.below hW).run_del_node hok.sn id 0 _
  have HGA : Hid (∀ W, Below w.heap.size w W → GrAt W gb mI mE g ∧ Turn (Maps2 mI mE) w W) := Lib.hid fun W hW => ⟨h.below hW, hW.turn _⟩
  have HCE : Hid (∀ W, Below w.heap.size w W → W.cell? ⟨gb, 0, none⟩ = some (.map (some mI))) := Lib.hid fun W hW => (h.below hW).cells.1
  obtain ⟨c0, c1⟩ := h.cells
  have hlt := h.lt.1
  have hll : ((g.list id).length : Int) ≤ 1000 := by
    have : (g.list id).length ≤ g.e.length := List.length_filter_le _ _
    omega
  have hcase := St.three id ⟨0, 0⟩
  clear h hok hl c1
  have key : ∀ t, g.dropWhy id = t → t ≠ 0 → g.drop id = g := fun t h1 h2 => by unfold Gr.drop; rw [h1, if_neg h2]
  have hdw : g.dropWhy id = if !(g.get id).isSome then 3 else if id = ⟨0, 0⟩ then 8 else if 0 < (g.got id).links ∨ 0 < (g.list id).length then 7 else 0 := rfl
  generalize g.got id = i at HG hdw
  generalize (g.list id).length = n at HL hll hdw
  obtain ⟨d, k, l, m, s⟩ := i
  unfold Ino.v at HG
  unfold St.v
  cases hs : (g.get id).isSome with
  | false =>
    rw [hs] at HG
    have e : g.dropWhy id = 3 := by rw [hdw, hs]; rfl
    rw [key 3 e (by decide), e]
    clear key hdw hs e hcase
    go_enter Tryz.func156, Tryz.ntmps156
    go_wp2_with fail
    refine (HG.out _ (by first | exact HB0.out | exact HB0.out.alloc HB0.out.size _ | exact (HB0.out.alloc HB0.out.size _).alloc (le_al HB0.out.size) _ | exact ((HB0.out.alloc HB0.out.size _).alloc (le_al HB0.out.size) _).alloc (le_al (le_al HB0.out.size)) _)).mono ?_
    rintro e w1 ⟨rfl, hb1⟩
    obtain ⟨hc1, hf1⟩ := bcell hb1
    have hs1 := hb1.size
    try simp only [World.size_alloc] at hs1
    try simp only [size_setCell'] at hs1
    try have le1_0 : w.heap.size ≤ w1.heap.size := (by omega)
    try have lt1_0 : w.heap.size < w1.heap.size := (by omega)
    have HB1 : Hid (Below w.heap.size w w1) := Lib.hid (Below.trans (by first | exact HB0.out | exact HB0.out.alloc HB0.out.size _ | exact (HB0.out.alloc HB0.out.size _).alloc (le_al HB0.out.size) _ | exact ((HB0.out.alloc HB0.out.size _).alloc (le_al HB0.out.size) _).alloc (le_al (le_al HB0.out.size)) _) (hb1.mono (by (try simp only [World.size_alloc]); (try simp only [size_setCell']); omega)))
    have HN1 := Lib.hid hb1
    clear hb1 hs1
    go_wp2
    go_ret
    exact ⟨rfl, HGA.out _ (by first | exact HB1.out | exact HB1.out.alloc HB1.out.size _ | exact (HB1.out.alloc HB1.out.size _).alloc (le_al HB1.out.size) _ | exact ((HB1.out.alloc HB1.out.size _).alloc (le_al HB1.out.size) _).alloc (le_al (le_al HB1.out.size)) _)⟩
  | true =>
    rw [hs] at HG
    rcases hcase with rfl | hne
    · have e : g.dropWhy ⟨0, 0⟩ = 8 := by rw [hdw, hs]; rfl
      rw [key 8 e (by decide), e]
      clear key hdw hs e
      go_enter Tryz.func156, Tryz.ntmps156
      go_wp2_with fail
      refine (HG.out _ (by first | exact HB0.out | exact HB0.out.alloc HB0.out.size _ | exact (HB0.out.alloc HB0.out.size _).alloc (le_al HB0.out.size) _ | exact ((HB0.out.alloc HB0.out.size _).alloc (le_al HB0.out.size) _).alloc (le_al (le_al HB0.out.size)) _)).mono ?_
      rintro e w1 ⟨rfl, hb1⟩
      obtain ⟨hc1, hf1⟩ := bcell hb1
      have hs1 := hb1.size
      try simp only [World.size_alloc] at hs1
      try simp only [size_setCell'] at hs1
      try have le1_0 : w.heap.size ≤ w1.heap.size := (by omega)
      try have lt1_0 : w.heap.size < w1.heap.size := (by omega)
      have HB1 : Hid (Below w.heap.size w w1) := Lib.hid (Below.trans (by first | exact HB0.out | exact HB0.out.alloc HB0.out.size _ | exact (HB0.out.alloc HB0.out.size _).alloc (le_al HB0.out.size) _ | exact ((HB0.out.alloc HB0.out.size _).alloc (le_al HB0.out.size) _).alloc (le_al (le_al HB0.out.size)) _) (hb1.mono (by (try simp only [World.size_alloc]); (try simp only [size_setCell']); omega)))
      have HN1 := Lib.hid hb1
      clear hb1 hs1
      go_wp2
      go_ret
      exact ⟨rfl, HGA.out _ (by first | exact HB1.out | exact HB1.out.alloc HB1.out.size _ | exact (HB1.out.alloc HB1.out.size _).alloc (le_al HB1.out.size) _ | exact ((HB1.out.alloc HB1.out.size _).alloc (le_al HB1.out.size) _).alloc (le_al (le_al HB1.out.size)) _)⟩
    · have hne0 : id ≠ ⟨0, 0⟩ := by rcases hne with ⟨h, _⟩ | ⟨r, rfl, h, _⟩ <;> exact h
      rw [hs] at hdw
      simp only [Bool.not_true, Bool.false_eq_true, if_false, if_neg hne0] at hdw
      have HNE := Lib.hid hne0
      clear hs hne0
      by_cases h1 : 0 < l
      · have e : g.dropWhy id = 7 := by rw [hdw, if_pos (.inl h1)]
        rw [key 7 e (by decide), e]
        clear key hdw e
        rcases hne with ⟨_, ht⟩ | ⟨r, rfl, _, hr⟩
        all_goals
          go_enter Tryz.func156, Tryz.ntmps156
          go_wp2_with fail
          refine (HG.out _ (by first | exact HB0.out | exact HB0.out.alloc HB0.out.size _ | exact (HB0.out.alloc HB0.out.size _).alloc (le_al HB0.out.size) _ | exact ((HB0.out.alloc HB0.out.size _).alloc (le_al HB0.out.size) _).alloc (le_al (le_al HB0.out.size)) _)).mono ?_
          rintro e w1 ⟨rfl, hb1⟩
          obtain ⟨hc1, hf1⟩ := bcell hb1
          have hs1 := hb1.size
          try simp only [World.size_alloc] at hs1
          try simp only [size_setCell'] at hs1
          try have le1_0 : w.heap.size ≤ w1.heap.size := (by omega)
          try have lt1_0 : w.heap.size < w1.heap.size := (by omega)
          have HB1 : Hid (Below w.heap.size w w1) := Lib.hid (Below.trans (by first | exact HB0.out | exact HB0.out.alloc HB0.out.size _ | exact (HB0.out.alloc HB0.out.size _).alloc (le_al HB0.out.size) _ | exact ((HB0.out.alloc HB0.out.size _).alloc (le_al HB0.out.size) _).alloc (le_al (le_al HB0.out.size)) _) (hb1.mono (by (try simp only [World.size_alloc]); (try simp only [size_setCell']); omega)))
          have HN1 := Lib.hid hb1
          clear hb1 hs1
          go_wp2
          go_ret
          exact ⟨rfl, HGA.out _ (by first | exact HB1.out | exact HB1.out.alloc HB1.out.size _ | exact (HB1.out.alloc HB1.out.size _).alloc (le_al HB1.out.size) _ | exact ((HB1.out.alloc HB1.out.size _).alloc (le_al HB1.out.size) _).alloc (le_al (le_al HB1.out.size)) _)⟩
      · by_cases h2 : 0 < n
        · have e : g.dropWhy id = 7 := by rw [hdw, if_pos (.inr h2)]
          rw [key 7 e (by decide), e]
          clear key hdw e
          have h2' : (0 : Int) < (n : Int) := by omega
          rcases hne with ⟨_, ht⟩ | ⟨r, rfl, _, hr⟩
          all_goals
            go_enter Tryz.func156, Tryz.ntmps156
            go_wp2_with fail
            refine (HG.out _ (by first | exact HB0.out | exact HB0.out.alloc HB0.out.size _ | exact (HB0.out.alloc HB0.out.size _).alloc (le_al HB0.out.size) _ | exact ((HB0.out.alloc HB0.out.size _).alloc (le_al HB0.out.size) _).alloc (le_al (le_al HB0.out.size)) _)).mono ?_
            rintro e w1 ⟨rfl, hb1⟩
            obtain ⟨hc1, hf1⟩ := bcell hb1
            have hs1 := hb1.size
            try simp only [World.size_alloc] at hs1
            try simp only [size_setCell'] at hs1
            try have le1_0 : w.heap.size ≤ w1.heap.size := (by omega)
            try have lt1_0 : w.heap.size < w1.heap.size := (by omega)
            have HB1 : Hid (Below w.heap.size w w1) := Lib.hid (Below.trans (by first | exact HB0.out | exact HB0.out.alloc HB0.out.size _ | exact (HB0.out.alloc HB0.out.size _).alloc (le_al HB0.out.size) _ | exact ((HB0.out.alloc HB0.out.size _).alloc (le_al HB0.out.size) _).alloc (le_al (le_al HB0.out.size)) _) (hb1.mono (by (try simp only [World.size_alloc]); (try simp only [size_setCell']); omega)))
            have HN1 := Lib.hid hb1
            clear hb1 hs1
            go_wp2_with fail
            refine (HL.out _ (by first | exact HB1.out | exact HB1.out.alloc HB1.out.size _ | exact (HB1.out.alloc HB1.out.size _).alloc (le_al HB1.out.size) _ | exact ((HB1.out.alloc HB1.out.size _).alloc (le_al HB1.out.size) _).alloc (le_al (le_al HB1.out.size)) _ | exact HB0.out | exact HB0.out.alloc HB0.out.size _ | exact (HB0.out.alloc HB0.out.size _).alloc (le_al HB0.out.size) _ | exact ((HB0.out.alloc HB0.out.size _).alloc (le_al HB0.out.size) _).alloc (le_al (le_al HB0.out.size)) _)).mono ?_
            rintro e w2 ⟨⟨a, c, rfl⟩, hb2⟩
            obtain ⟨hc2, hf2⟩ := bcell hb2
            have hs2 := hb2.size
            try simp only [World.size_alloc] at hs2
            try simp only [size_setCell'] at hs2
            try have le2_0 : w.heap.size ≤ w2.heap.size := (by omega)
            try have lt2_0 : w.heap.size < w2.heap.size := (by omega)
            try have le2_1 : w1.heap.size ≤ w2.heap.size := (by omega)
            try have lt2_1 : w1.heap.size < w2.heap.size := (by omega)
            have HB2 : Hid (Below w.heap.size w w2) := Lib.hid (Below.trans (by first | exact HB1.out | exact HB1.out.alloc HB1.out.size _ | exact (HB1.out.alloc HB1.out.size _).alloc (le_al HB1.out.size) _ | exact ((HB1.out.alloc HB1.out.size _).alloc (le_al HB1.out.size) _).alloc (le_al (le_al HB1.out.size)) _ | exact HB0.out | exact HB0.out.alloc HB0.out.size _ | exact (HB0.out.alloc HB0.out.size _).alloc (le_al HB0.out.size) _ | exact ((HB0.out.alloc HB0.out.size _).alloc (le_al HB0.out.size) _).alloc (le_al (le_al HB0.out.size)) _) (hb2.mono (by (try simp only [World.size_alloc]); (try simp only [size_setCell']); omega)))
            have HN2 := Lib.hid hb2
            clear hb2 hs2
            go_wp2
            go_ret
            exact ⟨rfl, HGA.out _ (by first | exact HB2.out | exact HB2.out.alloc HB2.out.size _ | exact (HB2.out.alloc HB2.out.size _).alloc (le_al HB2.out.size) _ | exact ((HB2.out.alloc HB2.out.size _).alloc (le_al HB2.out.size) _).alloc (le_al (le_al HB2.out.size)) _)⟩
        · have e : g.dropWhy id = 0 := by rw [hdw, if_neg (by omega)]
          have ed : g.drop id = g.dropped id := by unfold Gr.drop; rw [e, if_pos rfl]
          rw [ed, e]
          clear key hdw e ed
          have h2' : ¬ (0 : Int) < (n : Int) := by omega
          rcases hne with ⟨_, ht⟩ | ⟨r, rfl, _, hr⟩
          all_goals
            go_enter Tryz.func156, Tryz.ntmps156
            go_wp2_with fail
            refine (HG.out _ (by first | exact HB0.out | exact HB0.out.alloc HB0.out.size _ | exact (HB0.out.alloc HB0.out.size _).alloc (le_al HB0.out.size) _ | exact ((HB0.out.alloc HB0.out.size _).alloc (le_al HB0.out.size) _).alloc (le_al (le_al HB0.out.size)) _)).mono ?_
            rintro e w1 ⟨rfl, hb1⟩
            obtain ⟨hc1, hf1⟩ := bcell hb1
            have hs1 := hb1.size
            try simp only [World.size_alloc] at hs1
            try simp only [size_setCell'] at hs1
            try have le1_0 : w.heap.size ≤ w1.heap.size := (by omega)
            try have lt1_0 : w.heap.size < w1.heap.size := (by omega)
            have HB1 : Hid (Below w.heap.size w w1) := Lib.hid (Below.trans (by first | exact HB0.out | exact HB0.out.alloc HB0.out.size _ | exact (HB0.out.alloc HB0.out.size _).alloc (le_al HB0.out.size) _ | exact ((HB0.out.alloc HB0.out.size _).alloc (le_al HB0.out.size) _).alloc (le_al (le_al HB0.out.size)) _) (hb1.mono (by (try simp only [World.size_alloc]); (try simp only [size_setCell']); omega)))
            have HN1 := Lib.hid hb1
            clear hb1 hs1
            go_wp2_with fail
            refine (HL.out _ (by first | exact HB1.out | exact HB1.out.alloc HB1.out.size _ | exact (HB1.out.alloc HB1.out.size _).alloc (le_al HB1.out.size) _ | exact ((HB1.out.alloc HB1.out.size _).alloc (le_al HB1.out.size) _).alloc (le_al (le_al HB1.out.size)) _ | exact HB0.out | exact HB0.out.alloc HB0.out.size _ | exact (HB0.out.alloc HB0.out.size _).alloc (le_al HB0.out.size) _ | exact ((HB0.out.alloc HB0.out.size _).alloc (le_al HB0.out.size) _).alloc (le_al (le_al HB0.out.size)) _)).mono ?_
            rintro e w2 ⟨⟨a, c, rfl⟩, hb2⟩
            obtain ⟨hc2, hf2⟩ := bcell hb2
            have hs2 := hb2.size
            try simp only [World.size_alloc] at hs2
            try simp only [size_setCell'] at hs2
            try have le2_0 : w.heap.size ≤ w2.heap.size := (by omega)
            try have lt2_0 : w.heap.size < w2.heap.size := (by omega)
            try have le2_1 : w1.heap.size ≤ w2.heap.size := (by omega)
            try have lt2_1 : w1.heap.size < w2.heap.size := (by omega)
            have HB2 : Hid (Below w.heap.size w w2) := Lib.hid (Below.trans (by first | exact HB1.out | exact HB1.out.alloc HB1.out.size _ | exact (HB1.out.alloc HB1.out.size _).alloc (le_al HB1.out.size) _ | exact ((HB1.out.alloc HB1.out.size _).alloc (le_al HB1.out.size) _).alloc (le_al (le_al HB1.out.size)) _ | exact HB0.out | exact HB0.out.alloc HB0.out.size _ | exact (HB0.out.alloc HB0.out.size _).alloc (le_al HB0.out.size) _ | exact ((HB0.out.alloc HB0.out.size _).alloc (le_al HB0.out.size) _).alloc (le_al (le_al HB0.out.size)) _) (hb2.mono (by (try simp only [World.size_alloc]); (try simp only [size_setCell']); omega)))
            have HN2 := Lib.hid hb2
            clear hb2 hs2
            obtain ⟨w3, hu, hG3, hT3⟩ := HD.out w2.drew HB2.out.drew
            have HG3 := Lib.hid hG3
            have HT3 : Hid (Turn (Maps2 mI mE) w w3) := Lib.hid ((HB2.out.drew.turn _).trans hT3.I)
            have cg := HCE.out w2 HB2.out
            clear hG3 hT3
            go_wp2
            go_region
            all_goals
              go_wp2
              go_ret
              exact ⟨rfl, HG3.out, HT3.out⟩

set_option maxRecDepth 100000 in
set_option maxHeartbeats 2000000 in
theorem set_g (gb mI mE : Nat) (g : Gr) (id : St) (mode : Int) (data : ByteArray) (w : World) (h : GrAt w gb mI mE g) (hok : g.Ok) :
    Calls Tryz.prog 117 #[.pointer (some ⟨gb, 0, none⟩), id.v, .int .i64 mode, .string data] w (Done gb mI mE (if g.setWhy id = 0 then g.set id mode data else g) (.int .i64 (g.setWhy id)) w) := by
  have HB0 : Hid (Below w.heap.size w (w.alloc (.cells #[.int .i64 id.t, .int .i64 id.r] 26))) := Lib.hid ((Below.refl _ w).alloc (Nat.le_refl _) _)
  have HG : Hid (∀ W, Below w.heap.size w W → Calls Tryz.prog 33 #[.pointer (some ⟨gb, 0, none⟩), (.agg #[.int .i64 id.t, .int .i64 id.r])] W fun e w' => e = .returned (.tuple #[(g.got id).v, .bool (g.get id).isSome]) ∧ Below W.heap.size W w') := Lib.hid fun W hW => (get_any gb mI mE g id W (h.below hW) hok.sn).mono fun e w' ⟨a, b⟩ => ⟨a, b.below⟩
  have HGA : Hid (∀ W, Below w.heap.size w W → GrAt W gb mI mE g ∧ Turn (Maps2 mI mE) w W) := Lib.hid fun W hW => ⟨h.below hW, hW.turn _⟩
  have HCE : Hid (∀ W, Below w.heap.size w W → W.cell? ⟨gb, 0, none⟩ = some (.map (some mI))) := Lib.hid fun W hW => (h.below hW).cells.1
  have HU : Hid ((g.get id).isSome = true → ∀ W, Below w.heap.size w W → ∃ w', (Instr.mapUpdate 97 (.map (some mI)) (.agg #[.int .i64 id.t, .int .i64 id.r]) (setTo mode data (g.got id)).v).run Tryz.prog W = .ok () w' ∧ GrAt w' gb mI mE (g.set id mode data) ∧ Turn (· = mI) W w') := Lib.hid fun hs W hW => (h.below hW).run_put_node hok.sn (setTo mode data) (fun _ => rfl) hs
  have hlt := h.lt.1
  obtain ⟨c0, c1⟩ := h.cells
  clear h hok c1
  unfold Gr.setWhy
  generalize g.got id = i at HG HU
  obtain ⟨d, k, l, m, s⟩ := i
  unfold setTo Ino.v at HU
  unfold Ino.v at HG
  unfold St.v
  cases hs : (g.get id).isSome with
  | false =>
    rw [hs] at HG
    simp only [Bool.false_eq_true, if_false]
    rw [if_neg (by decide)]
    clear hs HU
    go_enter Tryz.func117, Tryz.ntmps117
    go_wp2_with fail
    refine (HG.out _ (by first | exact HB0.out | exact HB0.out.alloc HB0.out.size _ | exact (HB0.out.alloc HB0.out.size _).alloc (le_al HB0.out.size) _ | exact ((HB0.out.alloc HB0.out.size _).alloc (le_al HB0.out.size) _).alloc (le_al (le_al HB0.out.size)) _)).mono ?_
    rintro e w1 ⟨rfl, hb1⟩
    obtain ⟨hc1, hf1⟩ := bcell hb1
    have hs1 := hb1.size
    try simp only [World.size_alloc] at hs1
    try simp only [size_setCell'] at hs1
    try have le1_0 : w.heap.size ≤ w1.heap.size := (by omega)
    try have lt1_0 : w.heap.size < w1.heap.size := (by omega)
    have HB1 : Hid (Below w.heap.size w w1) := Lib.hid (Below.trans (by first | exact HB0.out | exact HB0.out.alloc HB0.out.size _ | exact (HB0.out.alloc HB0.out.size _).alloc (le_al HB0.out.size) _ | exact ((HB0.out.alloc HB0.out.size _).alloc (le_al HB0.out.size) _).alloc (le_al (le_al HB0.out.size)) _) (hb1.mono (by (try simp only [World.size_alloc]); (try simp only [size_setCell']); omega)))
    have HN1 := Lib.hid hb1
    clear hb1 hs1
    go_wp2
    go_ret
    exact ⟨rfl, HGA.out _ (by first | exact HB1.out | exact HB1.out.alloc HB1.out.size _ | exact (HB1.out.alloc HB1.out.size _).alloc (le_al HB1.out.size) _ | exact ((HB1.out.alloc HB1.out.size _).alloc (le_al HB1.out.size) _).alloc (le_al (le_al HB1.out.size)) _)⟩
  | true =>
    rw [hs] at HG
    have HU2 := Lib.hid (HU.out hs)
    simp only [if_true]
    clear hs HU
    go_enter Tryz.func117, Tryz.ntmps117
    go_wp2_with fail
    refine (HG.out _ (by first | exact HB0.out | exact HB0.out.alloc HB0.out.size _ | exact (HB0.out.alloc HB0.out.size _).alloc (le_al HB0.out.size) _ | exact ((HB0.out.alloc HB0.out.size _).alloc (le_al HB0.out.size) _).alloc (le_al (le_al HB0.out.size)) _)).mono ?_
    rintro e w1 ⟨rfl, hb1⟩
    obtain ⟨hc1, hf1⟩ := bcell hb1
    have hs1 := hb1.size
    try simp only [World.size_alloc] at hs1
    try simp only [size_setCell'] at hs1
    try have le1_0 : w.heap.size ≤ w1.heap.size := (by omega)
    try have lt1_0 : w.heap.size < w1.heap.size := (by omega)
    have HB1 : Hid (Below w.heap.size w w1) := Lib.hid (Below.trans (by first | exact HB0.out | exact HB0.out.alloc HB0.out.size _ | exact (HB0.out.alloc HB0.out.size _).alloc (le_al HB0.out.size) _ | exact ((HB0.out.alloc HB0.out.size _).alloc (le_al HB0.out.size) _).alloc (le_al (le_al HB0.out.size)) _) (hb1.mono (by (try simp only [World.size_alloc]); (try simp only [size_setCell']); omega)))
    have HN1 := Lib.hid hb1
    clear hb1 hs1
    obtain ⟨w3, hu, hG3, hT3⟩ := HU2.out (w1.alloc (.cells #[.int .i64 d.t, .int .i64 d.r, .int .i64 k, .int .i64 l, .int .i64 mode, .string data] 28)).drew (HB1.out.alloc HB1.out.size _).drew
    have HG3 := Lib.hid hG3
    have HT3 : Hid (Turn (Maps2 mI mE) w w3) := Lib.hid (((HB1.out.alloc HB1.out.size _).drew.turn _).trans hT3.I)
    have cg := HCE.out w1 HB1.out
    have hgl1 : gb < w1.heap.size := by omega
    clear hG3 hT3
    go_wp2
    go_region
    all_goals
      go_wp2
      go_ret
      exact ⟨rfl, HG3.out, HT3.out⟩

set_option maxRecDepth 100000 in
set_option maxHeartbeats 2000000 in
theorem make_g (gb mI mE : Nat) (g : Gr) (id : St) (kind : Int) (w : World) (h : GrAt w gb mI mE g) (hok : g.Ok) :
    Calls Tryz.prog 115 #[.pointer (some ⟨gb, 0, none⟩), id.v, .int .i64 kind] w (Done gb mI mE (g.make id kind) (.int .i64 (g.makeWhy id kind)) w) := by
  have HB0 : Hid (Below w.heap.size w (w.alloc (.cells #[.int .i64 id.t, .int .i64 id.r] 26))) := Lib.hid ((Below.refl _ w).alloc (Nat.le_refl _) _)
  have HG : Hid (∀ W, Below w.heap.size w W → Calls Tryz.prog 33 #[.pointer (some ⟨gb, 0, none⟩), (.agg #[.int .i64 id.t, .int .i64 id.r])] W fun e w' => e = .returned (.tuple #[(g.got id).v, .bool (g.get id).isSome]) ∧ Below W.heap.size W w') := Lib.hid fun W hW => (get_any gb mI mE g id W (h.below hW) hok.sn).mono fun e w' ⟨a, b⟩ => ⟨a, b.below⟩
  have HM : Hid (∀ W, Calls Tryz.prog 82 #[(.agg #[.int .i64 id.t, .int .i64 id.r])] W fun e w' => e = .returned (.bool (mayB id.t id.r)) ∧ Below W.heap.size W w') := Lib.hid fun W => (may_any id.t id.r W).mono fun e w' ⟨a, b⟩ => ⟨a, b.below⟩
  have HGA : Hid (∀ W, Below w.heap.size w W → GrAt W gb mI mE g ∧ Turn (Maps2 mI mE) w W) := Lib.hid fun W hW => ⟨h.below hW, hW.turn _⟩
  have HCE : Hid (∀ W, Below w.heap.size w W → W.cell? ⟨gb, 0, none⟩ = some (.map (some mI))) := Lib.hid fun W hW => (h.below hW).cells.1
  have HLN : Hid (∀ W, Below w.heap.size w W → (Builtin.len_ #[97] 3 #[.map (some mI)]).run Tryz.prog W = .ok (.int .i64 g.n.length) W) := Lib.hid fun W hW => (h.below hW).run_len _
  have HU : Hid (g.get id = none → ∀ W, Below w.heap.size w W → ∃ w', (Instr.mapUpdate 97 (.map (some mI)) (.agg #[.int .i64 id.t, .int .i64 id.r]) (.agg #[.int .i64 id.t, .int .i64 id.r, .int .i64 kind, .int .i64 0, .int .i64 0, .string ⟨#[]⟩])).run Tryz.prog W = .ok () w' ∧ GrAt w' gb mI mE (g.made id kind) ∧ Turn (· = mI) W w') := Lib.hid fun hs W hW => (h.below hW).run_new_node hs ⟨id, kind, 0, 0, ⟨#[]⟩⟩ rfl
  have hlt := h.lt.1
  obtain ⟨c0, c1⟩ := h.cells
  have hcase : (∃ t, t ≠ 0 ∧ g.makeWhy id kind = t) ∨ g.makeWhy id kind = 0 := by
    by_cases h : g.makeWhy id kind = 0
    · exact .inr h
    · exact .inl ⟨_, h, rfl⟩
  have hln : (g.n.length : Int) ≤ 40 := by have := hok.len; omega
  clear h hok c1
  have hdw : g.makeWhy id kind = if !mayB id.t id.r || (decide (kind < 1) || decide (3 < kind)) then 1 else if (g.get id).isSome then 4 else if 40 ≤ g.n.length then 13 else 0 := rfl
  have hmk : g.make id kind = if g.makeWhy id kind = 0 then g.made id kind else g := rfl
  generalize hgi : g.got id = i at HG
  generalize hgl : g.n.length = n at HLN hdw hln
  obtain ⟨d, k, l, m, s⟩ := i
  unfold Ino.v at HG
  unfold St.v
  clear hgi hgl
  have h5 : (∃ t, g.makeWhy id kind = t ∧ t ≠ 0 ∧ ((mayB id.t id.r = false ∧ t = 1) ∨ (mayB id.t id.r = true ∧ kind < 1 ∧ t = 1) ∨ (mayB id.t id.r = true ∧ 1 ≤ kind ∧ 3 < kind ∧ t = 1) ∨ (mayB id.t id.r = true ∧ 1 ≤ kind ∧ kind ≤ 3 ∧ (g.get id).isSome = true ∧ t = 4) ∨ (mayB id.t id.r = true ∧ 1 ≤ kind ∧ kind ≤ 3 ∧ (g.get id).isSome = false ∧ (40 : Int) ≤ n ∧ t = 13))) ∨
      (g.makeWhy id kind = 0 ∧ mayB id.t id.r = true ∧ 1 ≤ kind ∧ kind ≤ 3 ∧ (g.get id).isSome = false ∧ ¬ (40 : Int) ≤ n) := by
    rw [hdw]
    cases hm : mayB id.t id.r with
    | false => exact .inl ⟨1, by simp, by decide, .inl ⟨rfl, rfl⟩⟩
    | true =>
      by_cases h1 : kind < 1
      · exact .inl ⟨1, by simp [h1], by decide, .inr (.inl ⟨rfl, h1, rfl⟩)⟩
      · by_cases h3 : 3 < kind
        · exact .inl ⟨1, by simp [h3], by decide, .inr (.inr (.inl ⟨rfl, by omega, h3, rfl⟩))⟩
        · cases hs : (g.get id).isSome with
          | true => exact .inl ⟨4, by simp [h1, h3], by decide, .inr (.inr (.inr (.inl ⟨rfl, by omega, by omega, rfl, rfl⟩)))⟩
          | false =>
            by_cases hn : 40 ≤ n
            · exact .inl ⟨13, by simp [h1, h3, hn], by decide, .inr (.inr (.inr (.inr ⟨rfl, by omega, by omega, rfl, by omega, rfl⟩)))⟩
            · exact .inr ⟨by simp [h1, h3, hn], rfl, by omega, by omega, rfl, by omega⟩
  clear hdw hcase
  rcases h5 with ⟨t, e, ht, h5⟩ | ⟨e, hm, h1, h3, hs, hn⟩
  · rw [if_neg (by rw [e]; exact ht)] at hmk
    rw [hmk, e]
    clear hmk e ht HU
    generalize hs : (g.get id).isSome = b at HG h5
    clear hs
    generalize hmm : mayB id.t id.r = mb at HM h5
    clear hmm
    rcases h5 with ⟨rfl, rfl⟩ | ⟨rfl, h1, rfl⟩ | ⟨rfl, h1, h3, rfl⟩ | ⟨rfl, h1, h3, rfl, rfl⟩ | ⟨rfl, h1, h3, rfl, hn, rfl⟩
    all_goals
      go_enter Tryz.func115, Tryz.ntmps115
      go_wp2_with fail
      refine (HG.out _ (by first | exact HB0.out | exact HB0.out.alloc HB0.out.size _ | exact (HB0.out.alloc HB0.out.size _).alloc (le_al HB0.out.size) _ | exact ((HB0.out.alloc HB0.out.size _).alloc (le_al HB0.out.size) _).alloc (le_al (le_al HB0.out.size)) _)).mono ?_
      rintro e w1 ⟨rfl, hb1⟩
      obtain ⟨hc1, hf1⟩ := bcell hb1
      have hs1 := hb1.size
      try simp only [World.size_alloc] at hs1
      try simp only [size_setCell'] at hs1
      try have le1_0 : w.heap.size ≤ w1.heap.size := (by omega)
      try have lt1_0 : w.heap.size < w1.heap.size := (by omega)
      have HB1 : Hid (Below w.heap.size w w1) := Lib.hid (Below.trans (by first | exact HB0.out | exact HB0.out.alloc HB0.out.size _ | exact (HB0.out.alloc HB0.out.size _).alloc (le_al HB0.out.size) _ | exact ((HB0.out.alloc HB0.out.size _).alloc (le_al HB0.out.size) _).alloc (le_al (le_al HB0.out.size)) _) (hb1.mono (by (try simp only [World.size_alloc]); (try simp only [size_setCell']); omega)))
      have HN1 := Lib.hid hb1
      clear hb1 hs1
      go_wp2_with fail
      refine (HM.out _).mono ?_
      rintro e w2 ⟨rfl, hb2⟩
      obtain ⟨hc2, hf2⟩ := bcell hb2
      have hs2 := hb2.size
      try simp only [World.size_alloc] at hs2
      try simp only [size_setCell'] at hs2
      try have le2_0 : w.heap.size ≤ w2.heap.size := (by omega)
      try have lt2_0 : w.heap.size < w2.heap.size := (by omega)
      try have le2_1 : w1.heap.size ≤ w2.heap.size := (by omega)
      try have lt2_1 : w1.heap.size < w2.heap.size := (by omega)
      have HB2 : Hid (Below w.heap.size w w2) := Lib.hid (Below.trans (by first | exact HB1.out | exact HB1.out.alloc HB1.out.size _ | exact (HB1.out.alloc HB1.out.size _).alloc (le_al HB1.out.size) _ | exact ((HB1.out.alloc HB1.out.size _).alloc (le_al HB1.out.size) _).alloc (le_al (le_al HB1.out.size)) _ | exact HB0.out | exact HB0.out.alloc HB0.out.size _ | exact (HB0.out.alloc HB0.out.size _).alloc (le_al HB0.out.size) _ | exact ((HB0.out.alloc HB0.out.size _).alloc (le_al HB0.out.size) _).alloc (le_al (le_al HB0.out.size)) _) (hb2.mono (by (try simp only [World.size_alloc]); (try simp only [size_setCell']); omega)))
      have HN2 := Lib.hid hb2
      clear hb2 hs2
      have cg := HCE.out w2 HB2.out
      have hll := HLN.out w2 HB2.out
      go_wp2
      go_ret
      exact ⟨rfl, HGA.out _ (by first | exact HB2.out | exact HB2.out.alloc HB2.out.size _ | exact (HB2.out.alloc HB2.out.size _).alloc (le_al HB2.out.size) _ | exact ((HB2.out.alloc HB2.out.size _).alloc (le_al HB2.out.size) _).alloc (le_al (le_al HB2.out.size)) _)⟩
  · rw [if_pos e] at hmk
    rw [hmk, e]
    have HU2 := Lib.hid (HU.out (by simpa using hs))
    clear hmk e HU
    rw [hs] at HG
    rw [hm] at HM
    clear hs hm
    go_enter Tryz.func115, Tryz.ntmps115
    go_wp2_with fail
    refine (HG.out _ (by first | exact HB0.out | exact HB0.out.alloc HB0.out.size _ | exact (HB0.out.alloc HB0.out.size _).alloc (le_al HB0.out.size) _ | exact ((HB0.out.alloc HB0.out.size _).alloc (le_al HB0.out.size) _).alloc (le_al (le_al HB0.out.size)) _)).mono ?_
    rintro e w1 ⟨rfl, hb1⟩
    obtain ⟨hc1, hf1⟩ := bcell hb1
    have hs1 := hb1.size
    try simp only [World.size_alloc] at hs1
    try simp only [size_setCell'] at hs1
    try have le1_0 : w.heap.size ≤ w1.heap.size := (by omega)
    try have lt1_0 : w.heap.size < w1.heap.size := (by omega)
    have HB1 : Hid (Below w.heap.size w w1) := Lib.hid (Below.trans (by first | exact HB0.out | exact HB0.out.alloc HB0.out.size _ | exact (HB0.out.alloc HB0.out.size _).alloc (le_al HB0.out.size) _ | exact ((HB0.out.alloc HB0.out.size _).alloc (le_al HB0.out.size) _).alloc (le_al (le_al HB0.out.size)) _) (hb1.mono (by (try simp only [World.size_alloc]); (try simp only [size_setCell']); omega)))
    have HN1 := Lib.hid hb1
    clear hb1 hs1
    go_wp2_with fail
    refine (HM.out _).mono ?_
    rintro e w2 ⟨rfl, hb2⟩
    obtain ⟨hc2, hf2⟩ := bcell hb2
    have hs2 := hb2.size
    try simp only [World.size_alloc] at hs2
    try simp only [size_setCell'] at hs2
    try have le2_0 : w.heap.size ≤ w2.heap.size := (by omega)
    try have lt2_0 : w.heap.size < w2.heap.size := (by omega)
    try have le2_1 : w1.heap.size ≤ w2.heap.size := (by omega)
    try have lt2_1 : w1.heap.size < w2.heap.size := (by omega)
    have HB2 : Hid (Below w.heap.size w w2) := Lib.hid (Below.trans (by first | exact HB1.out | exact HB1.out.alloc HB1.out.size _ | exact (HB1.out.alloc HB1.out.size _).alloc (le_al HB1.out.size) _ | exact ((HB1.out.alloc HB1.out.size _).alloc (le_al HB1.out.size) _).alloc (le_al (le_al HB1.out.size)) _ | exact HB0.out | exact HB0.out.alloc HB0.out.size _ | exact (HB0.out.alloc HB0.out.size _).alloc (le_al HB0.out.size) _ | exact ((HB0.out.alloc HB0.out.size _).alloc (le_al HB0.out.size) _).alloc (le_al (le_al HB0.out.size)) _) (hb2.mono (by (try simp only [World.size_alloc]); (try simp only [size_setCell']); omega)))
    have HN2 := Lib.hid hb2
    clear hb2 hs2
    have cg := HCE.out w2 HB2.out
    have hll := HLN.out w2 HB2.out
    obtain ⟨w3, hu, hG3, hT3⟩ := HU2.out w2.drew HB2.out.drew
    have HG3 := Lib.hid hG3
    have HT3 : Hid (Turn (Maps2 mI mE) w w3) := Lib.hid ((HB2.out.drew.turn _).trans hT3.I)
    have hgl1 : gb < w1.heap.size := by omega
    have hgl2 : gb ≤ w1.heap.size := by omega
    clear hG3 hT3
    go_wp2
    go_region
    all_goals
      go_wp2
      go_ret
      exact ⟨rfl, HG3.out, HT3.out⟩
end Go.Proofs.YtfbjiaedfmdcfaaGreatDoor
