/-
  graph.Tie, Untie, Drop, Set, Make; condition: the graph is in order.
-/
import Derived.Test.YtlokljaeknmdpaaGreatQGrMut
namespace Go.Proofs.YtlokljaeknmdpaaGreat
open Go.RowKit Go.Shelf

theorem _root_.Go.RowKit.Below.turn {w w' : World} (h : Below w.heap.size w w') (S : Nat → Prop) : Turn S w w' := ⟨h.os, h.tape, h.output, h.size, fun k hk _ => h.block k hk, fun _ ha => h.cell ha, fun _ ha => h.frozen ha⟩
theorem tcell {S : Nat → Prop} {W w1 : World} (hb : Turn S W w1) : (∀ b o, b < W.heap.size → w1.cell? ⟨b, o, none⟩ = W.cell? ⟨b, o, none⟩) ∧ (∀ b o, b < W.heap.size → w1.frozen? ⟨b, o, none⟩ = W.frozen? ⟨b, o, none⟩) :=
  ⟨fun b o h => hb.cell ⟨b, o, none⟩ h, fun b o h => hb.frozen ⟨b, o, none⟩ h⟩

/-- the two maps of a graph -/
def Maps2 (mI mE k : Nat) : Prop := k = mI ∨ k = mE
theorem Turn.I {mI mE : Nat} {w w' : World} (h : Turn (· = mI) w w') : Turn (Maps2 mI mE) w w' := h.more fun _ => .inl
theorem Turn.E {mI mE : Nat} {w w' : World} (h : Turn (· = mE) w w') : Turn (Maps2 mI mE) w w' := h.more fun _ => .inr

theorem Gr.Ok.got_small {g : Gr} (h : g.Ok) (id : St) : 0 ≤ (g.got id).links ∧ (g.got id).links ≤ 6 := by
  unfold Gr.got
  cases hg : g.get id with
  | none => decide
  | some i =>
    have h1 := (Gr.get_some hg).1
    have h2 := h.links i h1
    have h3 := h.most i h1
    simp only [Option.getD_some]
    omega

set_option maxRecDepth 100000 in
set_option maxHeartbeats 1000000 in
theorem tie_g (gb mI mE : Nat) (g : Gr) (x : Ent) (w : World) (h : GrAt w gb mI mE g) (hok : g.Ok) (hl : g.e.length ≤ 1000) (hx : x.name.size ≤ maxLen) :
    Calls Tryz.prog 20 #[.pointer (some ⟨gb, 0, none⟩), x.v] w fun e w' => e = .returned (.int .i64 (g.tieWhy x)) ∧ GrAt w' gb mI mE (g.tie x) ∧ Turn (Maps2 mI mE) w w' := by
  have hb0 : Below w.heap.size w (w.alloc (.cells #[.int .i64 x.at_.t, .int .i64 x.at_.r, .string x.name, .int .i64 x.ino.t, .int .i64 x.ino.r] 34)) := (Below.refl _ w).alloc (Nat.le_refl _) _
  have HW := Lib.hid (tie_why gb mI mE g x _ (h.below hb0) hok hl hx)
  have hlt := h.lt.1
  unfold Gr.tie
  unfold Ent.v at HW ⊢
  by_cases h0 : g.tieWhy x = 0
  · rw [if_pos h0]
    rw [h0] at HW ⊢
    obtain ⟨_, _, hsome, hlook, _, _⟩ := Gr.tieWhy_zero h0
    have HM : Hid (∀ W, Below w.heap.size w W → ∃ w', (Instr.mapUpdate 90 (.map (some mE)) (.agg #[.int .i64 x.at_.t, .int .i64 x.at_.r, .string x.name]) (.agg #[.int .i64 x.ino.t, .int .i64 x.ino.r])).run Tryz.prog W = .ok () w' ∧ GrAt w' gb mI mE ⟨g.n, putIn Ent.pl ltPl x g.e⟩ ∧ Turn (· = mE) W w') := Lib.hid fun W hW => (h.below hW).run_new_ent hlook
    have HC : Hid (∀ W, GrAt W gb mI mE ⟨g.n, putIn Ent.pl ltPl x g.e⟩ → Calls Tryz.prog 64 #[.pointer (some ⟨gb, 0, none⟩), (.agg #[.int .i64 x.ino.t, .int .i64 x.ino.r]), .int .i64 1] W fun e w' => e = .returned (.tuple #[]) ∧ GrAt w' gb mI mE (g.tied x) ∧ Turn (· = mI) W w') := Lib.hid fun W hW => by
      have hs := hok.got_small x.ino
      exact count_g gb mI mE ⟨g.n, putIn Ent.pl ltPl x g.e⟩ x.ino 1 W hW hok.sn hsome (by show -100 ≤ (g.got x.ino).links; omega) (by show (g.got x.ino).links ≤ 100; omega) (by omega) (by omega)
    obtain ⟨c0, c1⟩ := h.cells
    have HB0 := Lib.hid hb0
    clear h hok hsome hlook h0 hb0 c0
    go_enter Tryz.func20, Tryz.ntmps20
    go_wp2_with fail
    refine (HW.out).mono ?_
    rintro e w1 ⟨rfl, hb⟩
    obtain ⟨hc1, hf1⟩ := bcell hb
    have hs1 := hb.size
    simp only [World.size_alloc] at hs1
    have hz1 : w.heap.size < w1.heap.size := by omega
    have hgl : gb < w.heap.size + 1 := by omega
    have HB1 := Lib.hid (HB0.out.trans (hb.mono HB0.out.size))
    obtain ⟨w2, hu, hG, hT⟩ := HM.out w1.drew HB1.out.drew
    have hc2 : ∀ b o, b < w1.heap.size → w2.cell? ⟨b, o, none⟩ = w1.cell? ⟨b, o, none⟩ := (tcell hT).1
    have hs2 : w1.heap.size ≤ w2.heap.size := hT.size
    have HG2 := Lib.hid hG
    have HT2 : Hid (Turn (Maps2 mI mE) w w2) := Lib.hid ((HB1.out.drew.turn _).trans hT.E)
    clear hG hT hb
    go_wp2_with fail
    go_region
    all_goals
      go_wp2_with (go_at_call 64; refine (HC.out _ HG2.out).mono ?_; rintro e w3 ⟨rfl, hG, hT⟩)
      go_ret
      exact ⟨rfl, hG, HT2.out.trans hT.I⟩
  · rw [if_neg h0]
    have h1 : (g.tieWhy x != 0) = true := by simpa using h0
    have HG := Lib.hid h
    clear h0 h hok
    generalize g.tieWhy x = t at HW h1 ⊢
    go_enter Tryz.func20, Tryz.ntmps20
    go_wp2_with (go_at_call 63; refine (HW.out).mono ?_; rintro e w1 ⟨rfl, hb⟩)
    go_ret
    have hB := hb0.trans (hb.mono hb0.size)
    exact ⟨rfl, HG.out.below hB, hB.turn _⟩

theorem Turn.setCell {S : Nat → Prop} {w w' : World} (h : Turn S w w') {p : Addr} (hp : w.heap.size ≤ p.block) (v : Value) : Turn S w (w'.setCell p v) := by
  refine ⟨h.os, h.tape, h.output, by rw [size_setCell']; exact h.size, fun k hk hs => (heap_setCell_other _ p k v (by omega)).trans (h.block k hk hs), fun a ha => ?_, fun a ha => ?_⟩
  · have e : (w'.setCell p v).heap[a.block]? = w'.heap[a.block]? := heap_setCell_other _ p a.block v (by omega)
    rw [← h.cell a ha]
    unfold World.cell?
    rw [e]
  · have e : (w'.setCell p v).heap[a.block]? = w'.heap[a.block]? := heap_setCell_other _ p a.block v (by omega)
    rw [← h.frozen a ha]
    unfold World.frozen?
    rw [e]
theorem GrAt.setCell {w : World} {gb mI mE : Nat} {g : Gr} (h : GrAt w gb mI mE g) {p : Addr} (h1 : gb ≠ p.block) (h2 : mI ≠ p.block) (h3 : mE ≠ p.block) (v : Value) : GrAt (w.setCell p v) gb mI mE g :=
  h.kept (heap_setCell_other _ p _ v h1) (heap_setCell_other _ p _ v h2) (heap_setCell_other _ p _ v h3)
theorem set2_turn {S : Nat → Prop} {w w' : World} {k : Nat} (h : Turn S w w') (hp : w.heap.size ≤ k) (v0 v1 : Value) : Turn S w ((w'.setCell ⟨k, 0, none⟩ v0).setCell ⟨k, 1, none⟩ v1) :=
  (h.setCell (p := ⟨k, 0, none⟩) hp v0).setCell (p := ⟨k, 1, none⟩) hp v1
theorem set2_gr {w : World} {gb mI mE k : Nat} {g : Gr} (h : GrAt w gb mI mE g) (h1 : gb ≠ k) (h2 : mI ≠ k) (h3 : mE ≠ k) (v0 v1 : Value) : GrAt ((w.setCell ⟨k, 0, none⟩ v0).setCell ⟨k, 1, none⟩ v1) gb mI mE g :=
  (h.setCell (p := ⟨k, 0, none⟩) h1 h2 h3 v0).setCell (p := ⟨k, 1, none⟩) h1 h2 h3 v1

set_option maxRecDepth 100000 in
set_option maxHeartbeats 1000000 in
theorem untie_g (gb mI mE : Nat) (g : Gr) (p : Pl) (w : World) (h : GrAt w gb mI mE g) (hok : g.Ok) :
    Calls Tryz.prog 82 #[.pointer (some ⟨gb, 0, none⟩), p.at_.v, .string p.name] w fun e w' => e = .returned (.tuple #[((g.look p).getD ⟨0, 0⟩).v, .int .i64 (g.untieWhy p)]) ∧ GrAt w' gb mI mE (g.untie p) ∧ Turn (Maps2 mI mE) w w' := by
  have hb0 : Below w.heap.size w ((w.alloc (.cells #[.int .i64 p.at_.t, .int .i64 p.at_.r] 31)).alloc (.cells #[.int .i64 0, .int .i64 0] 31)) := ((Below.refl _ w).alloc (Nat.le_refl _) _).alloc (by simp) _
  have HL := Lib.hid (look_any gb mI mE g p _ (h.below hb0) hok.se)
  obtain ⟨hlt, hmI, hmE⟩ := h.lt
  unfold Gr.untie Gr.untieWhy
  unfold St.v at HL ⊢
  cases hlook : g.look p with
  | none =>
    rw [hlook] at HL
    have HG := Lib.hid h
    clear h hok hlook
    go_enter Tryz.func82, Tryz.ntmps82
    go_wp2_with (go_at_call 92; refine (HL.out).mono ?_; rintro e w1 ⟨rfl, hN⟩; obtain ⟨hc1, hf1⟩ := bnew hN; have hs1 := hN.size; simp only [World.size_alloc] at hs1; have hz1 : w.heap.size + 1 < w1.heap.size := (by omega); have HB := Lib.hid (hb0.trans (hN.below.mono hb0.size)); clear hN)
    have hB2 : Below w.heap.size w (w1.alloc (.cells #[.int .i64 0, .int .i64 0] 31)) := HB.out.alloc HB.out.size _
    refine bodyPost_ret (v := .tuple #[(.agg #[.int .i64 0, .int .i64 0]), .int .i64 3]) (by simp [results, Tryz.results82, go_sem, hc1, hz1]) rfl ⟨rfl, ?_, ?_⟩
    · exact (set2_gr (HG.out.below HB.out) (by omega) (by omega) (by omega) _ _).new (New.alloc' _ _)
    · exact (set2_turn (HB.out.turn _) (Nat.le_succ _) _ _).trans ((New.alloc' _ _).turn _)
  | some id =>
    rw [hlook] at HL
    have HM : Hid (∀ W, Below w.heap.size w W → ∃ w', (Builtin.delete_ #[90, 94] 0 #[.map (some mE), (.agg #[.int .i64 p.at_.t, .int .i64 p.at_.r, .string p.name])]).run Tryz.prog W = .ok (.tuple #[]) w' ∧ GrAt w' gb mI mE ⟨g.n, g.e.filter fun x => decide (x.pl ≠ p)⟩ ∧ Turn (· = mE) W w') := Lib.hid fun W hW => (h.below hW).run_del_ent hok.se p 0 _
    have HC : Hid (∀ W, GrAt W gb mI mE ⟨g.n, g.e.filter fun x => decide (x.pl ≠ p)⟩ → Calls Tryz.prog 64 #[.pointer (some ⟨gb, 0, none⟩), (.agg #[.int .i64 id.t, .int .i64 id.r]), .int .i64 (-1)] W fun e w' => e = .returned (.tuple #[]) ∧ GrAt w' gb mI mE (g.untied p id) ∧ Turn (· = mI) W w') := Lib.hid fun W hW => by
      have hs := hok.got_small id
      have hsome : (g.get id).isSome = true := by
        obtain ⟨x, hx, _, rfl⟩ := Gr.look_some hlook
        exact (hok.ends x hx).2.1
      exact count_g gb mI mE ⟨g.n, g.e.filter fun x => decide (x.pl ≠ p)⟩ id (-1) W hW hok.sn hsome (by show -100 ≤ (g.got id).links; omega) (by show (g.got id).links ≤ 100; omega) (by omega) (by omega)
    obtain ⟨c0, c1⟩ := h.cells
    have HB0 := Lib.hid hb0
    clear h hok hlook hb0 c0
    obtain ⟨at_, name⟩ := p
    simp only at *
    go_enter Tryz.func82, Tryz.ntmps82
    go_wp2_with fail
    refine (HL.out).mono ?_
    rintro e w1 ⟨rfl, hN⟩
    obtain ⟨hc1, hf1⟩ := bnew hN
    have hs1 := hN.size
    simp only [World.size_alloc] at hs1
    have hz1 : w.heap.size + 1 < w1.heap.size := by omega
    have hz0 : w.heap.size < w1.heap.size := by omega
    have hgl : gb < w.heap.size + 1 + 1 := by omega
    have hgl1 : gb < w1.heap.size := by omega
    have HB1 := Lib.hid (HB0.out.trans (hN.below.mono HB0.out.size))
    have hB2 : Below w.heap.size w (w1.alloc (.cells #[.int .i64 id.t, .int .i64 id.r] 31)).drew := (HB1.out.alloc HB1.out.size _).drew
    obtain ⟨w2, hu, hG, hT⟩ := HM.out _ hB2
    have hc2 : ∀ b o, b < w1.heap.size + 1 → w2.cell? ⟨b, o, none⟩ = (w1.alloc (.cells #[.int .i64 id.t, .int .i64 id.r] 31)).cell? ⟨b, o, none⟩ := fun b o h => (tcell hT).1 b o (by show b < (w1.alloc _).heap.size; simp only [World.size_alloc]; exact h)
    have hf2 : ∀ b o, b < w1.heap.size + 1 → w2.frozen? ⟨b, o, none⟩ = (w1.alloc (.cells #[.int .i64 id.t, .int .i64 id.r] 31)).frozen? ⟨b, o, none⟩ := fun b o h => (tcell hT).2 b o (by show b < (w1.alloc _).heap.size; simp only [World.size_alloc]; exact h)
    have hs2 : w1.heap.size + 1 ≤ w2.heap.size := by have := hT.size; have e : (w1.alloc (.cells #[.int .i64 id.t, .int .i64 id.r] 31)).drew.heap.size = w1.heap.size + 1 := by show (w1.alloc _).heap.size = _; simp only [World.size_alloc]
                                                     omega
    have HG2 := Lib.hid hG
    have HT2 : Hid (Turn (Maps2 mI mE) w w2) := Lib.hid ((hB2.turn _).trans hT.E)
    clear hG hT hN hB2
    go_wp2_with fail
    go_region
    all_goals
      go_wp2_with (go_at_call 64; refine (HC.out _ HG2.out).mono ?_; rintro e w3 ⟨rfl, hG, hT⟩; have hc3 : ∀ b o, b < w2.heap.size → w3.cell? ⟨b, o, none⟩ = w2.cell? ⟨b, o, none⟩ := (tcell hT).1; have hf3 : ∀ b o, b < w2.heap.size → w3.frozen? ⟨b, o, none⟩ = w2.frozen? ⟨b, o, none⟩ := (tcell hT).2; have hz2 : w1.heap.size < w2.heap.size := (by omega); have hz3 : w.heap.size + 1 < w2.heap.size := (by omega); have HT3 := Lib.hid (HT2.out.trans hT.I); have HG3 := Lib.hid hG; clear hG hT)
      have r0 : w3.cell? ⟨w.heap.size + 1, 0, none⟩ = some (.int .i64 0) := (hc3 _ _ hz3).trans ((hc2 _ _ (by omega)).trans ((World.cell?_alloc_lt w1 _ ⟨w.heap.size + 1, 0, none⟩ hz1).trans ((hc1 _ _ (by simp)).trans (cell_new (w.alloc (.cells #[.int .i64 at_.t, .int .i64 at_.r] 31)) _ (by simp) _ _ 0 _ rfl))))
      have r1 : w3.cell? ⟨w.heap.size + 1, 1, none⟩ = some (.int .i64 0) := (hc3 _ _ hz3).trans ((hc2 _ _ (by omega)).trans ((World.cell?_alloc_lt w1 _ ⟨w.heap.size + 1, 1, none⟩ hz1).trans ((hc1 _ _ (by simp)).trans (cell_new (w.alloc (.cells #[.int .i64 at_.t, .int .i64 at_.r] 31)) _ (by simp) _ _ 1 _ rfl))))
      refine bodyPost_ret (v := .tuple #[(.agg #[.int .i64 id.t, .int .i64 id.r]), .int .i64 0]) (by simp [results, Tryz.results82, go_sem, r0, r1]) rfl ⟨rfl, ?_, ?_⟩
      · exact set2_gr HG3.out (by omega) (by omega) (by omega) _ _
      · exact set2_turn HT3.out (Nat.le_succ _) _ _
end Go.Proofs.YtlokljaeknmdpaaGreat
