/-
  apply's deeds: gone, rename; condition: the graph is in order.
-/
import Derived.Test.YtlokljaeknmdpaaGreatQApB
import Derived.Test.YtlokljaeknmdpaaGreatKExt
import Derived.Test.YtlokljaeknmdpaaGreatKDeed
namespace Go.Proofs.YtlokljaeknmdpaaGreat
open Go.RowKit Go.Shelf Go.Proofs

theorem gone_eq {g : Gr} (_ : g.Ok) (p : Pl) : (if ((g.untie p).got ((g.look p).getD ⟨0, 0⟩)).links = 0 then (g.untie p).drop ((g.look p).getD ⟨0, 0⟩) else g.untie p) = g.gone p := by
  unfold Gr.gone
  cases hl : g.look p with
  | some id => rfl
  | none =>
    have hu : g.untie p = g := by unfold Gr.untie; rw [hl]
    rw [hu]
    simp only [Option.getD_none]
    split
    · unfold Gr.drop
      rw [if_neg]
      unfold Gr.dropWhy
      split
      · decide
      · simp
    · rfl
/-- a job's box, in worlds in which only maps turned -/
theorem jboxT {S : Nat → Prop} {w V W : World} {gb : Nat} {o : Op} (h : (fun W : World => W.cell? ⟨w.heap.size, 0, none⟩ = some (.pointer (some ⟨gb, 0, none⟩)) ∧ W.cell? ⟨w.heap.size, 1, none⟩ = some (.int .i64 o.stamp.t) ∧ W.cell? ⟨w.heap.size, 2, none⟩ = some (.int .i64 o.stamp.r) ∧ W.cell? ⟨w.heap.size, 3, none⟩ = some (.int .i64 o.kind) ∧ W.cell? ⟨w.heap.size, 4, none⟩ = some (.int .i64 o.at_.t) ∧ W.cell? ⟨w.heap.size, 5, none⟩ = some (.int .i64 o.at_.r) ∧ W.cell? ⟨w.heap.size, 6, none⟩ = some (.int .i64 o.ino.t) ∧ W.cell? ⟨w.heap.size, 7, none⟩ = some (.int .i64 o.ino.r) ∧ W.cell? ⟨w.heap.size, 8, none⟩ = some (.int .i64 o.to.t) ∧ W.cell? ⟨w.heap.size, 9, none⟩ = some (.int .i64 o.to.r) ∧ W.cell? ⟨w.heap.size, 10, none⟩ = some (.string o.name) ∧ W.cell? ⟨w.heap.size, 11, none⟩ = some (.string o.new) ∧ W.cell? ⟨w.heap.size, 12, none⟩ = some (.int .i64 o.off) ∧ W.cell? ⟨w.heap.size, 13, none⟩ = some (.string o.data)) V) (hz : w.heap.size < V.heap.size) (hT : Turn S V W) : (fun W : World => W.cell? ⟨w.heap.size, 0, none⟩ = some (.pointer (some ⟨gb, 0, none⟩)) ∧ W.cell? ⟨w.heap.size, 1, none⟩ = some (.int .i64 o.stamp.t) ∧ W.cell? ⟨w.heap.size, 2, none⟩ = some (.int .i64 o.stamp.r) ∧ W.cell? ⟨w.heap.size, 3, none⟩ = some (.int .i64 o.kind) ∧ W.cell? ⟨w.heap.size, 4, none⟩ = some (.int .i64 o.at_.t) ∧ W.cell? ⟨w.heap.size, 5, none⟩ = some (.int .i64 o.at_.r) ∧ W.cell? ⟨w.heap.size, 6, none⟩ = some (.int .i64 o.ino.t) ∧ W.cell? ⟨w.heap.size, 7, none⟩ = some (.int .i64 o.ino.r) ∧ W.cell? ⟨w.heap.size, 8, none⟩ = some (.int .i64 o.to.t) ∧ W.cell? ⟨w.heap.size, 9, none⟩ = some (.int .i64 o.to.r) ∧ W.cell? ⟨w.heap.size, 10, none⟩ = some (.string o.name) ∧ W.cell? ⟨w.heap.size, 11, none⟩ = some (.string o.new) ∧ W.cell? ⟨w.heap.size, 12, none⟩ = some (.int .i64 o.off) ∧ W.cell? ⟨w.heap.size, 13, none⟩ = some (.string o.data)) W ∧ w.heap.size < W.heap.size := by
  have e : ∀ i v, V.cell? ⟨w.heap.size, i, none⟩ = some v → W.cell? ⟨w.heap.size, i, none⟩ = some v := fun i v h => (hT.cell ⟨w.heap.size, i, none⟩ hz).trans h
  obtain ⟨a, b, c, d, e1, f, g, h, i, j, k, l, m, n⟩ := h
  exact ⟨⟨e _ _ a, e _ _ b, e _ _ c, e _ _ d, e _ _ e1, e _ _ f, e _ _ g, e _ _ h, e _ _ i, e _ _ j, e _ _ k, e _ _ l, e _ _ m, e _ _ n⟩, Nat.lt_of_lt_of_le hz hT.size⟩
theorem st_box {w W : World} {x : St} {S : Nat → Prop} (hT : Turn S (w.alloc (.cells #[.int .i64 x.t, .int .i64 x.r] 31)) W) : W.cell? ⟨w.heap.size, 0, none⟩ = some (.int .i64 x.t) ∧ W.cell? ⟨w.heap.size, 1, none⟩ = some (.int .i64 x.r) ∧ w.heap.size < W.heap.size :=
  ⟨(hT.cell ⟨w.heap.size, 0, none⟩ (by simp)).trans (cell_new w _ rfl _ _ 0 _ rfl), (hT.cell ⟨w.heap.size, 1, none⟩ (by simp)).trans (cell_new w _ rfl _ _ 1 _ rfl), by have := hT.size; simp at this; omega⟩

set_option maxRecDepth 100000 in
set_option maxHeartbeats 2000000 in
theorem gone_any (gb mI mE : Nat) (g : Gr) (o : Op) (p : Pl) (w : World) (h : GrAt w gb mI mE g) (hok : g.Ok) :
    Calls Tryz.prog 150 #[(.agg #[.pointer (some ⟨gb, 0, none⟩), .int .i64 o.stamp.t, .int .i64 o.stamp.r, .int .i64 o.kind, .int .i64 o.at_.t, .int .i64 o.at_.r, .int .i64 o.ino.t, .int .i64 o.ino.r, .int .i64 o.to.t, .int .i64 o.to.r, .string o.name, .string o.new, .int .i64 o.off, .string o.data]), (.agg #[.int .i64 p.at_.t, .int .i64 p.at_.r]), .string p.name] w fun e w' => e = .returned (.tuple #[]) ∧ GrAt w' gb mI mE (g.gone p) ∧ Turn (Maps2 mI mE) w w' := by
  have HE := Lib.hid (gone_eq hok p)
  obtain ⟨W0, hW0⟩ : ∃ W0, W0 = (w.alloc (.cells #[.pointer (some ⟨gb, 0, none⟩), .int .i64 o.stamp.t, .int .i64 o.stamp.r, .int .i64 o.kind, .int .i64 o.at_.t, .int .i64 o.at_.r, .int .i64 o.ino.t, .int .i64 o.ino.r, .int .i64 o.to.t, .int .i64 o.to.r, .string o.name, .string o.new, .int .i64 o.off, .string o.data] 130)).alloc (.cells #[.int .i64 p.at_.t, .int .i64 p.at_.r] 31) := ⟨_, rfl⟩
  have hN : New w W0 := by rw [hW0]; exact (New.alloc' w _).alloc _
  have hz : w.heap.size < W0.heap.size := by rw [hW0]; simp only [World.size_alloc]; omega
  have hS0 : (fun W : World => W.cell? ⟨w.heap.size, 0, none⟩ = some (.pointer (some ⟨gb, 0, none⟩)) ∧ W.cell? ⟨w.heap.size, 1, none⟩ = some (.int .i64 o.stamp.t) ∧ W.cell? ⟨w.heap.size, 2, none⟩ = some (.int .i64 o.stamp.r) ∧ W.cell? ⟨w.heap.size, 3, none⟩ = some (.int .i64 o.kind) ∧ W.cell? ⟨w.heap.size, 4, none⟩ = some (.int .i64 o.at_.t) ∧ W.cell? ⟨w.heap.size, 5, none⟩ = some (.int .i64 o.at_.r) ∧ W.cell? ⟨w.heap.size, 6, none⟩ = some (.int .i64 o.ino.t) ∧ W.cell? ⟨w.heap.size, 7, none⟩ = some (.int .i64 o.ino.r) ∧ W.cell? ⟨w.heap.size, 8, none⟩ = some (.int .i64 o.to.t) ∧ W.cell? ⟨w.heap.size, 9, none⟩ = some (.int .i64 o.to.r) ∧ W.cell? ⟨w.heap.size, 10, none⟩ = some (.string o.name) ∧ W.cell? ⟨w.heap.size, 11, none⟩ = some (.string o.new) ∧ W.cell? ⟨w.heap.size, 12, none⟩ = some (.int .i64 o.off) ∧ W.cell? ⟨w.heap.size, 13, none⟩ = some (.string o.data)) W0 := jbox (by rw [hW0]; exact (Below.refl _ _).alloc (Nat.le_refl _) _)
  have hA0 := st_box (w := w.alloc (.cells #[.pointer (some ⟨gb, 0, none⟩), .int .i64 o.stamp.t, .int .i64 o.stamp.r, .int .i64 o.kind, .int .i64 o.at_.t, .int .i64 o.at_.r, .int .i64 o.ino.t, .int .i64 o.ino.r, .int .i64 o.to.t, .int .i64 o.to.r, .string o.name, .string o.new, .int .i64 o.off, .string o.data] 130)) (x := p.at_) (W := W0) (S := Maps2 mI mE) (by rw [hW0]; exact Turn.refl _ _)
  rw [World.size_alloc] at hA0
  have HJ : Hid (∀ W, Turn (Maps2 mI mE) W0 W → (fun W : World => W.cell? ⟨w.heap.size, 0, none⟩ = some (.pointer (some ⟨gb, 0, none⟩)) ∧ W.cell? ⟨w.heap.size, 1, none⟩ = some (.int .i64 o.stamp.t) ∧ W.cell? ⟨w.heap.size, 2, none⟩ = some (.int .i64 o.stamp.r) ∧ W.cell? ⟨w.heap.size, 3, none⟩ = some (.int .i64 o.kind) ∧ W.cell? ⟨w.heap.size, 4, none⟩ = some (.int .i64 o.at_.t) ∧ W.cell? ⟨w.heap.size, 5, none⟩ = some (.int .i64 o.at_.r) ∧ W.cell? ⟨w.heap.size, 6, none⟩ = some (.int .i64 o.ino.t) ∧ W.cell? ⟨w.heap.size, 7, none⟩ = some (.int .i64 o.ino.r) ∧ W.cell? ⟨w.heap.size, 8, none⟩ = some (.int .i64 o.to.t) ∧ W.cell? ⟨w.heap.size, 9, none⟩ = some (.int .i64 o.to.r) ∧ W.cell? ⟨w.heap.size, 10, none⟩ = some (.string o.name) ∧ W.cell? ⟨w.heap.size, 11, none⟩ = some (.string o.new) ∧ W.cell? ⟨w.heap.size, 12, none⟩ = some (.int .i64 o.off) ∧ W.cell? ⟨w.heap.size, 13, none⟩ = some (.string o.data)) W ∧ w.heap.size < W.heap.size) := Lib.hid fun W hW => jboxT hS0 hz hW
  have HTw := Lib.hid (hN.turn (Maps2 mI mE))
  have HU := Lib.hid (untie_g gb mI mE g p W0 (h.new hN) hok)
  have hok1 := hok.untieD p
  have HD := Lib.hid (fun W (hW : GrAt W gb mI mE (g.untie p)) (id : St) => drop_g gb mI mE (g.untie p) id W hW hok1 (by have := hok1.few; omega))
  have HG := Lib.hid (fun W (hW : GrAt W gb mI mE (g.untie p)) (id : St) => get_any gb mI mE (g.untie p) id W hW hok1.sn)
  clear h hok hok1 hN
  generalize (g.look p).getD ⟨0, 0⟩ = id at HU HE
  generalize g.untieWhy p = uw at HU
  generalize g.untie p = g1 at HU HE HD HG
  generalize g.gone p = gr at HE ⊢
  obtain ⟨i, hi⟩ : ∃ i, i = g1.got id := ⟨_, rfl⟩
  rw [← hi] at HE
  have HI := Lib.hid hi
  clear hi
  obtain ⟨pat, pname⟩ := p
  unfold St.v at HU HD
  unfold Ino.v at HG
  by_cases h0 : i.links = 0
  all_goals
    have HE2 := HE.out
    first
      | rw [if_pos h0] at HE2
      | rw [if_neg h0] at HE2
    have HE3 := Lib.hid HE2
    clear HE2
    first
      | (have h0b : (i.links == 0) = true := beq_iff_eq.2 h0)
      | (have h0b : (i.links == 0) = false := beq_eq_false_iff_ne.2 h0)
    clear h0
    obtain ⟨_, _, _⟩ := hA0
    obtain ⟨⟨_, _, _, _, _, _, _, _, _, _, _, _, _, _⟩, _⟩ := HJ.out W0 (Turn.refl _ _)
    go_enter Tryz.func150, Tryz.ntmps150
    go_wp2_with fail
    rw [← hW0]
    have HW0 := Lib.hid hW0
    clear hW0
    go_wp2_with fail
    refine HU.out.mono ?_
    rintro e w1 ⟨rfl, hG1, hT1⟩
    have HG1 : Hid (GrAt (w1.alloc (.cells #[.int .i64 id.t, .int .i64 id.r] 31)) gb mI mE g1) := Lib.hid (hG1.new (New.alloc' _ _))
    have HT1 : Hid (Turn (Maps2 mI mE) W0 (w1.alloc (.cells #[.int .i64 id.t, .int .i64 id.r] 31))) := Lib.hid (hT1.trans ((New.alloc' _ _).turn _))
    obtain ⟨⟨_, _, _, _, _, _, _, _, _, _, _, _, _, _⟩, _⟩ := HJ.out w1 hT1
    clear hG1 hT1
    have hg := HG.out _ HG1.out id
    rw [← HI.out] at hg
    unfold St.v at hg
    generalize (g1.get id).isSome = b at hg
    have HGG := Lib.hid hg
    clear hg
    go_wp2_with fail
    refine HGG.out.mono ?_
    rintro e w2 ⟨rfl, hN2⟩
    have HT2 : Hid (Turn (Maps2 mI mE) W0 (w2.alloc (.cells #[.int .i64 i.id.t, .int .i64 i.id.r, .int .i64 i.kind, .int .i64 i.links, .int .i64 i.mode, .string i.data] 62))) := Lib.hid ((HT1.out.trans (hN2.turn _)).trans ((New.alloc' _ _).turn _))
    have HG2 : Hid (GrAt (w2.alloc (.cells #[.int .i64 i.id.t, .int .i64 i.id.r, .int .i64 i.kind, .int .i64 i.links, .int .i64 i.mode, .string i.data] 62)) gb mI mE g1) := Lib.hid ((HG1.out.new hN2).new (New.alloc' _ _))
    have HDD := Lib.hid (HD.out _ HG2.out id)
    obtain ⟨⟨_, _, _, _, _, _, _, _, _, _, _, _, _, _⟩, _⟩ := HJ.out w2 (HT1.out.trans (hN2.turn _))
    obtain ⟨_, _, _⟩ := st_box (S := Maps2 mI mE) (hN2.turn _)
    clear hN2
    go_wp2_with (go_at_call 83; refine HDD.out.mono ?_; rintro e w3 ⟨rfl, hG3, hT3⟩; have HG3 := Lib.hid hG3; have HT3 := Lib.hid (HT2.out.trans hT3); clear hG3 hT3)
    go_end0
    first
      | exact ⟨rfl, by rw [← HE3.out]; exact HG3.out, HTw.out.trans HT3.out⟩
      | exact ⟨rfl, by rw [← HE3.out]; exact HG2.out, HTw.out.trans HT2.out⟩
end Go.Proofs.YtlokljaeknmdpaaGreat
