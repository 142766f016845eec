/-
  thimblelaw11.ApplyApart: of unlike inodes; no condition but the texts' reach.
-/
import Derived.Test.YtmnkaohhjhjciaaGreatQL11
import Derived.Test.YtmnkaohhjhjciaaGreatQLCmp
namespace Go.Proofs.YtmnkaohhjhjciaaGreat.L11
open Go.RowKit Go.Shelf Go.Proofs

set_option maxRecDepth 100000 in
set_option maxHeartbeats 8000000 in
theorem apart_walk (v : Value) (l : List Op) (o : Op) (x : Op) (w : World) (hs : SlAt w 13 Op.cells v l) (hn : ∀ o ∈ l, o.Small) (h_o : o.Small) (h_x : x.Small) :
    Calls Tryz.prog 11 #[v, o.v, x.v] w fun y w' => y = .returned (.bool true) ∧ Below w.heap.size w w' := by
  obtain ⟨W0, hW0⟩ : ∃ W0, W0 = ((w.alloc (.cells #[.int .i64 o.stamp.t, .int .i64 o.stamp.r, .int .i64 o.kind, .int .i64 o.at_.t, .int .i64 o.at_.r, .int .i64 o.ino.t, .int .i64 o.ino.r, .int .i64 o.to.t, .int .i64 o.to.r, .string o.name, .string o.new, .int .i64 o.off, .string o.data] 55)).alloc (.cells #[.int .i64 x.stamp.t, .int .i64 x.stamp.r, .int .i64 x.kind, .int .i64 x.at_.t, .int .i64 x.at_.r, .int .i64 x.ino.t, .int .i64 x.ino.r, .int .i64 x.to.t, .int .i64 x.to.r, .string x.name, .string x.new, .int .i64 x.off, .string x.data] 55)) := ⟨_, rfl⟩
  have HW : Hid (Below w.heap.size w W0) := Lib.hid (by rw [hW0]; exact (((New.refl w).alloc _).alloc _).below)
  have HO0 : Hid (Below W0.heap.size W0 W0) := Lib.hid (Below.refl _ _)
  have Hp0 : Hid (∀ S W, Turn S W0 W → (W.cell? ⟨w.heap.size, 0, none⟩ = some (.int .i64 o.stamp.t) ∧ W.cell? ⟨w.heap.size, 1, none⟩ = some (.int .i64 o.stamp.r) ∧ W.cell? ⟨w.heap.size, 2, none⟩ = some (.int .i64 o.kind) ∧ W.cell? ⟨w.heap.size, 3, none⟩ = some (.int .i64 o.at_.t) ∧ W.cell? ⟨w.heap.size, 4, none⟩ = some (.int .i64 o.at_.r) ∧ W.cell? ⟨w.heap.size, 5, none⟩ = some (.int .i64 o.ino.t) ∧ W.cell? ⟨w.heap.size, 6, none⟩ = some (.int .i64 o.ino.r) ∧ W.cell? ⟨w.heap.size, 7, none⟩ = some (.int .i64 o.to.t) ∧ W.cell? ⟨w.heap.size, 8, none⟩ = some (.int .i64 o.to.r) ∧ W.cell? ⟨w.heap.size, 9, none⟩ = some (.string o.name) ∧ W.cell? ⟨w.heap.size, 10, none⟩ = some (.string o.new) ∧ W.cell? ⟨w.heap.size, 11, none⟩ = some (.int .i64 o.off) ∧ W.cell? ⟨w.heap.size, 12, none⟩ = some (.string o.data) ∧ w.heap.size < W.heap.size)) := Lib.hid (by rw [hW0]; exact fun S W hW => ⟨(hW.cell ⟨_, 0, none⟩ (by simp only [World.size_alloc]; omega)).trans (Lib.cell?_alloc_some _ (cell_new w _ rfl _ _ 0 _ rfl)), (hW.cell ⟨_, 1, none⟩ (by simp only [World.size_alloc]; omega)).trans (Lib.cell?_alloc_some _ (cell_new w _ rfl _ _ 1 _ rfl)), (hW.cell ⟨_, 2, none⟩ (by simp only [World.size_alloc]; omega)).trans (Lib.cell?_alloc_some _ (cell_new w _ rfl _ _ 2 _ rfl)), (hW.cell ⟨_, 3, none⟩ (by simp only [World.size_alloc]; omega)).trans (Lib.cell?_alloc_some _ (cell_new w _ rfl _ _ 3 _ rfl)), (hW.cell ⟨_, 4, none⟩ (by simp only [World.size_alloc]; omega)).trans (Lib.cell?_alloc_some _ (cell_new w _ rfl _ _ 4 _ rfl)), (hW.cell ⟨_, 5, none⟩ (by simp only [World.size_alloc]; omega)).trans (Lib.cell?_alloc_some _ (cell_new w _ rfl _ _ 5 _ rfl)), (hW.cell ⟨_, 6, none⟩ (by simp only [World.size_alloc]; omega)).trans (Lib.cell?_alloc_some _ (cell_new w _ rfl _ _ 6 _ rfl)), (hW.cell ⟨_, 7, none⟩ (by simp only [World.size_alloc]; omega)).trans (Lib.cell?_alloc_some _ (cell_new w _ rfl _ _ 7 _ rfl)), (hW.cell ⟨_, 8, none⟩ (by simp only [World.size_alloc]; omega)).trans (Lib.cell?_alloc_some _ (cell_new w _ rfl _ _ 8 _ rfl)), (hW.cell ⟨_, 9, none⟩ (by simp only [World.size_alloc]; omega)).trans (Lib.cell?_alloc_some _ (cell_new w _ rfl _ _ 9 _ rfl)), (hW.cell ⟨_, 10, none⟩ (by simp only [World.size_alloc]; omega)).trans (Lib.cell?_alloc_some _ (cell_new w _ rfl _ _ 10 _ rfl)), (hW.cell ⟨_, 11, none⟩ (by simp only [World.size_alloc]; omega)).trans (Lib.cell?_alloc_some _ (cell_new w _ rfl _ _ 11 _ rfl)), (hW.cell ⟨_, 12, none⟩ (by simp only [World.size_alloc]; omega)).trans (Lib.cell?_alloc_some _ (cell_new w _ rfl _ _ 12 _ rfl)), by have := hW.size; simp only [World.size_alloc] at this; omega⟩)
  have Hp1 : Hid (∀ S W, Turn S W0 W → (W.cell? ⟨(w.heap.size + 1), 0, none⟩ = some (.int .i64 x.stamp.t) ∧ W.cell? ⟨(w.heap.size + 1), 1, none⟩ = some (.int .i64 x.stamp.r) ∧ W.cell? ⟨(w.heap.size + 1), 2, none⟩ = some (.int .i64 x.kind) ∧ W.cell? ⟨(w.heap.size + 1), 3, none⟩ = some (.int .i64 x.at_.t) ∧ W.cell? ⟨(w.heap.size + 1), 4, none⟩ = some (.int .i64 x.at_.r) ∧ W.cell? ⟨(w.heap.size + 1), 5, none⟩ = some (.int .i64 x.ino.t) ∧ W.cell? ⟨(w.heap.size + 1), 6, none⟩ = some (.int .i64 x.ino.r) ∧ W.cell? ⟨(w.heap.size + 1), 7, none⟩ = some (.int .i64 x.to.t) ∧ W.cell? ⟨(w.heap.size + 1), 8, none⟩ = some (.int .i64 x.to.r) ∧ W.cell? ⟨(w.heap.size + 1), 9, none⟩ = some (.string x.name) ∧ W.cell? ⟨(w.heap.size + 1), 10, none⟩ = some (.string x.new) ∧ W.cell? ⟨(w.heap.size + 1), 11, none⟩ = some (.int .i64 x.off) ∧ W.cell? ⟨(w.heap.size + 1), 12, none⟩ = some (.string x.data) ∧ (w.heap.size + 1) < W.heap.size)) := Lib.hid (by rw [hW0]; exact fun S W hW => ⟨(hW.cell ⟨_, 0, none⟩ (by simp only [World.size_alloc]; omega)).trans (cell_new (w.alloc _) _ (by simp) _ _ 0 _ rfl), (hW.cell ⟨_, 1, none⟩ (by simp only [World.size_alloc]; omega)).trans (cell_new (w.alloc _) _ (by simp) _ _ 1 _ rfl), (hW.cell ⟨_, 2, none⟩ (by simp only [World.size_alloc]; omega)).trans (cell_new (w.alloc _) _ (by simp) _ _ 2 _ rfl), (hW.cell ⟨_, 3, none⟩ (by simp only [World.size_alloc]; omega)).trans (cell_new (w.alloc _) _ (by simp) _ _ 3 _ rfl), (hW.cell ⟨_, 4, none⟩ (by simp only [World.size_alloc]; omega)).trans (cell_new (w.alloc _) _ (by simp) _ _ 4 _ rfl), (hW.cell ⟨_, 5, none⟩ (by simp only [World.size_alloc]; omega)).trans (cell_new (w.alloc _) _ (by simp) _ _ 5 _ rfl), (hW.cell ⟨_, 6, none⟩ (by simp only [World.size_alloc]; omega)).trans (cell_new (w.alloc _) _ (by simp) _ _ 6 _ rfl), (hW.cell ⟨_, 7, none⟩ (by simp only [World.size_alloc]; omega)).trans (cell_new (w.alloc _) _ (by simp) _ _ 7 _ rfl), (hW.cell ⟨_, 8, none⟩ (by simp only [World.size_alloc]; omega)).trans (cell_new (w.alloc _) _ (by simp) _ _ 8 _ rfl), (hW.cell ⟨_, 9, none⟩ (by simp only [World.size_alloc]; omega)).trans (cell_new (w.alloc _) _ (by simp) _ _ 9 _ rfl), (hW.cell ⟨_, 10, none⟩ (by simp only [World.size_alloc]; omega)).trans (cell_new (w.alloc _) _ (by simp) _ _ 10 _ rfl), (hW.cell ⟨_, 11, none⟩ (by simp only [World.size_alloc]; omega)).trans (cell_new (w.alloc _) _ (by simp) _ _ 11 _ rfl), (hW.cell ⟨_, 12, none⟩ (by simp only [World.size_alloc]; omega)).trans (cell_new (w.alloc _) _ (by simp) _ _ 12 _ rfl), by have := hW.size; simp only [World.size_alloc] at this; omega⟩)
  have HF := Lib.hid (fun W (hW : Below W0.heap.size W0 W) => few_any v l W (hs.below (HW.out.trans (hW.mono HW.out.size))))
  have HMD := Lib.hid (fun (hl : l.length ≤ 1000) W (hW : Below W0.heap.size W0 W) => made_any v l W (hs.below (HW.out.trans (hW.mono HW.out.size))) hn hl)
  obtain ⟨va, vc, rfl⟩ := hs.len
  clear hs hn
  have hok := ran_ok l
  have hth := ran_thin l
  unfold Op.v
  cases hfew : decide (l.length ≤ 100) with
  | false =>
    rw [hfew] at HF
    clear hfew hok hth
    have HT0 : Hid (Turn (fun _ => False) W0 W0) := Lib.hid (Turn.refl _ _)
    obtain ⟨_, _, _, _, _, _, _, _, _, _, _, _, _, _⟩ := Hp0.out _ _ HT0.out
    obtain ⟨_, _, _, _, _, _, _, _, _, _, _, _, _, _⟩ := Hp1.out _ _ HT0.out
    go_enter Tryz.func11, Tryz.ntmps11
    go_wp2_with fail
    rw [← hW0]
    have HW0 := Lib.hid hW0
    clear hW0
    go_wp2_with fail
    refine (shown_any _).mono ?_
    rintro e w1 ⟨rfl, hb1⟩
    have HO1 : Hid (Below W0.heap.size W0 w1) := Lib.hid (HO0.out.trans (hb1.mono HO0.out.size))
    have HT_1 : Hid (Turn (fun _ => False) W0 w1) := Lib.hid (Below.turn' HO1.out _)
    clear hb1
    obtain ⟨_, _, _, _, _, _, _, _, _, _, _, _, _, _⟩ := Hp0.out _ _ HT_1.out
    obtain ⟨_, _, _, _, _, _, _, _, _, _, _, _, _, _⟩ := Hp1.out _ _ HT_1.out
    go_wp2_with (go_at_call 32; refine (HF.out _ HO1.out).mono ?_; rintro y w' ⟨rfl, rfl⟩)
    go_ret
    exact ⟨rfl, HW.out.trans (HO1.out.mono HW.out.size)⟩
  | true =>
    rw [hfew] at HF
    have HLEN : Hid (l.length ≤ 1000) := Lib.hid (by have := of_decide_eq_true hfew; omega)
    clear hfew
    have hkb : (decide (o.kind < 8) = true) ∨ (decide (o.kind < 8) = false ∧ decide (x.kind < 8) = true) ∨ (decide (o.kind < 8) = false ∧ decide (x.kind < 8) = false ∧ o.ino = x.ino) ∨ (decide (o.kind < 8) = false ∧ decide (x.kind < 8) = false ∧ o.ino ≠ x.ino) := by
      by_cases h1 : o.kind < 8 <;> by_cases h2 : x.kind < 8 <;> by_cases h3 : o.ino = x.ino <;> simp [h1, h2, h3]
    rcases hkb with hk1 | ⟨hk1, hk2⟩ | ⟨hk1, hk2, hne⟩ | ⟨hk1, hk2, hne⟩
    · have ht : True := trivial
      clear ht hok hth h_o h_x
      have HT0 : Hid (Turn (fun _ => False) W0 W0) := Lib.hid (Turn.refl _ _)
      obtain ⟨_, _, _, _, _, _, _, _, _, _, _, _, _, _⟩ := Hp0.out _ _ HT0.out
      obtain ⟨_, _, _, _, _, _, _, _, _, _, _, _, _, _⟩ := Hp1.out _ _ HT0.out
      go_enter Tryz.func11, Tryz.ntmps11
      go_wp2_with fail
      rw [← hW0]
      have HW0 := Lib.hid hW0
      clear hW0
      go_wp2_with fail
      refine (shown_any _).mono ?_
      rintro e w1 ⟨rfl, hb1⟩
      have HO1 : Hid (Below W0.heap.size W0 w1) := Lib.hid (HO0.out.trans (hb1.mono HO0.out.size))
      have HT_1 : Hid (Turn (fun _ => False) W0 w1) := Lib.hid (Below.turn' HO1.out _)
      clear hb1
      obtain ⟨_, _, _, _, _, _, _, _, _, _, _, _, _, _⟩ := Hp0.out _ _ HT_1.out
      obtain ⟨_, _, _, _, _, _, _, _, _, _, _, _, _, _⟩ := Hp1.out _ _ HT_1.out
      go_wp2_with (go_at_call 32; refine (HF.out _ HO1.out).mono ?_; rintro y w' ⟨rfl, rfl⟩)
      go_ret
      exact ⟨rfl, HW.out.trans (HO1.out.mono HW.out.size)⟩
    · have ht : True := trivial
      clear ht hok hth h_o h_x
      have HT0 : Hid (Turn (fun _ => False) W0 W0) := Lib.hid (Turn.refl _ _)
      obtain ⟨_, _, _, _, _, _, _, _, _, _, _, _, _, _⟩ := Hp0.out _ _ HT0.out
      obtain ⟨_, _, _, _, _, _, _, _, _, _, _, _, _, _⟩ := Hp1.out _ _ HT0.out
      go_enter Tryz.func11, Tryz.ntmps11
      go_wp2_with fail
      rw [← hW0]
      have HW0 := Lib.hid hW0
      clear hW0
      go_wp2_with fail
      refine (shown_any _).mono ?_
      rintro e w1 ⟨rfl, hb1⟩
      have HO1 : Hid (Below W0.heap.size W0 w1) := Lib.hid (HO0.out.trans (hb1.mono HO0.out.size))
      have HT_1 : Hid (Turn (fun _ => False) W0 w1) := Lib.hid (Below.turn' HO1.out _)
      clear hb1
      obtain ⟨_, _, _, _, _, _, _, _, _, _, _, _, _, _⟩ := Hp0.out _ _ HT_1.out
      obtain ⟨_, _, _, _, _, _, _, _, _, _, _, _, _, _⟩ := Hp1.out _ _ HT_1.out
      go_wp2_with (go_at_call 32; refine (HF.out _ HO1.out).mono ?_; rintro y w' ⟨rfl, rfl⟩)
      go_ret
      exact ⟨rfl, HW.out.trans (HO1.out.mono HW.out.size)⟩
    · have q1 : ∀ w, (binOp .eql 34 (.agg #[.int .i64 o.ino.t, .int .i64 o.ino.r]) (.agg #[.int .i64 x.ino.t, .int .i64 x.ino.r])).run Tryz.prog w = .ok (.bool true) w := fun w => by rw [eql_st]; simp [hne]
      clear hne hok hth h_o h_x
      have HT0 : Hid (Turn (fun _ => False) W0 W0) := Lib.hid (Turn.refl _ _)
      obtain ⟨_, _, _, _, _, _, _, _, _, _, _, _, _, _⟩ := Hp0.out _ _ HT0.out
      obtain ⟨_, _, _, _, _, _, _, _, _, _, _, _, _, _⟩ := Hp1.out _ _ HT0.out
      go_enter Tryz.func11, Tryz.ntmps11
      go_wp2_with fail
      rw [← hW0]
      have HW0 := Lib.hid hW0
      clear hW0
      go_wp2_with fail
      refine (shown_any _).mono ?_
      rintro e w1 ⟨rfl, hb1⟩
      have HO1 : Hid (Below W0.heap.size W0 w1) := Lib.hid (HO0.out.trans (hb1.mono HO0.out.size))
      have HT_1 : Hid (Turn (fun _ => False) W0 w1) := Lib.hid (Below.turn' HO1.out _)
      clear hb1
      obtain ⟨_, _, _, _, _, _, _, _, _, _, _, _, _, _⟩ := Hp0.out _ _ HT_1.out
      obtain ⟨_, _, _, _, _, _, _, _, _, _, _, _, _, _⟩ := Hp1.out _ _ HT_1.out
      go_wp2_with (go_at_call 32; refine (HF.out _ HO1.out).mono ?_; rintro y w' ⟨rfl, rfl⟩)
      go_ret
      exact ⟨rfl, HW.out.trans (HO1.out.mono HW.out.size)⟩
    · have q1 : ∀ w, (binOp .eql 34 (.agg #[.int .i64 o.ino.t, .int .i64 o.ino.r]) (.agg #[.int .i64 x.ino.t, .int .i64 x.ino.r])).run Tryz.prog w = .ok (.bool false) w := fun w => by rw [eql_st]; simp [hne]
      have g1 : 8 ≤ o.kind := by have := of_decide_eq_false hk1; omega
      have g2 : 8 ≤ x.kind := by have := of_decide_eq_false hk2; omega
      have HSM := Lib.hid h_o
      have HSX := Lib.hid h_x
      have a1 := opWhy_apply (g := ran l) g1 g2 hne
      have a2 := opWhy_apply (g := ran l) g2 g1 (fun e => hne e.symm)
      have a3 := Gr.apart_law (g := ran l) g1 g2 hne
      have HOKA : Hid ((ran l).apply o).Ok := Lib.hid (hok.apply o)
      have HTHA : Hid ((ran l).apply o).Thin := Lib.hid (hth.apply o)
      have HOKB : Hid ((ran l).apply x).Ok := Lib.hid (hok.apply x)
      have HTHB : Hid ((ran l).apply x).Thin := Lib.hid (hth.apply x)
      have HOKC : Hid (((ran l).apply o).apply x).Ok := Lib.hid ((hok.apply o).apply x)
      obtain ⟨r1, hr1⟩ : ∃ r, r = (ran l).opWhy o := ⟨_, rfl⟩
      obtain ⟨r2, hr2⟩ : ∃ r, r = (ran l).opWhy x := ⟨_, rfl⟩
      rw [← hr1] at a1
      rw [← hr2] at a2
      have HR1 := Lib.hid hr1
      have HR2 := Lib.hid hr2
      have HA1 := Lib.hid a1
      have HA2 := Lib.hid a2
      have t1 : (r1 == r1) = true := by simp
      have t2 : (r2 == r2) = true := by simp
      obtain ⟨C, hC⟩ : ∃ C, C = ((ran l).apply o).apply x := ⟨_, rfl⟩
      have HC := Lib.hid hC
      have HC2 : Hid (C = ((ran l).apply x).apply o) := Lib.hid (hC.trans a3)
      rw [← hC] at HOKC
      clear a1 a2 a3 hr1 hr2 hC g1 g2 hne h_o h_x
      generalize hA : (ran l).apply o = A at *
      generalize hB : (ran l).apply x = B at *
      have HA := Lib.hid hA
      have HB := Lib.hid hB
      clear hA hB
      generalize ran l = G at *
      have HOK : Hid (G.Ok) := Lib.hid hok
      have HTH : Hid (G.Thin) := Lib.hid hth
      clear hok hth
      have HT0 : Hid (Turn (fun _ => False) W0 W0) := Lib.hid (Turn.refl _ _)
      obtain ⟨_, _, _, _, _, _, _, _, _, _, _, _, _, _⟩ := Hp0.out _ _ HT0.out
      obtain ⟨_, _, _, _, _, _, _, _, _, _, _, _, _, _⟩ := Hp1.out _ _ HT0.out
      go_enter Tryz.func11, Tryz.ntmps11
      go_wp2_with fail
      rw [← hW0]
      have HW0 := Lib.hid hW0
      clear hW0
      go_wp2_with fail
      refine (shown_any _).mono ?_
      rintro e w1 ⟨rfl, hb1⟩
      have HO1 : Hid (Below W0.heap.size W0 w1) := Lib.hid (HO0.out.trans (hb1.mono HO0.out.size))
      have HT_1 : Hid (Turn (fun _ => False) W0 w1) := Lib.hid (Below.turn' HO1.out _)
      clear hb1
      obtain ⟨_, _, _, _, _, _, _, _, _, _, _, _, _, _⟩ := Hp0.out _ _ HT_1.out
      obtain ⟨_, _, _, _, _, _, _, _, _, _, _, _, _, _⟩ := Hp1.out _ _ HT_1.out
      go_wp2_with (go_at_call 32; refine (HF.out _ HO1.out).mono ?_; rintro y w' ⟨rfl, rfl⟩)
      go_wp2_with fail
      refine (HMD.out HLEN.out _ HO1.out).mono ?_
      rintro e w2 ⟨v2, rfl, ⟨gb, mI, mE, rfl, hG2, q1, q2, q3⟩, hb2⟩
      have HO2 : Hid (Below W0.heap.size W0 w2) := Lib.hid (HO1.out.trans (hb2.mono HO1.out.size))
      have HM : Hid (W0.heap.size ≤ mI ∧ W0.heap.size ≤ mE ∧ gb < w2.heap.size ∧ mI < w2.heap.size ∧ mE < w2.heap.size) := Lib.hid ⟨Nat.le_trans HO1.out.size q2, Nat.le_trans HO1.out.size q3, hG2.lt.1, hG2.lt.2.1, hG2.lt.2.2⟩
      have HT_2 : Hid (Turn (Maps2 mI mE) W0 w2) := Lib.hid (Below.turn' HO2.out _)
      have HG_2 : Hid (GrAt w2 gb mI mE G) := Lib.hid hG2
      clear hb2 hG2 q1 q2 q3
      obtain ⟨_, _, _, _, _, _, _, _, _, _, _, _, _, _⟩ := Hp0.out _ _ HT_2.out
      obtain ⟨_, _, _, _, _, _, _, _, _, _, _, _, _, _⟩ := Hp1.out _ _ HT_2.out
      go_wp2_with fail
      refine ((HG_2.out.reads HOK.out (by have := HOK.out.few; omega)).copy w2 (Below.refl _ _)).mono ?_
      rintro e w3 ⟨v3, rfl, ⟨hb, nI, nE, rfl, hH, p1, p2, p3⟩, hb3⟩
      have hst3 : Turn (Maps2 mI mE) w2 w3 := Turn.trans (Turn.refl (Maps2 mI mE) _) (Below.turn' hb3 _)
      have HTp0_3 := Lib.hid (HT_2.out.trans hst3)
      have HTp1_3 := Lib.hid (HT_2.out.trans hst3)
      have HG_3 := Lib.hid ((HG_2.out.new (New.refl _)).below hb3)
      have HO3 : Hid (Below W0.heap.size W0 w3) := Lib.hid (Below.trans HO2.out (hb3.mono (by have := HO2.out.size; first | exact this | (simp only [World.size_alloc]; omega))))
      have HAP : Hid (gb < hb ∧ gb < nI ∧ gb < nE ∧ mI < hb ∧ mI < nI ∧ mI < nE ∧ mE < hb ∧ mE < nI ∧ mE < nE) := Lib.hid (by have := HG_2.out.lt; omega)
      have HH_3 : Hid (GrAt w3 hb nI nE G) := Lib.hid hH
      clear p1 p2 p3 hH
      clear hst3 hb3
      obtain ⟨_, _, _, _, _, _, _, _, _, _, _, _, _, _⟩ := Hp0.out _ _ HTp0_3.out
      obtain ⟨_, _, _, _, _, _, _, _, _, _, _, _, _, _⟩ := Hp1.out _ _ HTp1_3.out
      have HM2 : Hid (W0.heap.size ≤ nI ∧ W0.heap.size ≤ nE) := Lib.hid (by have := HM.out; have := HAP.out; omega)
      have HUTp0_3 := Lib.hid (HTp0_3.out.more (fun q hq => Or.inl hq) : Turn (fun q => Maps2 mI mE q ∨ Maps2 nI nE q) _ _)
      have HUTp1_3 := Lib.hid (HTp1_3.out.more (fun q hq => Or.inl hq) : Turn (fun q => Maps2 mI mE q ∨ Maps2 nI nE q) _ _)
      go_wp2_with fail
      refine (apply_any gb mI mE G o w3 HG_3.out HOK.out HTH.out HSM.out).mono ?_
      rintro e w4 ⟨rfl, hG4, hT4⟩
      rw [← HR1.out]
      rw [HA.out] at hG4
      have hst4 : Turn (fun q => Maps2 mI mE q ∨ Maps2 nI nE q) w3 w4 := Turn.trans (Turn.refl (fun q => Maps2 mI mE q ∨ Maps2 nI nE q) _) (hT4.more (fun q hq => Or.inl hq))
      have HTp0_4 := Lib.hid (HUTp0_3.out.trans hst4)
      have HTp1_4 := Lib.hid (HUTp1_3.out.trans hst4)
      have HG_4 := Lib.hid hG4
      have HH_4 := Lib.hid ((HH_3.out.new (New.refl _)).turn hT4 (fun hq => by have := HAP.out; rcases hq with hq | hq <;> omega) (fun hq => by have := HAP.out; rcases hq with hq | hq <;> omega) (fun hq => by have := HAP.out; rcases hq with hq | hq <;> omega))
      have HO4 : Hid (Below W0.heap.size W0 w4) := Lib.hid (Below.trans HO3.out (own_below hT4 HM.out.1 HM.out.2.1 (by have := HO3.out.size; first | exact this | (simp only [World.size_alloc]; omega))))
      clear hst4 hT4 hG4
      obtain ⟨_, _, _, _, _, _, _, _, _, _, _, _, _, _⟩ := Hp0.out _ _ HTp0_4.out
      obtain ⟨_, _, _, _, _, _, _, _, _, _, _, _, _, _⟩ := Hp1.out _ _ HTp1_4.out
      go_wp2_with fail
      refine (apply_any gb mI mE A x w4 HG_4.out HOKA.out HTHA.out HSX.out).mono ?_
      rintro e w5 ⟨rfl, hG5, hT5⟩
      rw [HA2.out]
      rw [← HC.out] at hG5
      have hst5 : Turn (fun q => Maps2 mI mE q ∨ Maps2 nI nE q) w4 w5 := Turn.trans (Turn.refl (fun q => Maps2 mI mE q ∨ Maps2 nI nE q) _) (hT5.more (fun q hq => Or.inl hq))
      have HTp0_5 := Lib.hid (HTp0_4.out.trans hst5)
      have HTp1_5 := Lib.hid (HTp1_4.out.trans hst5)
      have HG_5 := Lib.hid hG5
      have HH_5 := Lib.hid ((HH_4.out.new (New.refl _)).turn hT5 (fun hq => by have := HAP.out; rcases hq with hq | hq <;> omega) (fun hq => by have := HAP.out; rcases hq with hq | hq <;> omega) (fun hq => by have := HAP.out; rcases hq with hq | hq <;> omega))
      have HO5 : Hid (Below W0.heap.size W0 w5) := Lib.hid (Below.trans HO4.out (own_below hT5 HM.out.1 HM.out.2.1 (by have := HO4.out.size; first | exact this | (simp only [World.size_alloc]; omega))))
      clear hst5 hT5 hG5
      obtain ⟨_, _, _, _, _, _, _, _, _, _, _, _, _, _⟩ := Hp0.out _ _ HTp0_5.out
      obtain ⟨_, _, _, _, _, _, _, _, _, _, _, _, _, _⟩ := Hp1.out _ _ HTp1_5.out
      go_wp2_with fail
      refine (apply_any hb nI nE G x w5 HH_5.out HOK.out HTH.out HSX.out).mono ?_
      rintro e w6 ⟨rfl, hG6, hT6⟩
      rw [← HR2.out]
      rw [HB.out] at hG6
      have hst6 : Turn (fun q => Maps2 mI mE q ∨ Maps2 nI nE q) w5 w6 := Turn.trans (Turn.refl (fun q => Maps2 mI mE q ∨ Maps2 nI nE q) _) (hT6.more (fun q hq => Or.inr hq))
      have HTp0_6 := Lib.hid (HTp0_5.out.trans hst6)
      have HTp1_6 := Lib.hid (HTp1_5.out.trans hst6)
      have HG_6 := Lib.hid ((HG_5.out.new (New.refl _)).turn hT6 (fun hq => by have := HAP.out; rcases hq with hq | hq <;> omega) (fun hq => by have := HAP.out; rcases hq with hq | hq <;> omega) (fun hq => by have := HAP.out; rcases hq with hq | hq <;> omega))
      have HH_6 := Lib.hid hG6
      have HO6 : Hid (Below W0.heap.size W0 w6) := Lib.hid (Below.trans HO5.out (own_below hT6 HM2.out.1 HM2.out.2 (by have := HO5.out.size; first | exact this | (simp only [World.size_alloc]; omega))))
      clear hst6 hT6 hG6
      obtain ⟨_, _, _, _, _, _, _, _, _, _, _, _, _, _⟩ := Hp0.out _ _ HTp0_6.out
      obtain ⟨_, _, _, _, _, _, _, _, _, _, _, _, _, _⟩ := Hp1.out _ _ HTp1_6.out
      go_wp2_with fail
      refine (apply_any hb nI nE B o w6 HH_6.out HOKB.out HTHB.out HSM.out).mono ?_
      rintro e w7 ⟨rfl, hG7, hT7⟩
      rw [HA1.out]
      rw [← HC2.out] at hG7
      have hst7 : Turn (fun q => Maps2 mI mE q ∨ Maps2 nI nE q) w6 w7 := Turn.trans (Turn.refl (fun q => Maps2 mI mE q ∨ Maps2 nI nE q) _) (hT7.more (fun q hq => Or.inr hq))
      have HTp0_7 := Lib.hid (HTp0_6.out.trans hst7)
      have HTp1_7 := Lib.hid (HTp1_6.out.trans hst7)
      have HG_7 := Lib.hid ((HG_6.out.new (New.refl _)).turn hT7 (fun hq => by have := HAP.out; rcases hq with hq | hq <;> omega) (fun hq => by have := HAP.out; rcases hq with hq | hq <;> omega) (fun hq => by have := HAP.out; rcases hq with hq | hq <;> omega))
      have HH_7 := Lib.hid hG7
      have HO7 : Hid (Below W0.heap.size W0 w7) := Lib.hid (Below.trans HO6.out (own_below hT7 HM2.out.1 HM2.out.2 (by have := HO6.out.size; first | exact this | (simp only [World.size_alloc]; omega))))
      clear hst7 hT7 hG7
      obtain ⟨_, _, _, _, _, _, _, _, _, _, _, _, _, _⟩ := Hp0.out _ _ HTp0_7.out
      obtain ⟨_, _, _, _, _, _, _, _, _, _, _, _, _, _⟩ := Hp1.out _ _ HTp1_7.out
      go_wp2_with fail
      refine (same_any gb hb C w7 HOKC.out (HG_7.out.reads HOKC.out (by have := HOKC.out.few; omega)) (HH_7.out.reads HOKC.out (by have := HOKC.out.few; omega))).mono ?_
      rintro e w8 ⟨rfl, hb8⟩
      have hst8 : Turn (fun q => Maps2 mI mE q ∨ Maps2 nI nE q) w7 w8 := Turn.trans (Turn.refl (fun q => Maps2 mI mE q ∨ Maps2 nI nE q) _) (Below.turn' hb8 _)
      have HTp0_8 := Lib.hid (HTp0_7.out.trans hst8)
      have HTp1_8 := Lib.hid (HTp1_7.out.trans hst8)
      have HG_8 := Lib.hid ((HG_7.out.new (New.refl _)).below hb8)
      have HH_8 := Lib.hid ((HH_7.out.new (New.refl _)).below hb8)
      have HO8 : Hid (Below W0.heap.size W0 w8) := Lib.hid (Below.trans HO7.out (hb8.mono (by have := HO7.out.size; first | exact this | (simp only [World.size_alloc]; omega))))
      clear hst8 hb8
      obtain ⟨_, _, _, _, _, _, _, _, _, _, _, _, _, _⟩ := Hp0.out _ _ HTp0_8.out
      obtain ⟨_, _, _, _, _, _, _, _, _, _, _, _, _, _⟩ := Hp1.out _ _ HTp1_8.out
      go_wp2
      go_ret
      exact ⟨by first | rfl | simp [*], HW.out.trans (HO8.out.mono HW.out.size)⟩
end Go.Proofs.YtmnkaohhjhjciaaGreat.L11
