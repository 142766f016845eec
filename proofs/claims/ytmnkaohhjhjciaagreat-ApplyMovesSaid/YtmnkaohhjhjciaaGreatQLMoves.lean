/-
  thimblelaw11.ApplyMoves: what is renamed; no condition but the texts' reach.
-/
import Derived.Test.YtmnkaohhjhjciaaGreatQL11
import Derived.Test.YtmnkaohhjhjciaaGreatQLCmp
namespace Go.Proofs.YtmnkaohhjhjciaaGreat.L11
open Go.RowKit Go.Shelf Go.Proofs

set_option maxRecDepth 100000 in
set_option maxHeartbeats 8000000 in
theorem moves_walk (v : Value) (l : List Op) (o : Op) (w : World) (hs : SlAt w 13 Op.cells v l) (hn : ∀ o ∈ l, o.Small) (h_o : o.Small) :
    Calls Tryz.prog 6 #[v, o.v] w fun y w' => y = .returned (.bool true) ∧ Below w.heap.size w w' := by
  obtain ⟨W0, hW0⟩ : ∃ W0, W0 = (w.alloc (.cells #[.int .i64 o.stamp.t, .int .i64 o.stamp.r, .int .i64 o.kind, .int .i64 o.at_.t, .int .i64 o.at_.r, .int .i64 o.ino.t, .int .i64 o.ino.r, .int .i64 o.to.t, .int .i64 o.to.r, .string o.name, .string o.new, .int .i64 o.off, .string o.data] 55)) := ⟨_, rfl⟩
  have HW : Hid (Below w.heap.size w W0) := Lib.hid (by rw [hW0]; exact ((New.refl w).alloc _).below)
  have HO0 : Hid (Below W0.heap.size W0 W0) := Lib.hid (Below.refl _ _)
  have Hp0 : Hid (∀ S W, Turn S W0 W → (W.cell? ⟨w.heap.size, 0, none⟩ = some (.int .i64 o.stamp.t) ∧ W.cell? ⟨w.heap.size, 1, none⟩ = some (.int .i64 o.stamp.r) ∧ W.cell? ⟨w.heap.size, 2, none⟩ = some (.int .i64 o.kind) ∧ W.cell? ⟨w.heap.size, 3, none⟩ = some (.int .i64 o.at_.t) ∧ W.cell? ⟨w.heap.size, 4, none⟩ = some (.int .i64 o.at_.r) ∧ W.cell? ⟨w.heap.size, 5, none⟩ = some (.int .i64 o.ino.t) ∧ W.cell? ⟨w.heap.size, 6, none⟩ = some (.int .i64 o.ino.r) ∧ W.cell? ⟨w.heap.size, 7, none⟩ = some (.int .i64 o.to.t) ∧ W.cell? ⟨w.heap.size, 8, none⟩ = some (.int .i64 o.to.r) ∧ W.cell? ⟨w.heap.size, 9, none⟩ = some (.string o.name) ∧ W.cell? ⟨w.heap.size, 10, none⟩ = some (.string o.new) ∧ W.cell? ⟨w.heap.size, 11, none⟩ = some (.int .i64 o.off) ∧ W.cell? ⟨w.heap.size, 12, none⟩ = some (.string o.data) ∧ w.heap.size < W.heap.size)) := Lib.hid (by rw [hW0]; exact fun S W hW => ⟨(hW.cell ⟨_, 0, none⟩ (by simp only [World.size_alloc]; omega)).trans (cell_new w _ rfl _ _ 0 _ rfl), (hW.cell ⟨_, 1, none⟩ (by simp only [World.size_alloc]; omega)).trans (cell_new w _ rfl _ _ 1 _ rfl), (hW.cell ⟨_, 2, none⟩ (by simp only [World.size_alloc]; omega)).trans (cell_new w _ rfl _ _ 2 _ rfl), (hW.cell ⟨_, 3, none⟩ (by simp only [World.size_alloc]; omega)).trans (cell_new w _ rfl _ _ 3 _ rfl), (hW.cell ⟨_, 4, none⟩ (by simp only [World.size_alloc]; omega)).trans (cell_new w _ rfl _ _ 4 _ rfl), (hW.cell ⟨_, 5, none⟩ (by simp only [World.size_alloc]; omega)).trans (cell_new w _ rfl _ _ 5 _ rfl), (hW.cell ⟨_, 6, none⟩ (by simp only [World.size_alloc]; omega)).trans (cell_new w _ rfl _ _ 6 _ rfl), (hW.cell ⟨_, 7, none⟩ (by simp only [World.size_alloc]; omega)).trans (cell_new w _ rfl _ _ 7 _ rfl), (hW.cell ⟨_, 8, none⟩ (by simp only [World.size_alloc]; omega)).trans (cell_new w _ rfl _ _ 8 _ rfl), (hW.cell ⟨_, 9, none⟩ (by simp only [World.size_alloc]; omega)).trans (cell_new w _ rfl _ _ 9 _ rfl), (hW.cell ⟨_, 10, none⟩ (by simp only [World.size_alloc]; omega)).trans (cell_new w _ rfl _ _ 10 _ rfl), (hW.cell ⟨_, 11, none⟩ (by simp only [World.size_alloc]; omega)).trans (cell_new w _ rfl _ _ 11 _ rfl), (hW.cell ⟨_, 12, none⟩ (by simp only [World.size_alloc]; omega)).trans (cell_new w _ rfl _ _ 12 _ rfl), by have := hW.size; simp only [World.size_alloc] at this; omega⟩)
  have HF := Lib.hid (fun W (hW : Below W0.heap.size W0 W) => few_any v l W (hs.below (HW.out.trans (hW.mono HW.out.size))))
  have HMD := Lib.hid (fun (hl : l.length ≤ 1000) W (hW : Below W0.heap.size W0 W) => made_any v l W (hs.below (HW.out.trans (hW.mono HW.out.size))) hn hl)
  obtain ⟨va, vc, rfl⟩ := hs.len
  clear hs hn
  have hok := ran_ok l
  have hth := ran_thin l
  unfold Op.v
  cases hfew : decide (l.length ≤ 100) with
  | false =>
    rw [hfew] at HF
    clear hfew hok hth
    have HT0 : Hid (Turn (fun _ => False) W0 W0) := Lib.hid (Turn.refl _ _)
    obtain ⟨_, _, _, _, _, _, _, _, _, _, _, _, _, _⟩ := Hp0.out _ _ HT0.out
    go_enter Tryz.func6, Tryz.ntmps6
    go_wp2_with fail
    rw [← hW0]
    have HW0 := Lib.hid hW0
    clear hW0
    go_wp2_with fail
    refine (shown_any _).mono ?_
    rintro e w1 ⟨rfl, hb1⟩
    have HO1 : Hid (Below W0.heap.size W0 w1) := Lib.hid (HO0.out.trans (hb1.mono HO0.out.size))
    have HT_1 : Hid (Turn (fun _ => False) W0 w1) := Lib.hid (Below.turn' HO1.out _)
    clear hb1
    obtain ⟨_, _, _, _, _, _, _, _, _, _, _, _, _, _⟩ := Hp0.out _ _ HT_1.out
    go_wp2_with (go_at_call 32; refine (HF.out _ HO1.out).mono ?_; rintro y w' ⟨rfl, rfl⟩)
    go_ret
    exact ⟨rfl, HW.out.trans (HO1.out.mono HW.out.size)⟩
  | true =>
    rw [hfew] at HF
    have HLEN : Hid (l.length ≤ 1000) := Lib.hid (by have := of_decide_eq_true hfew; omega)
    clear hfew
    by_cases hk : o.kind = 7
    · have hkb : (o.kind != 7) = false := by simp [hk]
      have HSM := Lib.hid h_o
      by_cases hw : (ran l).opWhy o = 0
      · obtain ⟨r1, r2, r3, r4⟩ := (ran_ok l).moves_law hk hw
        have HOK' : Hid ((ran l).apply o).Ok := Lib.hid (hok.apply o)
        have HWH := Lib.hid hw
        have hcase : ((ran l).look ⟨o.to, o.new⟩ = some o.ino ∧ ((ran l).apply o).look ⟨o.at_, o.name⟩ = some o.ino ∧ ((ran l).apply o).e.length = (ran l).e.length) ∨ ((ran l).look ⟨o.to, o.new⟩ = none ∧ ((ran l).apply o).look ⟨o.at_, o.name⟩ = none ∧ ((ran l).apply o).e.length = (ran l).e.length) ∨ ∃ t, (ran l).look ⟨o.to, o.new⟩ = some t ∧ t ≠ o.ino ∧ ((ran l).apply o).look ⟨o.at_, o.name⟩ = none ∧ ((ran l).apply o).e.length + 1 = (ran l).e.length := by
          rcases r4 with ⟨a, b, c⟩ | h | h
          · exact .inl ⟨a, by rw [b]; exact c, by rw [b]⟩
          · exact .inr (.inl h)
          · exact .inr (.inr h)
        obtain ⟨i, hi⟩ : ∃ i, i = (ran l).got o.ino := ⟨_, rfl⟩
        have HI : Hid ((ran l).got o.ino = i) := Lib.hid hi.symm
        have HIS := Lib.hid r1
        have HI' : Hid (((ran l).apply o).got o.ino = i) := Lib.hid (by unfold Gr.got at hi ⊢; rw [r2]; exact hi.symm)
        have HIS' : Hid ((((ran l).apply o).get o.ino).isSome = true) := Lib.hid (by rw [r2]; exact r1)
        have HLK := Lib.hid r3
        have q1 := fun w => neq_ino_self i w
        have q2 := fun w => neq_st_self o.ino w
        have hfew := hok.few
        clear hi r1 r2 r3 r4 hw hk h_o
        generalize hG' : (ran l).apply o = G' at *
        have HG' := Lib.hid hG'
        clear hG'
        generalize ran l = G at *
        rcases hcase with ⟨c1, c2, c3⟩ | ⟨c1, c2, c3⟩ | ⟨t, c1, c4, c2, c3⟩
        · have HC1 := Lib.hid c1
          have HC2 := Lib.hid c2
          have q3 := fun w => eql_st_self o.ino w
          have HC3 := Lib.hid c3
          clear c1 c2 c3 hfew
          have HOK : Hid (G.Ok) := Lib.hid hok
          have HTH : Hid (G.Thin) := Lib.hid hth
          clear hok hth
          have HT0 : Hid (Turn (fun _ => False) W0 W0) := Lib.hid (Turn.refl _ _)
          obtain ⟨_, _, _, _, _, _, _, _, _, _, _, _, _, _⟩ := Hp0.out _ _ HT0.out
          go_enter Tryz.func6, Tryz.ntmps6
          go_wp2_with fail
          rw [← hW0]
          have HW0 := Lib.hid hW0
          clear hW0
          go_wp2_with fail
          refine (shown_any _).mono ?_
          rintro e w1 ⟨rfl, hb1⟩
          have HO1 : Hid (Below W0.heap.size W0 w1) := Lib.hid (HO0.out.trans (hb1.mono HO0.out.size))
          have HT_1 : Hid (Turn (fun _ => False) W0 w1) := Lib.hid (Below.turn' HO1.out _)
          clear hb1
          obtain ⟨_, _, _, _, _, _, _, _, _, _, _, _, _, _⟩ := Hp0.out _ _ HT_1.out
          go_wp2_with (go_at_call 32; refine (HF.out _ HO1.out).mono ?_; rintro y w' ⟨rfl, rfl⟩)
          go_wp2_with fail
          refine (HMD.out HLEN.out _ HO1.out).mono ?_
          rintro e w2 ⟨v2, rfl, ⟨gb, mI, mE, rfl, hG2, q1, q2, q3⟩, hb2⟩
          have HO2 : Hid (Below W0.heap.size W0 w2) := Lib.hid (HO1.out.trans (hb2.mono HO1.out.size))
          have HM : Hid (W0.heap.size ≤ mI ∧ W0.heap.size ≤ mE ∧ gb < w2.heap.size ∧ mI < w2.heap.size ∧ mE < w2.heap.size) := Lib.hid ⟨Nat.le_trans HO1.out.size q2, Nat.le_trans HO1.out.size q3, hG2.lt.1, hG2.lt.2.1, hG2.lt.2.2⟩
          have HT_2 : Hid (Turn (Maps2 mI mE) W0 w2) := Lib.hid (Below.turn' HO2.out _)
          have HG_2 : Hid (GrAt w2 gb mI mE G) := Lib.hid hG2
          clear hb2 hG2 q1 q2 q3
          obtain ⟨_, _, _, _, _, _, _, _, _, _, _, _, _, _⟩ := Hp0.out _ _ HT_2.out
          go_wp2_with fail
          refine ((HG_2.out.reads HOK.out (by have := HOK.out.few; omega)).get o.ino i true w2 HI.out HIS.out (Below.refl _ _)).mono ?_
          rintro e w3 ⟨rfl, hb3⟩
          have hst3 : Turn (Maps2 mI mE) w2 w3 := Turn.trans (Turn.refl (Maps2 mI mE) _) (Below.turn' hb3 _)
          have HTp0_3 := Lib.hid (HT_2.out.trans hst3)
          have HG_3 := Lib.hid ((HG_2.out.new (New.refl _)).below hb3)
          have HO3 : Hid (Below W0.heap.size W0 w3) := Lib.hid (Below.trans HO2.out (hb3.mono (by have := HO2.out.size; first | exact this | (simp only [World.size_alloc]; omega))))
          clear hst3 hb3
          obtain ⟨_, _, _, _, _, _, _, _, _, _, _, _, _, _⟩ := Hp0.out _ _ HTp0_3.out
          have Hb1 : Hid (∀ S W, Turn S (w3.alloc (.cells #[.int .i64 i.id.t, .int .i64 i.id.r, .int .i64 i.kind, .int .i64 i.links, .int .i64 i.mode, .string i.data] 62)) W → (W.cell? ⟨w3.heap.size, 0, none⟩ = some (.int .i64 i.id.t) ∧ W.cell? ⟨w3.heap.size, 1, none⟩ = some (.int .i64 i.id.r) ∧ W.cell? ⟨w3.heap.size, 2, none⟩ = some (.int .i64 i.kind) ∧ W.cell? ⟨w3.heap.size, 3, none⟩ = some (.int .i64 i.links) ∧ W.cell? ⟨w3.heap.size, 4, none⟩ = some (.int .i64 i.mode) ∧ W.cell? ⟨w3.heap.size, 5, none⟩ = some (.string i.data) ∧ w3.heap.size < W.heap.size)) := Lib.hid fun S W hW => ⟨(hW.cell ⟨_, 0, none⟩ (by simp)).trans (cell_new _ _ rfl _ _ 0 _ rfl), (hW.cell ⟨_, 1, none⟩ (by simp)).trans (cell_new _ _ rfl _ _ 1 _ rfl), (hW.cell ⟨_, 2, none⟩ (by simp)).trans (cell_new _ _ rfl _ _ 2 _ rfl), (hW.cell ⟨_, 3, none⟩ (by simp)).trans (cell_new _ _ rfl _ _ 3 _ rfl), (hW.cell ⟨_, 4, none⟩ (by simp)).trans (cell_new _ _ rfl _ _ 4 _ rfl), (hW.cell ⟨_, 5, none⟩ (by simp)).trans (cell_new _ _ rfl _ _ 5 _ rfl), by have := hW.size; simp at this; omega⟩
          go_wp2_with fail
          refine (((HG_3.out.new ((New.refl _).alloc _)).reads HOK.out (by have := HOK.out.few; omega)).look ⟨o.to, o.new⟩ o.ino true (w3.alloc (.cells #[.int .i64 i.id.t, .int .i64 i.id.r, .int .i64 i.kind, .int .i64 i.links, .int .i64 i.mode, .string i.data] 62)) (by rw [HC1.out]; rfl) (by rw [HC1.out]; rfl) (Below.refl _ _)).mono ?_
          rintro e w4 ⟨rfl, hb4⟩
          have hst4 : Turn (Maps2 mI mE) w3 w4 := Turn.trans ((((New.refl _).alloc _)).turn (Maps2 mI mE)) (Below.turn' hb4 _)
          have HTp0_4 := Lib.hid (HTp0_3.out.trans hst4)
          have HTb1_4 := Lib.hid (Below.turn' hb4 (Maps2 mI mE))
          have HG_4 := Lib.hid ((HG_3.out.new ((New.refl _).alloc _)).below hb4)
          have HO4 : Hid (Below W0.heap.size W0 w4) := Lib.hid (Below.trans (HO3.out.alloc HO3.out.size _) (hb4.mono (by have := HO3.out.size; first | exact this | (simp only [World.size_alloc]; omega))))
          clear hst4 hb4
          obtain ⟨_, _, _, _, _, _, _, _, _, _, _, _, _, _⟩ := Hp0.out _ _ HTp0_4.out
          obtain ⟨_, _, _, _, _, _, _⟩ := Hb1.out _ _ HTb1_4.out
          have Hb2 : Hid (∀ S W, Turn S (w4.alloc (.cells #[.int .i64 o.ino.t, .int .i64 o.ino.r] 34)) W → (W.cell? ⟨w4.heap.size, 0, none⟩ = some (.int .i64 o.ino.t) ∧ W.cell? ⟨w4.heap.size, 1, none⟩ = some (.int .i64 o.ino.r) ∧ w4.heap.size < W.heap.size)) := Lib.hid fun S W hW => ⟨(hW.cell ⟨_, 0, none⟩ (by simp)).trans (cell_new _ _ rfl _ _ 0 _ rfl), (hW.cell ⟨_, 1, none⟩ (by simp)).trans (cell_new _ _ rfl _ _ 1 _ rfl), by have := hW.size; simp at this; omega⟩
          go_wp2_with fail
          refine (((HG_4.out.new ((New.refl _).alloc _)).reads HOK.out (by have := HOK.out.few; omega)).entries (w4.alloc (.cells #[.int .i64 o.ino.t, .int .i64 o.ino.r] 34)) (Below.refl _ _)).mono ?_
          rintro e w5 ⟨sa5, sc5, rfl, _, hb5⟩
          have hst5 : Turn (Maps2 mI mE) w4 w5 := Turn.trans ((((New.refl _).alloc _)).turn (Maps2 mI mE)) (Below.turn' hb5 _)
          have HTp0_5 := Lib.hid (HTp0_4.out.trans hst5)
          have HTb1_5 := Lib.hid (HTb1_4.out.trans hst5)
          have HTb2_5 := Lib.hid (Below.turn' hb5 (Maps2 mI mE))
          have HG_5 := Lib.hid ((HG_4.out.new ((New.refl _).alloc _)).below hb5)
          have HO5 : Hid (Below W0.heap.size W0 w5) := Lib.hid (Below.trans (HO4.out.alloc HO4.out.size _) (hb5.mono (by have := HO4.out.size; first | exact this | (simp only [World.size_alloc]; omega))))
          clear hst5 hb5
          obtain ⟨_, _, _, _, _, _, _, _, _, _, _, _, _, _⟩ := Hp0.out _ _ HTp0_5.out
          obtain ⟨_, _, _, _, _, _, _⟩ := Hb1.out _ _ HTb1_5.out
          obtain ⟨_, _, _⟩ := Hb2.out _ _ HTb2_5.out
          go_wp2_with fail
          refine (apply_any gb mI mE G o w5 HG_5.out HOK.out HTH.out HSM.out).mono ?_
          rintro e w6 ⟨rfl, hG6, hT6⟩
          rw [HWH.out]
          rw [HG'.out] at hG6
          have hst6 : Turn (Maps2 mI mE) w5 w6 := Turn.trans (Turn.refl (Maps2 mI mE) _) hT6
          have HTp0_6 := Lib.hid (HTp0_5.out.trans hst6)
          have HTb1_6 := Lib.hid (HTb1_5.out.trans hst6)
          have HTb2_6 := Lib.hid (HTb2_5.out.trans hst6)
          have HG_6 := Lib.hid hG6
          have HO6 : Hid (Below W0.heap.size W0 w6) := Lib.hid (Below.trans HO5.out (own_below hT6 HM.out.1 HM.out.2.1 (by have := HO5.out.size; first | exact this | (simp only [World.size_alloc]; omega))))
          clear hst6 hT6 hG6
          obtain ⟨_, _, _, _, _, _, _, _, _, _, _, _, _, _⟩ := Hp0.out _ _ HTp0_6.out
          obtain ⟨_, _, _, _, _, _, _⟩ := Hb1.out _ _ HTb1_6.out
          obtain ⟨_, _, _⟩ := Hb2.out _ _ HTb2_6.out
          go_wp2_with fail
          refine ((HG_6.out.reads HOK'.out (by have := HOK'.out.few; omega)).get o.ino i true w6 HI'.out HIS'.out (Below.refl _ _)).mono ?_
          rintro e w7 ⟨rfl, hb7⟩
          have hst7 : Turn (Maps2 mI mE) w6 w7 := Turn.trans (Turn.refl (Maps2 mI mE) _) (Below.turn' hb7 _)
          have HTp0_7 := Lib.hid (HTp0_6.out.trans hst7)
          have HTb1_7 := Lib.hid (HTb1_6.out.trans hst7)
          have HTb2_7 := Lib.hid (HTb2_6.out.trans hst7)
          have HG_7 := Lib.hid ((HG_6.out.new (New.refl _)).below hb7)
          have HO7 : Hid (Below W0.heap.size W0 w7) := Lib.hid (Below.trans HO6.out (hb7.mono (by have := HO6.out.size; first | exact this | (simp only [World.size_alloc]; omega))))
          clear hst7 hb7
          obtain ⟨_, _, _, _, _, _, _, _, _, _, _, _, _, _⟩ := Hp0.out _ _ HTp0_7.out
          obtain ⟨_, _, _, _, _, _, _⟩ := Hb1.out _ _ HTb1_7.out
          obtain ⟨_, _, _⟩ := Hb2.out _ _ HTb2_7.out
          have Hb3 : Hid (∀ S W, Turn S (w7.alloc (.cells #[.int .i64 i.id.t, .int .i64 i.id.r, .int .i64 i.kind, .int .i64 i.links, .int .i64 i.mode, .string i.data] 62)) W → (W.cell? ⟨w7.heap.size, 0, none⟩ = some (.int .i64 i.id.t) ∧ W.cell? ⟨w7.heap.size, 1, none⟩ = some (.int .i64 i.id.r) ∧ W.cell? ⟨w7.heap.size, 2, none⟩ = some (.int .i64 i.kind) ∧ W.cell? ⟨w7.heap.size, 3, none⟩ = some (.int .i64 i.links) ∧ W.cell? ⟨w7.heap.size, 4, none⟩ = some (.int .i64 i.mode) ∧ W.cell? ⟨w7.heap.size, 5, none⟩ = some (.string i.data) ∧ w7.heap.size < W.heap.size)) := Lib.hid fun S W hW => ⟨(hW.cell ⟨_, 0, none⟩ (by simp)).trans (cell_new _ _ rfl _ _ 0 _ rfl), (hW.cell ⟨_, 1, none⟩ (by simp)).trans (cell_new _ _ rfl _ _ 1 _ rfl), (hW.cell ⟨_, 2, none⟩ (by simp)).trans (cell_new _ _ rfl _ _ 2 _ rfl), (hW.cell ⟨_, 3, none⟩ (by simp)).trans (cell_new _ _ rfl _ _ 3 _ rfl), (hW.cell ⟨_, 4, none⟩ (by simp)).trans (cell_new _ _ rfl _ _ 4 _ rfl), (hW.cell ⟨_, 5, none⟩ (by simp)).trans (cell_new _ _ rfl _ _ 5 _ rfl), by have := hW.size; simp at this; omega⟩
          go_wp2_with fail
          refine (((HG_7.out.new ((New.refl _).alloc _)).reads HOK'.out (by have := HOK'.out.few; omega)).look ⟨o.to, o.new⟩ o.ino true (w7.alloc (.cells #[.int .i64 i.id.t, .int .i64 i.id.r, .int .i64 i.kind, .int .i64 i.links, .int .i64 i.mode, .string i.data] 62)) (by rw [HLK.out]; rfl) (by rw [HLK.out]; rfl) (Below.refl _ _)).mono ?_
          rintro e w8 ⟨rfl, hb8⟩
          have hst8 : Turn (Maps2 mI mE) w7 w8 := Turn.trans ((((New.refl _).alloc _)).turn (Maps2 mI mE)) (Below.turn' hb8 _)
          have HTp0_8 := Lib.hid (HTp0_7.out.trans hst8)
          have HTb1_8 := Lib.hid (HTb1_7.out.trans hst8)
          have HTb2_8 := Lib.hid (HTb2_7.out.trans hst8)
          have HTb3_8 := Lib.hid (Below.turn' hb8 (Maps2 mI mE))
          have HG_8 := Lib.hid ((HG_7.out.new ((New.refl _).alloc _)).below hb8)
          have HO8 : Hid (Below W0.heap.size W0 w8) := Lib.hid (Below.trans (HO7.out.alloc HO7.out.size _) (hb8.mono (by have := HO7.out.size; first | exact this | (simp only [World.size_alloc]; omega))))
          clear hst8 hb8
          obtain ⟨_, _, _, _, _, _, _, _, _, _, _, _, _, _⟩ := Hp0.out _ _ HTp0_8.out
          obtain ⟨_, _, _, _, _, _, _⟩ := Hb1.out _ _ HTb1_8.out
          obtain ⟨_, _, _⟩ := Hb2.out _ _ HTb2_8.out
          obtain ⟨_, _, _, _, _, _, _⟩ := Hb3.out _ _ HTb3_8.out
          have Hb4 : Hid (∀ S W, Turn S (w8.alloc (.cells #[.int .i64 o.ino.t, .int .i64 o.ino.r] 34)) W → (W.cell? ⟨w8.heap.size, 0, none⟩ = some (.int .i64 o.ino.t) ∧ W.cell? ⟨w8.heap.size, 1, none⟩ = some (.int .i64 o.ino.r) ∧ w8.heap.size < W.heap.size)) := Lib.hid fun S W hW => ⟨(hW.cell ⟨_, 0, none⟩ (by simp)).trans (cell_new _ _ rfl _ _ 0 _ rfl), (hW.cell ⟨_, 1, none⟩ (by simp)).trans (cell_new _ _ rfl _ _ 1 _ rfl), by have := hW.size; simp at this; omega⟩
          go_wp2_with fail
          refine (((HG_8.out.new ((New.refl _).alloc _)).reads HOK'.out (by have := HOK'.out.few; omega)).look ⟨o.at_, o.name⟩ o.ino true (w8.alloc (.cells #[.int .i64 o.ino.t, .int .i64 o.ino.r] 34)) (by rw [HC2.out]; rfl) (by rw [HC2.out]; rfl) (Below.refl _ _)).mono ?_
          rintro e w9 ⟨rfl, hb9⟩
          have hst9 : Turn (Maps2 mI mE) w8 w9 := Turn.trans ((((New.refl _).alloc _)).turn (Maps2 mI mE)) (Below.turn' hb9 _)
          have HTp0_9 := Lib.hid (HTp0_8.out.trans hst9)
          have HTb1_9 := Lib.hid (HTb1_8.out.trans hst9)
          have HTb2_9 := Lib.hid (HTb2_8.out.trans hst9)
          have HTb3_9 := Lib.hid (HTb3_8.out.trans hst9)
          have HTb4_9 := Lib.hid (Below.turn' hb9 (Maps2 mI mE))
          have HG_9 := Lib.hid ((HG_8.out.new ((New.refl _).alloc _)).below hb9)
          have HO9 : Hid (Below W0.heap.size W0 w9) := Lib.hid (Below.trans (HO8.out.alloc HO8.out.size _) (hb9.mono (by have := HO8.out.size; first | exact this | (simp only [World.size_alloc]; omega))))
          clear hst9 hb9
          obtain ⟨_, _, _, _, _, _, _, _, _, _, _, _, _, _⟩ := Hp0.out _ _ HTp0_9.out
          obtain ⟨_, _, _, _, _, _, _⟩ := Hb1.out _ _ HTb1_9.out
          obtain ⟨_, _, _⟩ := Hb2.out _ _ HTb2_9.out
          obtain ⟨_, _, _, _, _, _, _⟩ := Hb3.out _ _ HTb3_9.out
          obtain ⟨_, _, _⟩ := Hb4.out _ _ HTb4_9.out
          have Hb5 : Hid (∀ S W, Turn S (w9.alloc (.cells #[.int .i64 o.ino.t, .int .i64 o.ino.r] 34)) W → (W.cell? ⟨w9.heap.size, 0, none⟩ = some (.int .i64 o.ino.t) ∧ W.cell? ⟨w9.heap.size, 1, none⟩ = some (.int .i64 o.ino.r) ∧ w9.heap.size < W.heap.size)) := Lib.hid fun S W hW => ⟨(hW.cell ⟨_, 0, none⟩ (by simp)).trans (cell_new _ _ rfl _ _ 0 _ rfl), (hW.cell ⟨_, 1, none⟩ (by simp)).trans (cell_new _ _ rfl _ _ 1 _ rfl), by have := hW.size; simp at this; omega⟩
          go_wp2_with fail
          refine (((HG_9.out.new ((New.refl _).alloc _)).reads HOK'.out (by have := HOK'.out.few; omega)).entries (w9.alloc (.cells #[.int .i64 o.ino.t, .int .i64 o.ino.r] 34)) (Below.refl _ _)).mono ?_
          rintro e w10 ⟨sa10, sc10, rfl, _, hb10⟩
          have hst10 : Turn (Maps2 mI mE) w9 w10 := Turn.trans ((((New.refl _).alloc _)).turn (Maps2 mI mE)) (Below.turn' hb10 _)
          have HTp0_10 := Lib.hid (HTp0_9.out.trans hst10)
          have HTb1_10 := Lib.hid (HTb1_9.out.trans hst10)
          have HTb2_10 := Lib.hid (HTb2_9.out.trans hst10)
          have HTb3_10 := Lib.hid (HTb3_9.out.trans hst10)
          have HTb4_10 := Lib.hid (HTb4_9.out.trans hst10)
          have HTb5_10 := Lib.hid (Below.turn' hb10 (Maps2 mI mE))
          have HG_10 := Lib.hid ((HG_9.out.new ((New.refl _).alloc _)).below hb10)
          have HO10 : Hid (Below W0.heap.size W0 w10) := Lib.hid (Below.trans (HO9.out.alloc HO9.out.size _) (hb10.mono (by have := HO9.out.size; first | exact this | (simp only [World.size_alloc]; omega))))
          rw [HC3.out]
          clear hst10 hb10
          obtain ⟨_, _, _, _, _, _, _, _, _, _, _, _, _, _⟩ := Hp0.out _ _ HTp0_10.out
          obtain ⟨_, _, _, _, _, _, _⟩ := Hb1.out _ _ HTb1_10.out
          obtain ⟨_, _, _⟩ := Hb2.out _ _ HTb2_10.out
          obtain ⟨_, _, _, _, _, _, _⟩ := Hb3.out _ _ HTb3_10.out
          obtain ⟨_, _, _⟩ := Hb4.out _ _ HTb4_10.out
          obtain ⟨_, _, _⟩ := Hb5.out _ _ HTb5_10.out
          go_wp2
          go_ret
          exact ⟨by simp [*], HW.out.trans (HO10.out.mono HW.out.size)⟩
        · have HC1 := Lib.hid c1
          have HC2 := Lib.hid c2
          have HC3 := Lib.hid c3
          clear c1 c2 c3 hfew
          have HOK : Hid (G.Ok) := Lib.hid hok
          have HTH : Hid (G.Thin) := Lib.hid hth
          clear hok hth
          have HT0 : Hid (Turn (fun _ => False) W0 W0) := Lib.hid (Turn.refl _ _)
          obtain ⟨_, _, _, _, _, _, _, _, _, _, _, _, _, _⟩ := Hp0.out _ _ HT0.out
          go_enter Tryz.func6, Tryz.ntmps6
          go_wp2_with fail
          rw [← hW0]
          have HW0 := Lib.hid hW0
          clear hW0
          go_wp2_with fail
          refine (shown_any _).mono ?_
          rintro e w1 ⟨rfl, hb1⟩
          have HO1 : Hid (Below W0.heap.size W0 w1) := Lib.hid (HO0.out.trans (hb1.mono HO0.out.size))
          have HT_1 : Hid (Turn (fun _ => False) W0 w1) := Lib.hid (Below.turn' HO1.out _)
          clear hb1
          obtain ⟨_, _, _, _, _, _, _, _, _, _, _, _, _, _⟩ := Hp0.out _ _ HT_1.out
          go_wp2_with (go_at_call 32; refine (HF.out _ HO1.out).mono ?_; rintro y w' ⟨rfl, rfl⟩)
          go_wp2_with fail
          refine (HMD.out HLEN.out _ HO1.out).mono ?_
          rintro e w2 ⟨v2, rfl, ⟨gb, mI, mE, rfl, hG2, q1, q2, q3⟩, hb2⟩
          have HO2 : Hid (Below W0.heap.size W0 w2) := Lib.hid (HO1.out.trans (hb2.mono HO1.out.size))
          have HM : Hid (W0.heap.size ≤ mI ∧ W0.heap.size ≤ mE ∧ gb < w2.heap.size ∧ mI < w2.heap.size ∧ mE < w2.heap.size) := Lib.hid ⟨Nat.le_trans HO1.out.size q2, Nat.le_trans HO1.out.size q3, hG2.lt.1, hG2.lt.2.1, hG2.lt.2.2⟩
          have HT_2 : Hid (Turn (Maps2 mI mE) W0 w2) := Lib.hid (Below.turn' HO2.out _)
          have HG_2 : Hid (GrAt w2 gb mI mE G) := Lib.hid hG2
          clear hb2 hG2 q1 q2 q3
          obtain ⟨_, _, _, _, _, _, _, _, _, _, _, _, _, _⟩ := Hp0.out _ _ HT_2.out
          go_wp2_with fail
          refine ((HG_2.out.reads HOK.out (by have := HOK.out.few; omega)).get o.ino i true w2 HI.out HIS.out (Below.refl _ _)).mono ?_
          rintro e w3 ⟨rfl, hb3⟩
          have hst3 : Turn (Maps2 mI mE) w2 w3 := Turn.trans (Turn.refl (Maps2 mI mE) _) (Below.turn' hb3 _)
          have HTp0_3 := Lib.hid (HT_2.out.trans hst3)
          have HG_3 := Lib.hid ((HG_2.out.new (New.refl _)).below hb3)
          have HO3 : Hid (Below W0.heap.size W0 w3) := Lib.hid (Below.trans HO2.out (hb3.mono (by have := HO2.out.size; first | exact this | (simp only [World.size_alloc]; omega))))
          clear hst3 hb3
          obtain ⟨_, _, _, _, _, _, _, _, _, _, _, _, _, _⟩ := Hp0.out _ _ HTp0_3.out
          have Hb1 : Hid (∀ S W, Turn S (w3.alloc (.cells #[.int .i64 i.id.t, .int .i64 i.id.r, .int .i64 i.kind, .int .i64 i.links, .int .i64 i.mode, .string i.data] 62)) W → (W.cell? ⟨w3.heap.size, 0, none⟩ = some (.int .i64 i.id.t) ∧ W.cell? ⟨w3.heap.size, 1, none⟩ = some (.int .i64 i.id.r) ∧ W.cell? ⟨w3.heap.size, 2, none⟩ = some (.int .i64 i.kind) ∧ W.cell? ⟨w3.heap.size, 3, none⟩ = some (.int .i64 i.links) ∧ W.cell? ⟨w3.heap.size, 4, none⟩ = some (.int .i64 i.mode) ∧ W.cell? ⟨w3.heap.size, 5, none⟩ = some (.string i.data) ∧ w3.heap.size < W.heap.size)) := Lib.hid fun S W hW => ⟨(hW.cell ⟨_, 0, none⟩ (by simp)).trans (cell_new _ _ rfl _ _ 0 _ rfl), (hW.cell ⟨_, 1, none⟩ (by simp)).trans (cell_new _ _ rfl _ _ 1 _ rfl), (hW.cell ⟨_, 2, none⟩ (by simp)).trans (cell_new _ _ rfl _ _ 2 _ rfl), (hW.cell ⟨_, 3, none⟩ (by simp)).trans (cell_new _ _ rfl _ _ 3 _ rfl), (hW.cell ⟨_, 4, none⟩ (by simp)).trans (cell_new _ _ rfl _ _ 4 _ rfl), (hW.cell ⟨_, 5, none⟩ (by simp)).trans (cell_new _ _ rfl _ _ 5 _ rfl), by have := hW.size; simp at this; omega⟩
          go_wp2_with fail
          refine (((HG_3.out.new ((New.refl _).alloc _)).reads HOK.out (by have := HOK.out.few; omega)).look ⟨o.to, o.new⟩ ⟨0, 0⟩ false (w3.alloc (.cells #[.int .i64 i.id.t, .int .i64 i.id.r, .int .i64 i.kind, .int .i64 i.links, .int .i64 i.mode, .string i.data] 62)) (by rw [HC1.out]; rfl) (by rw [HC1.out]; rfl) (Below.refl _ _)).mono ?_
          rintro e w4 ⟨rfl, hb4⟩
          have hst4 : Turn (Maps2 mI mE) w3 w4 := Turn.trans ((((New.refl _).alloc _)).turn (Maps2 mI mE)) (Below.turn' hb4 _)
          have HTp0_4 := Lib.hid (HTp0_3.out.trans hst4)
          have HTb1_4 := Lib.hid (Below.turn' hb4 (Maps2 mI mE))
          have HG_4 := Lib.hid ((HG_3.out.new ((New.refl _).alloc _)).below hb4)
          have HO4 : Hid (Below W0.heap.size W0 w4) := Lib.hid (Below.trans (HO3.out.alloc HO3.out.size _) (hb4.mono (by have := HO3.out.size; first | exact this | (simp only [World.size_alloc]; omega))))
          clear hst4 hb4
          obtain ⟨_, _, _, _, _, _, _, _, _, _, _, _, _, _⟩ := Hp0.out _ _ HTp0_4.out
          obtain ⟨_, _, _, _, _, _, _⟩ := Hb1.out _ _ HTb1_4.out
          have Hb2 : Hid (∀ S W, Turn S (w4.alloc (.cells #[.int .i64 0, .int .i64 0] 34)) W → (W.cell? ⟨w4.heap.size, 0, none⟩ = some (.int .i64 0) ∧ W.cell? ⟨w4.heap.size, 1, none⟩ = some (.int .i64 0) ∧ w4.heap.size < W.heap.size)) := Lib.hid fun S W hW => ⟨(hW.cell ⟨_, 0, none⟩ (by simp)).trans (cell_new _ _ rfl _ _ 0 _ rfl), (hW.cell ⟨_, 1, none⟩ (by simp)).trans (cell_new _ _ rfl _ _ 1 _ rfl), by have := hW.size; simp at this; omega⟩
          go_wp2_with fail
          refine (((HG_4.out.new ((New.refl _).alloc _)).reads HOK.out (by have := HOK.out.few; omega)).entries (w4.alloc (.cells #[.int .i64 0, .int .i64 0] 34)) (Below.refl _ _)).mono ?_
          rintro e w5 ⟨sa5, sc5, rfl, _, hb5⟩
          have hst5 : Turn (Maps2 mI mE) w4 w5 := Turn.trans ((((New.refl _).alloc _)).turn (Maps2 mI mE)) (Below.turn' hb5 _)
          have HTp0_5 := Lib.hid (HTp0_4.out.trans hst5)
          have HTb1_5 := Lib.hid (HTb1_4.out.trans hst5)
          have HTb2_5 := Lib.hid (Below.turn' hb5 (Maps2 mI mE))
          have HG_5 := Lib.hid ((HG_4.out.new ((New.refl _).alloc _)).below hb5)
          have HO5 : Hid (Below W0.heap.size W0 w5) := Lib.hid (Below.trans (HO4.out.alloc HO4.out.size _) (hb5.mono (by have := HO4.out.size; first | exact this | (simp only [World.size_alloc]; omega))))
          clear hst5 hb5
          obtain ⟨_, _, _, _, _, _, _, _, _, _, _, _, _, _⟩ := Hp0.out _ _ HTp0_5.out
          obtain ⟨_, _, _, _, _, _, _⟩ := Hb1.out _ _ HTb1_5.out
          obtain ⟨_, _, _⟩ := Hb2.out _ _ HTb2_5.out
          go_wp2_with fail
          refine (apply_any gb mI mE G o w5 HG_5.out HOK.out HTH.out HSM.out).mono ?_
          rintro e w6 ⟨rfl, hG6, hT6⟩
          rw [HWH.out]
          rw [HG'.out] at hG6
          have hst6 : Turn (Maps2 mI mE) w5 w6 := Turn.trans (Turn.refl (Maps2 mI mE) _) hT6
          have HTp0_6 := Lib.hid (HTp0_5.out.trans hst6)
          have HTb1_6 := Lib.hid (HTb1_5.out.trans hst6)
          have HTb2_6 := Lib.hid (HTb2_5.out.trans hst6)
          have HG_6 := Lib.hid hG6
          have HO6 : Hid (Below W0.heap.size W0 w6) := Lib.hid (Below.trans HO5.out (own_below hT6 HM.out.1 HM.out.2.1 (by have := HO5.out.size; first | exact this | (simp only [World.size_alloc]; omega))))
          clear hst6 hT6 hG6
          obtain ⟨_, _, _, _, _, _, _, _, _, _, _, _, _, _⟩ := Hp0.out _ _ HTp0_6.out
          obtain ⟨_, _, _, _, _, _, _⟩ := Hb1.out _ _ HTb1_6.out
          obtain ⟨_, _, _⟩ := Hb2.out _ _ HTb2_6.out
          go_wp2_with fail
          refine ((HG_6.out.reads HOK'.out (by have := HOK'.out.few; omega)).get o.ino i true w6 HI'.out HIS'.out (Below.refl _ _)).mono ?_
          rintro e w7 ⟨rfl, hb7⟩
          have hst7 : Turn (Maps2 mI mE) w6 w7 := Turn.trans (Turn.refl (Maps2 mI mE) _) (Below.turn' hb7 _)
          have HTp0_7 := Lib.hid (HTp0_6.out.trans hst7)
          have HTb1_7 := Lib.hid (HTb1_6.out.trans hst7)
          have HTb2_7 := Lib.hid (HTb2_6.out.trans hst7)
          have HG_7 := Lib.hid ((HG_6.out.new (New.refl _)).below hb7)
          have HO7 : Hid (Below W0.heap.size W0 w7) := Lib.hid (Below.trans HO6.out (hb7.mono (by have := HO6.out.size; first | exact this | (simp only [World.size_alloc]; omega))))
          clear hst7 hb7
          obtain ⟨_, _, _, _, _, _, _, _, _, _, _, _, _, _⟩ := Hp0.out _ _ HTp0_7.out
          obtain ⟨_, _, _, _, _, _, _⟩ := Hb1.out _ _ HTb1_7.out
          obtain ⟨_, _, _⟩ := Hb2.out _ _ HTb2_7.out
          have Hb3 : Hid (∀ S W, Turn S (w7.alloc (.cells #[.int .i64 i.id.t, .int .i64 i.id.r, .int .i64 i.kind, .int .i64 i.links, .int .i64 i.mode, .string i.data] 62)) W → (W.cell? ⟨w7.heap.size, 0, none⟩ = some (.int .i64 i.id.t) ∧ W.cell? ⟨w7.heap.size, 1, none⟩ = some (.int .i64 i.id.r) ∧ W.cell? ⟨w7.heap.size, 2, none⟩ = some (.int .i64 i.kind) ∧ W.cell? ⟨w7.heap.size, 3, none⟩ = some (.int .i64 i.links) ∧ W.cell? ⟨w7.heap.size, 4, none⟩ = some (.int .i64 i.mode) ∧ W.cell? ⟨w7.heap.size, 5, none⟩ = some (.string i.data) ∧ w7.heap.size < W.heap.size)) := Lib.hid fun S W hW => ⟨(hW.cell ⟨_, 0, none⟩ (by simp)).trans (cell_new _ _ rfl _ _ 0 _ rfl), (hW.cell ⟨_, 1, none⟩ (by simp)).trans (cell_new _ _ rfl _ _ 1 _ rfl), (hW.cell ⟨_, 2, none⟩ (by simp)).trans (cell_new _ _ rfl _ _ 2 _ rfl), (hW.cell ⟨_, 3, none⟩ (by simp)).trans (cell_new _ _ rfl _ _ 3 _ rfl), (hW.cell ⟨_, 4, none⟩ (by simp)).trans (cell_new _ _ rfl _ _ 4 _ rfl), (hW.cell ⟨_, 5, none⟩ (by simp)).trans (cell_new _ _ rfl _ _ 5 _ rfl), by have := hW.size; simp at this; omega⟩
          go_wp2_with fail
          refine (((HG_7.out.new ((New.refl _).alloc _)).reads HOK'.out (by have := HOK'.out.few; omega)).look ⟨o.to, o.new⟩ o.ino true (w7.alloc (.cells #[.int .i64 i.id.t, .int .i64 i.id.r, .int .i64 i.kind, .int .i64 i.links, .int .i64 i.mode, .string i.data] 62)) (by rw [HLK.out]; rfl) (by rw [HLK.out]; rfl) (Below.refl _ _)).mono ?_
          rintro e w8 ⟨rfl, hb8⟩
          have hst8 : Turn (Maps2 mI mE) w7 w8 := Turn.trans ((((New.refl _).alloc _)).turn (Maps2 mI mE)) (Below.turn' hb8 _)
          have HTp0_8 := Lib.hid (HTp0_7.out.trans hst8)
          have HTb1_8 := Lib.hid (HTb1_7.out.trans hst8)
          have HTb2_8 := Lib.hid (HTb2_7.out.trans hst8)
          have HTb3_8 := Lib.hid (Below.turn' hb8 (Maps2 mI mE))
          have HG_8 := Lib.hid ((HG_7.out.new ((New.refl _).alloc _)).below hb8)
          have HO8 : Hid (Below W0.heap.size W0 w8) := Lib.hid (Below.trans (HO7.out.alloc HO7.out.size _) (hb8.mono (by have := HO7.out.size; first | exact this | (simp only [World.size_alloc]; omega))))
          clear hst8 hb8
          obtain ⟨_, _, _, _, _, _, _, _, _, _, _, _, _, _⟩ := Hp0.out _ _ HTp0_8.out
          obtain ⟨_, _, _, _, _, _, _⟩ := Hb1.out _ _ HTb1_8.out
          obtain ⟨_, _, _⟩ := Hb2.out _ _ HTb2_8.out
          obtain ⟨_, _, _, _, _, _, _⟩ := Hb3.out _ _ HTb3_8.out
          have Hb4 : Hid (∀ S W, Turn S (w8.alloc (.cells #[.int .i64 o.ino.t, .int .i64 o.ino.r] 34)) W → (W.cell? ⟨w8.heap.size, 0, none⟩ = some (.int .i64 o.ino.t) ∧ W.cell? ⟨w8.heap.size, 1, none⟩ = some (.int .i64 o.ino.r) ∧ w8.heap.size < W.heap.size)) := Lib.hid fun S W hW => ⟨(hW.cell ⟨_, 0, none⟩ (by simp)).trans (cell_new _ _ rfl _ _ 0 _ rfl), (hW.cell ⟨_, 1, none⟩ (by simp)).trans (cell_new _ _ rfl _ _ 1 _ rfl), by have := hW.size; simp at this; omega⟩
          go_wp2_with fail
          refine (((HG_8.out.new ((New.refl _).alloc _)).reads HOK'.out (by have := HOK'.out.few; omega)).look ⟨o.at_, o.name⟩ ⟨0, 0⟩ false (w8.alloc (.cells #[.int .i64 o.ino.t, .int .i64 o.ino.r] 34)) (by rw [HC2.out]; rfl) (by rw [HC2.out]; rfl) (Below.refl _ _)).mono ?_
          rintro e w9 ⟨rfl, hb9⟩
          have hst9 : Turn (Maps2 mI mE) w8 w9 := Turn.trans ((((New.refl _).alloc _)).turn (Maps2 mI mE)) (Below.turn' hb9 _)
          have HTp0_9 := Lib.hid (HTp0_8.out.trans hst9)
          have HTb1_9 := Lib.hid (HTb1_8.out.trans hst9)
          have HTb2_9 := Lib.hid (HTb2_8.out.trans hst9)
          have HTb3_9 := Lib.hid (HTb3_8.out.trans hst9)
          have HTb4_9 := Lib.hid (Below.turn' hb9 (Maps2 mI mE))
          have HG_9 := Lib.hid ((HG_8.out.new ((New.refl _).alloc _)).below hb9)
          have HO9 : Hid (Below W0.heap.size W0 w9) := Lib.hid (Below.trans (HO8.out.alloc HO8.out.size _) (hb9.mono (by have := HO8.out.size; first | exact this | (simp only [World.size_alloc]; omega))))
          clear hst9 hb9
          obtain ⟨_, _, _, _, _, _, _, _, _, _, _, _, _, _⟩ := Hp0.out _ _ HTp0_9.out
          obtain ⟨_, _, _, _, _, _, _⟩ := Hb1.out _ _ HTb1_9.out
          obtain ⟨_, _, _⟩ := Hb2.out _ _ HTb2_9.out
          obtain ⟨_, _, _, _, _, _, _⟩ := Hb3.out _ _ HTb3_9.out
          obtain ⟨_, _, _⟩ := Hb4.out _ _ HTb4_9.out
          have Hb5 : Hid (∀ S W, Turn S (w9.alloc (.cells #[.int .i64 0, .int .i64 0] 34)) W → (W.cell? ⟨w9.heap.size, 0, none⟩ = some (.int .i64 0) ∧ W.cell? ⟨w9.heap.size, 1, none⟩ = some (.int .i64 0) ∧ w9.heap.size < W.heap.size)) := Lib.hid fun S W hW => ⟨(hW.cell ⟨_, 0, none⟩ (by simp)).trans (cell_new _ _ rfl _ _ 0 _ rfl), (hW.cell ⟨_, 1, none⟩ (by simp)).trans (cell_new _ _ rfl _ _ 1 _ rfl), by have := hW.size; simp at this; omega⟩
          go_wp2_with fail
          refine (((HG_9.out.new ((New.refl _).alloc _)).reads HOK'.out (by have := HOK'.out.few; omega)).entries (w9.alloc (.cells #[.int .i64 0, .int .i64 0] 34)) (Below.refl _ _)).mono ?_
          rintro e w10 ⟨sa10, sc10, rfl, _, hb10⟩
          have hst10 : Turn (Maps2 mI mE) w9 w10 := Turn.trans ((((New.refl _).alloc _)).turn (Maps2 mI mE)) (Below.turn' hb10 _)
          have HTp0_10 := Lib.hid (HTp0_9.out.trans hst10)
          have HTb1_10 := Lib.hid (HTb1_9.out.trans hst10)
          have HTb2_10 := Lib.hid (HTb2_9.out.trans hst10)
          have HTb3_10 := Lib.hid (HTb3_9.out.trans hst10)
          have HTb4_10 := Lib.hid (HTb4_9.out.trans hst10)
          have HTb5_10 := Lib.hid (Below.turn' hb10 (Maps2 mI mE))
          have HG_10 := Lib.hid ((HG_9.out.new ((New.refl _).alloc _)).below hb10)
          have HO10 : Hid (Below W0.heap.size W0 w10) := Lib.hid (Below.trans (HO9.out.alloc HO9.out.size _) (hb10.mono (by have := HO9.out.size; first | exact this | (simp only [World.size_alloc]; omega))))
          rw [HC3.out]
          clear hst10 hb10
          obtain ⟨_, _, _, _, _, _, _, _, _, _, _, _, _, _⟩ := Hp0.out _ _ HTp0_10.out
          obtain ⟨_, _, _, _, _, _, _⟩ := Hb1.out _ _ HTb1_10.out
          obtain ⟨_, _, _⟩ := Hb2.out _ _ HTb2_10.out
          obtain ⟨_, _, _, _, _, _, _⟩ := Hb3.out _ _ HTb3_10.out
          obtain ⟨_, _, _⟩ := Hb4.out _ _ HTb4_10.out
          obtain ⟨_, _, _⟩ := Hb5.out _ _ HTb5_10.out
          go_wp2
          go_ret
          exact ⟨by simp [*], HW.out.trans (HO10.out.mono HW.out.size)⟩
        · have HC1 := Lib.hid c1
          have HC2 := Lib.hid c2
          have q3 := fun w => eql_st_no t o.ino c4 w
          have q4 : IntKind.i64.wrap ((G.e.length : Int) - 1) = (G'.e.length : Int) := by
            rw [show ((G.e.length : Int) - 1) = (G'.e.length : Int) by omega]; exact wrapIn _ (by omega) (by omega)
          clear c4
          clear c1 c2 c3 hfew
          have HOK : Hid (G.Ok) := Lib.hid hok
          have HTH : Hid (G.Thin) := Lib.hid hth
          clear hok hth
          have HT0 : Hid (Turn (fun _ => False) W0 W0) := Lib.hid (Turn.refl _ _)
          obtain ⟨_, _, _, _, _, _, _, _, _, _, _, _, _, _⟩ := Hp0.out _ _ HT0.out
          go_enter Tryz.func6, Tryz.ntmps6
          go_wp2_with fail
          rw [← hW0]
          have HW0 := Lib.hid hW0
          clear hW0
          go_wp2_with fail
          refine (shown_any _).mono ?_
          rintro e w1 ⟨rfl, hb1⟩
          have HO1 : Hid (Below W0.heap.size W0 w1) := Lib.hid (HO0.out.trans (hb1.mono HO0.out.size))
          have HT_1 : Hid (Turn (fun _ => False) W0 w1) := Lib.hid (Below.turn' HO1.out _)
          clear hb1
          obtain ⟨_, _, _, _, _, _, _, _, _, _, _, _, _, _⟩ := Hp0.out _ _ HT_1.out
          go_wp2_with (go_at_call 32; refine (HF.out _ HO1.out).mono ?_; rintro y w' ⟨rfl, rfl⟩)
          go_wp2_with fail
          refine (HMD.out HLEN.out _ HO1.out).mono ?_
          rintro e w2 ⟨v2, rfl, ⟨gb, mI, mE, rfl, hG2, q1, q2, q3⟩, hb2⟩
          have HO2 : Hid (Below W0.heap.size W0 w2) := Lib.hid (HO1.out.trans (hb2.mono HO1.out.size))
          have HM : Hid (W0.heap.size ≤ mI ∧ W0.heap.size ≤ mE ∧ gb < w2.heap.size ∧ mI < w2.heap.size ∧ mE < w2.heap.size) := Lib.hid ⟨Nat.le_trans HO1.out.size q2, Nat.le_trans HO1.out.size q3, hG2.lt.1, hG2.lt.2.1, hG2.lt.2.2⟩
          have HT_2 : Hid (Turn (Maps2 mI mE) W0 w2) := Lib.hid (Below.turn' HO2.out _)
          have HG_2 : Hid (GrAt w2 gb mI mE G) := Lib.hid hG2
          clear hb2 hG2 q1 q2 q3
          obtain ⟨_, _, _, _, _, _, _, _, _, _, _, _, _, _⟩ := Hp0.out _ _ HT_2.out
          go_wp2_with fail
          refine ((HG_2.out.reads HOK.out (by have := HOK.out.few; omega)).get o.ino i true w2 HI.out HIS.out (Below.refl _ _)).mono ?_
          rintro e w3 ⟨rfl, hb3⟩
          have hst3 : Turn (Maps2 mI mE) w2 w3 := Turn.trans (Turn.refl (Maps2 mI mE) _) (Below.turn' hb3 _)
          have HTp0_3 := Lib.hid (HT_2.out.trans hst3)
          have HG_3 := Lib.hid ((HG_2.out.new (New.refl _)).below hb3)
          have HO3 : Hid (Below W0.heap.size W0 w3) := Lib.hid (Below.trans HO2.out (hb3.mono (by have := HO2.out.size; first | exact this | (simp only [World.size_alloc]; omega))))
          clear hst3 hb3
          obtain ⟨_, _, _, _, _, _, _, _, _, _, _, _, _, _⟩ := Hp0.out _ _ HTp0_3.out
          have Hb1 : Hid (∀ S W, Turn S (w3.alloc (.cells #[.int .i64 i.id.t, .int .i64 i.id.r, .int .i64 i.kind, .int .i64 i.links, .int .i64 i.mode, .string i.data] 62)) W → (W.cell? ⟨w3.heap.size, 0, none⟩ = some (.int .i64 i.id.t) ∧ W.cell? ⟨w3.heap.size, 1, none⟩ = some (.int .i64 i.id.r) ∧ W.cell? ⟨w3.heap.size, 2, none⟩ = some (.int .i64 i.kind) ∧ W.cell? ⟨w3.heap.size, 3, none⟩ = some (.int .i64 i.links) ∧ W.cell? ⟨w3.heap.size, 4, none⟩ = some (.int .i64 i.mode) ∧ W.cell? ⟨w3.heap.size, 5, none⟩ = some (.string i.data) ∧ w3.heap.size < W.heap.size)) := Lib.hid fun S W hW => ⟨(hW.cell ⟨_, 0, none⟩ (by simp)).trans (cell_new _ _ rfl _ _ 0 _ rfl), (hW.cell ⟨_, 1, none⟩ (by simp)).trans (cell_new _ _ rfl _ _ 1 _ rfl), (hW.cell ⟨_, 2, none⟩ (by simp)).trans (cell_new _ _ rfl _ _ 2 _ rfl), (hW.cell ⟨_, 3, none⟩ (by simp)).trans (cell_new _ _ rfl _ _ 3 _ rfl), (hW.cell ⟨_, 4, none⟩ (by simp)).trans (cell_new _ _ rfl _ _ 4 _ rfl), (hW.cell ⟨_, 5, none⟩ (by simp)).trans (cell_new _ _ rfl _ _ 5 _ rfl), by have := hW.size; simp at this; omega⟩
          go_wp2_with fail
          refine (((HG_3.out.new ((New.refl _).alloc _)).reads HOK.out (by have := HOK.out.few; omega)).look ⟨o.to, o.new⟩ t true (w3.alloc (.cells #[.int .i64 i.id.t, .int .i64 i.id.r, .int .i64 i.kind, .int .i64 i.links, .int .i64 i.mode, .string i.data] 62)) (by rw [HC1.out]; rfl) (by rw [HC1.out]; rfl) (Below.refl _ _)).mono ?_
          rintro e w4 ⟨rfl, hb4⟩
          have hst4 : Turn (Maps2 mI mE) w3 w4 := Turn.trans ((((New.refl _).alloc _)).turn (Maps2 mI mE)) (Below.turn' hb4 _)
          have HTp0_4 := Lib.hid (HTp0_3.out.trans hst4)
          have HTb1_4 := Lib.hid (Below.turn' hb4 (Maps2 mI mE))
          have HG_4 := Lib.hid ((HG_3.out.new ((New.refl _).alloc _)).below hb4)
          have HO4 : Hid (Below W0.heap.size W0 w4) := Lib.hid (Below.trans (HO3.out.alloc HO3.out.size _) (hb4.mono (by have := HO3.out.size; first | exact this | (simp only [World.size_alloc]; omega))))
          clear hst4 hb4
          obtain ⟨_, _, _, _, _, _, _, _, _, _, _, _, _, _⟩ := Hp0.out _ _ HTp0_4.out
          obtain ⟨_, _, _, _, _, _, _⟩ := Hb1.out _ _ HTb1_4.out
          have Hb2 : Hid (∀ S W, Turn S (w4.alloc (.cells #[.int .i64 t.t, .int .i64 t.r] 34)) W → (W.cell? ⟨w4.heap.size, 0, none⟩ = some (.int .i64 t.t) ∧ W.cell? ⟨w4.heap.size, 1, none⟩ = some (.int .i64 t.r) ∧ w4.heap.size < W.heap.size)) := Lib.hid fun S W hW => ⟨(hW.cell ⟨_, 0, none⟩ (by simp)).trans (cell_new _ _ rfl _ _ 0 _ rfl), (hW.cell ⟨_, 1, none⟩ (by simp)).trans (cell_new _ _ rfl _ _ 1 _ rfl), by have := hW.size; simp at this; omega⟩
          go_wp2_with fail
          refine (((HG_4.out.new ((New.refl _).alloc _)).reads HOK.out (by have := HOK.out.few; omega)).entries (w4.alloc (.cells #[.int .i64 t.t, .int .i64 t.r] 34)) (Below.refl _ _)).mono ?_
          rintro e w5 ⟨sa5, sc5, rfl, _, hb5⟩
          have hst5 : Turn (Maps2 mI mE) w4 w5 := Turn.trans ((((New.refl _).alloc _)).turn (Maps2 mI mE)) (Below.turn' hb5 _)
          have HTp0_5 := Lib.hid (HTp0_4.out.trans hst5)
          have HTb1_5 := Lib.hid (HTb1_4.out.trans hst5)
          have HTb2_5 := Lib.hid (Below.turn' hb5 (Maps2 mI mE))
          have HG_5 := Lib.hid ((HG_4.out.new ((New.refl _).alloc _)).below hb5)
          have HO5 : Hid (Below W0.heap.size W0 w5) := Lib.hid (Below.trans (HO4.out.alloc HO4.out.size _) (hb5.mono (by have := HO4.out.size; first | exact this | (simp only [World.size_alloc]; omega))))
          clear hst5 hb5
          obtain ⟨_, _, _, _, _, _, _, _, _, _, _, _, _, _⟩ := Hp0.out _ _ HTp0_5.out
          obtain ⟨_, _, _, _, _, _, _⟩ := Hb1.out _ _ HTb1_5.out
          obtain ⟨_, _, _⟩ := Hb2.out _ _ HTb2_5.out
          go_wp2_with fail
          refine (apply_any gb mI mE G o w5 HG_5.out HOK.out HTH.out HSM.out).mono ?_
          rintro e w6 ⟨rfl, hG6, hT6⟩
          rw [HWH.out]
          rw [HG'.out] at hG6
          have hst6 : Turn (Maps2 mI mE) w5 w6 := Turn.trans (Turn.refl (Maps2 mI mE) _) hT6
          have HTp0_6 := Lib.hid (HTp0_5.out.trans hst6)
          have HTb1_6 := Lib.hid (HTb1_5.out.trans hst6)
          have HTb2_6 := Lib.hid (HTb2_5.out.trans hst6)
          have HG_6 := Lib.hid hG6
          have HO6 : Hid (Below W0.heap.size W0 w6) := Lib.hid (Below.trans HO5.out (own_below hT6 HM.out.1 HM.out.2.1 (by have := HO5.out.size; first | exact this | (simp only [World.size_alloc]; omega))))
          clear hst6 hT6 hG6
          obtain ⟨_, _, _, _, _, _, _, _, _, _, _, _, _, _⟩ := Hp0.out _ _ HTp0_6.out
          obtain ⟨_, _, _, _, _, _, _⟩ := Hb1.out _ _ HTb1_6.out
          obtain ⟨_, _, _⟩ := Hb2.out _ _ HTb2_6.out
          go_wp2_with fail
          refine ((HG_6.out.reads HOK'.out (by have := HOK'.out.few; omega)).get o.ino i true w6 HI'.out HIS'.out (Below.refl _ _)).mono ?_
          rintro e w7 ⟨rfl, hb7⟩
          have hst7 : Turn (Maps2 mI mE) w6 w7 := Turn.trans (Turn.refl (Maps2 mI mE) _) (Below.turn' hb7 _)
          have HTp0_7 := Lib.hid (HTp0_6.out.trans hst7)
          have HTb1_7 := Lib.hid (HTb1_6.out.trans hst7)
          have HTb2_7 := Lib.hid (HTb2_6.out.trans hst7)
          have HG_7 := Lib.hid ((HG_6.out.new (New.refl _)).below hb7)
          have HO7 : Hid (Below W0.heap.size W0 w7) := Lib.hid (Below.trans HO6.out (hb7.mono (by have := HO6.out.size; first | exact this | (simp only [World.size_alloc]; omega))))
          clear hst7 hb7
          obtain ⟨_, _, _, _, _, _, _, _, _, _, _, _, _, _⟩ := Hp0.out _ _ HTp0_7.out
          obtain ⟨_, _, _, _, _, _, _⟩ := Hb1.out _ _ HTb1_7.out
          obtain ⟨_, _, _⟩ := Hb2.out _ _ HTb2_7.out
          have Hb3 : Hid (∀ S W, Turn S (w7.alloc (.cells #[.int .i64 i.id.t, .int .i64 i.id.r, .int .i64 i.kind, .int .i64 i.links, .int .i64 i.mode, .string i.data] 62)) W → (W.cell? ⟨w7.heap.size, 0, none⟩ = some (.int .i64 i.id.t) ∧ W.cell? ⟨w7.heap.size, 1, none⟩ = some (.int .i64 i.id.r) ∧ W.cell? ⟨w7.heap.size, 2, none⟩ = some (.int .i64 i.kind) ∧ W.cell? ⟨w7.heap.size, 3, none⟩ = some (.int .i64 i.links) ∧ W.cell? ⟨w7.heap.size, 4, none⟩ = some (.int .i64 i.mode) ∧ W.cell? ⟨w7.heap.size, 5, none⟩ = some (.string i.data) ∧ w7.heap.size < W.heap.size)) := Lib.hid fun S W hW => ⟨(hW.cell ⟨_, 0, none⟩ (by simp)).trans (cell_new _ _ rfl _ _ 0 _ rfl), (hW.cell ⟨_, 1, none⟩ (by simp)).trans (cell_new _ _ rfl _ _ 1 _ rfl), (hW.cell ⟨_, 2, none⟩ (by simp)).trans (cell_new _ _ rfl _ _ 2 _ rfl), (hW.cell ⟨_, 3, none⟩ (by simp)).trans (cell_new _ _ rfl _ _ 3 _ rfl), (hW.cell ⟨_, 4, none⟩ (by simp)).trans (cell_new _ _ rfl _ _ 4 _ rfl), (hW.cell ⟨_, 5, none⟩ (by simp)).trans (cell_new _ _ rfl _ _ 5 _ rfl), by have := hW.size; simp at this; omega⟩
          go_wp2_with fail
          refine (((HG_7.out.new ((New.refl _).alloc _)).reads HOK'.out (by have := HOK'.out.few; omega)).look ⟨o.to, o.new⟩ o.ino true (w7.alloc (.cells #[.int .i64 i.id.t, .int .i64 i.id.r, .int .i64 i.kind, .int .i64 i.links, .int .i64 i.mode, .string i.data] 62)) (by rw [HLK.out]; rfl) (by rw [HLK.out]; rfl) (Below.refl _ _)).mono ?_
          rintro e w8 ⟨rfl, hb8⟩
          have hst8 : Turn (Maps2 mI mE) w7 w8 := Turn.trans ((((New.refl _).alloc _)).turn (Maps2 mI mE)) (Below.turn' hb8 _)
          have HTp0_8 := Lib.hid (HTp0_7.out.trans hst8)
          have HTb1_8 := Lib.hid (HTb1_7.out.trans hst8)
          have HTb2_8 := Lib.hid (HTb2_7.out.trans hst8)
          have HTb3_8 := Lib.hid (Below.turn' hb8 (Maps2 mI mE))
          have HG_8 := Lib.hid ((HG_7.out.new ((New.refl _).alloc _)).below hb8)
          have HO8 : Hid (Below W0.heap.size W0 w8) := Lib.hid (Below.trans (HO7.out.alloc HO7.out.size _) (hb8.mono (by have := HO7.out.size; first | exact this | (simp only [World.size_alloc]; omega))))
          clear hst8 hb8
          obtain ⟨_, _, _, _, _, _, _, _, _, _, _, _, _, _⟩ := Hp0.out _ _ HTp0_8.out
          obtain ⟨_, _, _, _, _, _, _⟩ := Hb1.out _ _ HTb1_8.out
          obtain ⟨_, _, _⟩ := Hb2.out _ _ HTb2_8.out
          obtain ⟨_, _, _, _, _, _, _⟩ := Hb3.out _ _ HTb3_8.out
          have Hb4 : Hid (∀ S W, Turn S (w8.alloc (.cells #[.int .i64 o.ino.t, .int .i64 o.ino.r] 34)) W → (W.cell? ⟨w8.heap.size, 0, none⟩ = some (.int .i64 o.ino.t) ∧ W.cell? ⟨w8.heap.size, 1, none⟩ = some (.int .i64 o.ino.r) ∧ w8.heap.size < W.heap.size)) := Lib.hid fun S W hW => ⟨(hW.cell ⟨_, 0, none⟩ (by simp)).trans (cell_new _ _ rfl _ _ 0 _ rfl), (hW.cell ⟨_, 1, none⟩ (by simp)).trans (cell_new _ _ rfl _ _ 1 _ rfl), by have := hW.size; simp at this; omega⟩
          go_wp2_with fail
          refine (((HG_8.out.new ((New.refl _).alloc _)).reads HOK'.out (by have := HOK'.out.few; omega)).look ⟨o.at_, o.name⟩ ⟨0, 0⟩ false (w8.alloc (.cells #[.int .i64 o.ino.t, .int .i64 o.ino.r] 34)) (by rw [HC2.out]; rfl) (by rw [HC2.out]; rfl) (Below.refl _ _)).mono ?_
          rintro e w9 ⟨rfl, hb9⟩
          have hst9 : Turn (Maps2 mI mE) w8 w9 := Turn.trans ((((New.refl _).alloc _)).turn (Maps2 mI mE)) (Below.turn' hb9 _)
          have HTp0_9 := Lib.hid (HTp0_8.out.trans hst9)
          have HTb1_9 := Lib.hid (HTb1_8.out.trans hst9)
          have HTb2_9 := Lib.hid (HTb2_8.out.trans hst9)
          have HTb3_9 := Lib.hid (HTb3_8.out.trans hst9)
          have HTb4_9 := Lib.hid (Below.turn' hb9 (Maps2 mI mE))
          have HG_9 := Lib.hid ((HG_8.out.new ((New.refl _).alloc _)).below hb9)
          have HO9 : Hid (Below W0.heap.size W0 w9) := Lib.hid (Below.trans (HO8.out.alloc HO8.out.size _) (hb9.mono (by have := HO8.out.size; first | exact this | (simp only [World.size_alloc]; omega))))
          clear hst9 hb9
          obtain ⟨_, _, _, _, _, _, _, _, _, _, _, _, _, _⟩ := Hp0.out _ _ HTp0_9.out
          obtain ⟨_, _, _, _, _, _, _⟩ := Hb1.out _ _ HTb1_9.out
          obtain ⟨_, _, _⟩ := Hb2.out _ _ HTb2_9.out
          obtain ⟨_, _, _, _, _, _, _⟩ := Hb3.out _ _ HTb3_9.out
          obtain ⟨_, _, _⟩ := Hb4.out _ _ HTb4_9.out
          have Hb5 : Hid (∀ S W, Turn S (w9.alloc (.cells #[.int .i64 0, .int .i64 0] 34)) W → (W.cell? ⟨w9.heap.size, 0, none⟩ = some (.int .i64 0) ∧ W.cell? ⟨w9.heap.size, 1, none⟩ = some (.int .i64 0) ∧ w9.heap.size < W.heap.size)) := Lib.hid fun S W hW => ⟨(hW.cell ⟨_, 0, none⟩ (by simp)).trans (cell_new _ _ rfl _ _ 0 _ rfl), (hW.cell ⟨_, 1, none⟩ (by simp)).trans (cell_new _ _ rfl _ _ 1 _ rfl), by have := hW.size; simp at this; omega⟩
          go_wp2_with fail
          refine (((HG_9.out.new ((New.refl _).alloc _)).reads HOK'.out (by have := HOK'.out.few; omega)).entries (w9.alloc (.cells #[.int .i64 0, .int .i64 0] 34)) (Below.refl _ _)).mono ?_
          rintro e w10 ⟨sa10, sc10, rfl, _, hb10⟩
          have hst10 : Turn (Maps2 mI mE) w9 w10 := Turn.trans ((((New.refl _).alloc _)).turn (Maps2 mI mE)) (Below.turn' hb10 _)
          have HTp0_10 := Lib.hid (HTp0_9.out.trans hst10)
          have HTb1_10 := Lib.hid (HTb1_9.out.trans hst10)
          have HTb2_10 := Lib.hid (HTb2_9.out.trans hst10)
          have HTb3_10 := Lib.hid (HTb3_9.out.trans hst10)
          have HTb4_10 := Lib.hid (HTb4_9.out.trans hst10)
          have HTb5_10 := Lib.hid (Below.turn' hb10 (Maps2 mI mE))
          have HG_10 := Lib.hid ((HG_9.out.new ((New.refl _).alloc _)).below hb10)
          have HO10 : Hid (Below W0.heap.size W0 w10) := Lib.hid (Below.trans (HO9.out.alloc HO9.out.size _) (hb10.mono (by have := HO9.out.size; first | exact this | (simp only [World.size_alloc]; omega))))
          clear hst10 hb10
          obtain ⟨_, _, _, _, _, _, _, _, _, _, _, _, _, _⟩ := Hp0.out _ _ HTp0_10.out
          obtain ⟨_, _, _, _, _, _, _⟩ := Hb1.out _ _ HTb1_10.out
          obtain ⟨_, _, _⟩ := Hb2.out _ _ HTb2_10.out
          obtain ⟨_, _, _, _, _, _, _⟩ := Hb3.out _ _ HTb3_10.out
          obtain ⟨_, _, _⟩ := Hb4.out _ _ HTb4_10.out
          obtain ⟨_, _, _⟩ := Hb5.out _ _ HTb5_10.out
          go_wp2
          go_ret
          exact ⟨by simp [*], HW.out.trans (HO10.out.mono HW.out.size)⟩
      · have HWB : Hid ((ran l).opWhy o ≠ 0) := Lib.hid hw
        have hwb : ((ran l).opWhy o != 0) = true := by simpa using hw
        clear hk h_o
        obtain ⟨r, hr⟩ : ∃ r, r = (ran l).opWhy o := ⟨_, rfl⟩
        have HR := Lib.hid hr
        rw [← hr] at hwb
        clear hr hw
        generalize ran l = G at *
        have HOK : Hid (G.Ok) := Lib.hid hok
        have HTH : Hid (G.Thin) := Lib.hid hth
        clear hok hth
        have HT0 : Hid (Turn (fun _ => False) W0 W0) := Lib.hid (Turn.refl _ _)
        obtain ⟨_, _, _, _, _, _, _, _, _, _, _, _, _, _⟩ := Hp0.out _ _ HT0.out
        go_enter Tryz.func6, Tryz.ntmps6
        go_wp2_with fail
        rw [← hW0]
        have HW0 := Lib.hid hW0
        clear hW0
        go_wp2_with fail
        refine (shown_any _).mono ?_
        rintro e w1 ⟨rfl, hb1⟩
        have HO1 : Hid (Below W0.heap.size W0 w1) := Lib.hid (HO0.out.trans (hb1.mono HO0.out.size))
        have HT_1 : Hid (Turn (fun _ => False) W0 w1) := Lib.hid (Below.turn' HO1.out _)
        clear hb1
        obtain ⟨_, _, _, _, _, _, _, _, _, _, _, _, _, _⟩ := Hp0.out _ _ HT_1.out
        go_wp2_with (go_at_call 32; refine (HF.out _ HO1.out).mono ?_; rintro y w' ⟨rfl, rfl⟩)
        go_wp2_with fail
        refine (HMD.out HLEN.out _ HO1.out).mono ?_
        rintro e w2 ⟨v2, rfl, ⟨gb, mI, mE, rfl, hG2, q1, q2, q3⟩, hb2⟩
        have HO2 : Hid (Below W0.heap.size W0 w2) := Lib.hid (HO1.out.trans (hb2.mono HO1.out.size))
        have HM : Hid (W0.heap.size ≤ mI ∧ W0.heap.size ≤ mE ∧ gb < w2.heap.size ∧ mI < w2.heap.size ∧ mE < w2.heap.size) := Lib.hid ⟨Nat.le_trans HO1.out.size q2, Nat.le_trans HO1.out.size q3, hG2.lt.1, hG2.lt.2.1, hG2.lt.2.2⟩
        have HT_2 : Hid (Turn (Maps2 mI mE) W0 w2) := Lib.hid (Below.turn' HO2.out _)
        have HG_2 : Hid (GrAt w2 gb mI mE G) := Lib.hid hG2
        clear hb2 hG2 q1 q2 q3
        obtain ⟨_, _, _, _, _, _, _, _, _, _, _, _, _, _⟩ := Hp0.out _ _ HT_2.out
        have HIG : Hid (∀ (x : St) W, GrAt W gb mI mE G → Calls Tryz.prog 40 #[.pointer (some ⟨gb, 0, none⟩), (.agg #[.int .i64 x.t, .int .i64 x.r])] W fun y w' => ∃ (i : Ino) (b : Bool), y = .returned (.tuple #[(.agg #[.int .i64 i.id.t, .int .i64 i.id.r, .int .i64 i.kind, .int .i64 i.links, .int .i64 i.mode, .string i.data]), .bool b]) ∧ Below W.heap.size W w') := Lib.hid fun x W hW => ((hW.reads HOK.out (by have := HOK.out.few; omega)).get x _ _ W rfl rfl (Below.refl _ _)).mono fun y w' ⟨a, c⟩ => ⟨_, _, a, c⟩
        have HLG : Hid (∀ (p : Pl) W, GrAt W gb mI mE G → Calls Tryz.prog 41 #[.pointer (some ⟨gb, 0, none⟩), (.agg #[.int .i64 p.at_.t, .int .i64 p.at_.r]), .string p.name] W fun y w' => ∃ (i : St) (b : Bool), y = .returned (.tuple #[(.agg #[.int .i64 i.t, .int .i64 i.r]), .bool b]) ∧ Below W.heap.size W w') := Lib.hid fun p W hW => ((hW.reads HOK.out (by have := HOK.out.few; omega)).look p _ _ W rfl rfl (Below.refl _ _)).mono fun y w' ⟨a, c⟩ => ⟨_, _, a, c⟩
        go_wp2_with fail
        refine (HIG.out o.ino w2 HG_2.out).mono ?_
        rintro e w3 ⟨i, b1, rfl, hb3⟩
        have hst3 : Turn (Maps2 mI mE) w2 w3 := Turn.trans (Turn.refl (Maps2 mI mE) _) (Below.turn' hb3 _)
        have HTp0_3 := Lib.hid (HT_2.out.trans hst3)
        have HG_3 := Lib.hid ((HG_2.out.new (New.refl _)).below hb3)
        have HO3 : Hid (Below W0.heap.size W0 w3) := Lib.hid (Below.trans HO2.out (hb3.mono (by have := HO2.out.size; first | exact this | (simp only [World.size_alloc]; omega))))
        clear hst3 hb3
        obtain ⟨_, _, _, _, _, _, _, _, _, _, _, _, _, _⟩ := Hp0.out _ _ HTp0_3.out
        have Hb1 : Hid (∀ S W, Turn S (w3.alloc (.cells #[.int .i64 i.id.t, .int .i64 i.id.r, .int .i64 i.kind, .int .i64 i.links, .int .i64 i.mode, .string i.data] 62)) W → (W.cell? ⟨w3.heap.size, 0, none⟩ = some (.int .i64 i.id.t) ∧ W.cell? ⟨w3.heap.size, 1, none⟩ = some (.int .i64 i.id.r) ∧ W.cell? ⟨w3.heap.size, 2, none⟩ = some (.int .i64 i.kind) ∧ W.cell? ⟨w3.heap.size, 3, none⟩ = some (.int .i64 i.links) ∧ W.cell? ⟨w3.heap.size, 4, none⟩ = some (.int .i64 i.mode) ∧ W.cell? ⟨w3.heap.size, 5, none⟩ = some (.string i.data) ∧ w3.heap.size < W.heap.size)) := Lib.hid fun S W hW => ⟨(hW.cell ⟨_, 0, none⟩ (by simp)).trans (cell_new _ _ rfl _ _ 0 _ rfl), (hW.cell ⟨_, 1, none⟩ (by simp)).trans (cell_new _ _ rfl _ _ 1 _ rfl), (hW.cell ⟨_, 2, none⟩ (by simp)).trans (cell_new _ _ rfl _ _ 2 _ rfl), (hW.cell ⟨_, 3, none⟩ (by simp)).trans (cell_new _ _ rfl _ _ 3 _ rfl), (hW.cell ⟨_, 4, none⟩ (by simp)).trans (cell_new _ _ rfl _ _ 4 _ rfl), (hW.cell ⟨_, 5, none⟩ (by simp)).trans (cell_new _ _ rfl _ _ 5 _ rfl), by have := hW.size; simp at this; omega⟩
        go_wp2_with fail
        refine (HLG.out ⟨o.to, o.new⟩ (w3.alloc (.cells #[.int .i64 i.id.t, .int .i64 i.id.r, .int .i64 i.kind, .int .i64 i.links, .int .i64 i.mode, .string i.data] 62)) (HG_3.out.new ((New.refl _).alloc _))).mono ?_
        rintro e w4 ⟨t, b2, rfl, hb4⟩
        have hst4 : Turn (Maps2 mI mE) w3 w4 := Turn.trans ((((New.refl _).alloc _)).turn (Maps2 mI mE)) (Below.turn' hb4 _)
        have HTp0_4 := Lib.hid (HTp0_3.out.trans hst4)
        have HTb1_4 := Lib.hid (Below.turn' hb4 (Maps2 mI mE))
        have HG_4 := Lib.hid ((HG_3.out.new ((New.refl _).alloc _)).below hb4)
        have HO4 : Hid (Below W0.heap.size W0 w4) := Lib.hid (Below.trans (HO3.out.alloc HO3.out.size _) (hb4.mono (by have := HO3.out.size; first | exact this | (simp only [World.size_alloc]; omega))))
        clear hst4 hb4
        obtain ⟨_, _, _, _, _, _, _, _, _, _, _, _, _, _⟩ := Hp0.out _ _ HTp0_4.out
        obtain ⟨_, _, _, _, _, _, _⟩ := Hb1.out _ _ HTb1_4.out
        have Hb2 : Hid (∀ S W, Turn S (w4.alloc (.cells #[.int .i64 t.t, .int .i64 t.r] 34)) W → (W.cell? ⟨w4.heap.size, 0, none⟩ = some (.int .i64 t.t) ∧ W.cell? ⟨w4.heap.size, 1, none⟩ = some (.int .i64 t.r) ∧ w4.heap.size < W.heap.size)) := Lib.hid fun S W hW => ⟨(hW.cell ⟨_, 0, none⟩ (by simp)).trans (cell_new _ _ rfl _ _ 0 _ rfl), (hW.cell ⟨_, 1, none⟩ (by simp)).trans (cell_new _ _ rfl _ _ 1 _ rfl), by have := hW.size; simp at this; omega⟩
        go_wp2_with fail
        refine (((HG_4.out.new ((New.refl _).alloc _)).reads HOK.out (by have := HOK.out.few; omega)).entries (w4.alloc (.cells #[.int .i64 t.t, .int .i64 t.r] 34)) (Below.refl _ _)).mono ?_
        rintro e w5 ⟨sa5, sc5, rfl, _, hb5⟩
        have hst5 : Turn (Maps2 mI mE) w4 w5 := Turn.trans ((((New.refl _).alloc _)).turn (Maps2 mI mE)) (Below.turn' hb5 _)
        have HTp0_5 := Lib.hid (HTp0_4.out.trans hst5)
        have HTb1_5 := Lib.hid (HTb1_4.out.trans hst5)
        have HTb2_5 := Lib.hid (Below.turn' hb5 (Maps2 mI mE))
        have HG_5 := Lib.hid ((HG_4.out.new ((New.refl _).alloc _)).below hb5)
        have HO5 : Hid (Below W0.heap.size W0 w5) := Lib.hid (Below.trans (HO4.out.alloc HO4.out.size _) (hb5.mono (by have := HO4.out.size; first | exact this | (simp only [World.size_alloc]; omega))))
        clear hst5 hb5
        obtain ⟨_, _, _, _, _, _, _, _, _, _, _, _, _, _⟩ := Hp0.out _ _ HTp0_5.out
        obtain ⟨_, _, _, _, _, _, _⟩ := Hb1.out _ _ HTb1_5.out
        obtain ⟨_, _, _⟩ := Hb2.out _ _ HTb2_5.out
        go_wp2_with fail
        refine (apply_any gb mI mE G o w5 HG_5.out HOK.out HTH.out HSM.out).mono ?_
        rintro e w6 ⟨rfl, hG6, hT6⟩
        rw [← HR.out]
        have hst6 : Turn (Maps2 mI mE) w5 w6 := Turn.trans (Turn.refl (Maps2 mI mE) _) hT6
        have HTp0_6 := Lib.hid (HTp0_5.out.trans hst6)
        have HTb1_6 := Lib.hid (HTb1_5.out.trans hst6)
        have HTb2_6 := Lib.hid (HTb2_5.out.trans hst6)
        have HG_6 := Lib.hid hG6
        have HO6 : Hid (Below W0.heap.size W0 w6) := Lib.hid (Below.trans HO5.out (own_below hT6 HM.out.1 HM.out.2.1 (by have := HO5.out.size; first | exact this | (simp only [World.size_alloc]; omega))))
        clear hst6 hT6 hG6
        obtain ⟨_, _, _, _, _, _, _, _, _, _, _, _, _, _⟩ := Hp0.out _ _ HTp0_6.out
        obtain ⟨_, _, _, _, _, _, _⟩ := Hb1.out _ _ HTb1_6.out
        obtain ⟨_, _, _⟩ := Hb2.out _ _ HTb2_6.out
        go_wp2
        go_ret
        exact ⟨rfl, HW.out.trans (HO6.out.mono HW.out.size)⟩
    · have hk7 : (o.kind != 7) = true := by simp; omega
      clear hk hok hth h_o
      have HT0 : Hid (Turn (fun _ => False) W0 W0) := Lib.hid (Turn.refl _ _)
      obtain ⟨_, _, _, _, _, _, _, _, _, _, _, _, _, _⟩ := Hp0.out _ _ HT0.out
      go_enter Tryz.func6, Tryz.ntmps6
      go_wp2_with fail
      rw [← hW0]
      have HW0 := Lib.hid hW0
      clear hW0
      go_wp2_with fail
      refine (shown_any _).mono ?_
      rintro e w1 ⟨rfl, hb1⟩
      have HO1 : Hid (Below W0.heap.size W0 w1) := Lib.hid (HO0.out.trans (hb1.mono HO0.out.size))
      have HT_1 : Hid (Turn (fun _ => False) W0 w1) := Lib.hid (Below.turn' HO1.out _)
      clear hb1
      obtain ⟨_, _, _, _, _, _, _, _, _, _, _, _, _, _⟩ := Hp0.out _ _ HT_1.out
      go_wp2_with (go_at_call 32; refine (HF.out _ HO1.out).mono ?_; rintro y w' ⟨rfl, rfl⟩)
      go_ret
      exact ⟨rfl, HW.out.trans (HO1.out.mono HW.out.size)⟩
end Go.Proofs.YtmnkaohhjhjciaaGreat.L11
