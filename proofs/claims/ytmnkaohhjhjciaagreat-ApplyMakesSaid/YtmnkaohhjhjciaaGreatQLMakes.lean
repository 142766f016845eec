/-
  thimblelaw11.ApplyMakes: what is made; no condition but the texts' reach.
-/
import Derived.Test.YtmnkaohhjhjciaaGreatQL11
import Derived.Test.YtmnkaohhjhjciaaGreatQLCmp
namespace Go.Proofs.YtmnkaohhjhjciaaGreat.L11
open Go.RowKit Go.Shelf Go.Proofs

set_option maxRecDepth 100000 in
set_option maxHeartbeats 8000000 in
theorem makes_walk (v : Value) (l : List Op) (o : Op) (w : World) (hs : SlAt w 13 Op.cells v l) (hn : ∀ o ∈ l, o.Small) (h_o : o.Small) :
    Calls Tryz.prog 10 #[v, o.v] w fun y w' => y = .returned (.bool true) ∧ Below w.heap.size w w' := by
  obtain ⟨W0, hW0⟩ : ∃ W0, W0 = (w.alloc (.cells #[.int .i64 o.stamp.t, .int .i64 o.stamp.r, .int .i64 o.kind, .int .i64 o.at_.t, .int .i64 o.at_.r, .int .i64 o.ino.t, .int .i64 o.ino.r, .int .i64 o.to.t, .int .i64 o.to.r, .string o.name, .string o.new, .int .i64 o.off, .string o.data] 55)) := ⟨_, rfl⟩
  have HW : Hid (Below w.heap.size w W0) := Lib.hid (by rw [hW0]; exact ((New.refl w).alloc _).below)
  have HO0 : Hid (Below W0.heap.size W0 W0) := Lib.hid (Below.refl _ _)
  have Hp0 : Hid (∀ S W, Turn S W0 W → (W.cell? ⟨w.heap.size, 0, none⟩ = some (.int .i64 o.stamp.t) ∧ W.cell? ⟨w.heap.size, 1, none⟩ = some (.int .i64 o.stamp.r) ∧ W.cell? ⟨w.heap.size, 2, none⟩ = some (.int .i64 o.kind) ∧ W.cell? ⟨w.heap.size, 3, none⟩ = some (.int .i64 o.at_.t) ∧ W.cell? ⟨w.heap.size, 4, none⟩ = some (.int .i64 o.at_.r) ∧ W.cell? ⟨w.heap.size, 5, none⟩ = some (.int .i64 o.ino.t) ∧ W.cell? ⟨w.heap.size, 6, none⟩ = some (.int .i64 o.ino.r) ∧ W.cell? ⟨w.heap.size, 7, none⟩ = some (.int .i64 o.to.t) ∧ W.cell? ⟨w.heap.size, 8, none⟩ = some (.int .i64 o.to.r) ∧ W.cell? ⟨w.heap.size, 9, none⟩ = some (.string o.name) ∧ W.cell? ⟨w.heap.size, 10, none⟩ = some (.string o.new) ∧ W.cell? ⟨w.heap.size, 11, none⟩ = some (.int .i64 o.off) ∧ W.cell? ⟨w.heap.size, 12, none⟩ = some (.string o.data) ∧ w.heap.size < W.heap.size)) := Lib.hid (by rw [hW0]; exact fun S W hW => ⟨(hW.cell ⟨_, 0, none⟩ (by simp only [World.size_alloc]; omega)).trans (cell_new w _ rfl _ _ 0 _ rfl), (hW.cell ⟨_, 1, none⟩ (by simp only [World.size_alloc]; omega)).trans (cell_new w _ rfl _ _ 1 _ rfl), (hW.cell ⟨_, 2, none⟩ (by simp only [World.size_alloc]; omega)).trans (cell_new w _ rfl _ _ 2 _ rfl), (hW.cell ⟨_, 3, none⟩ (by simp only [World.size_alloc]; omega)).trans (cell_new w _ rfl _ _ 3 _ rfl), (hW.cell ⟨_, 4, none⟩ (by simp only [World.size_alloc]; omega)).trans (cell_new w _ rfl _ _ 4 _ rfl), (hW.cell ⟨_, 5, none⟩ (by simp only [World.size_alloc]; omega)).trans (cell_new w _ rfl _ _ 5 _ rfl), (hW.cell ⟨_, 6, none⟩ (by simp only [World.size_alloc]; omega)).trans (cell_new w _ rfl _ _ 6 _ rfl), (hW.cell ⟨_, 7, none⟩ (by simp only [World.size_alloc]; omega)).trans (cell_new w _ rfl _ _ 7 _ rfl), (hW.cell ⟨_, 8, none⟩ (by simp only [World.size_alloc]; omega)).trans (cell_new w _ rfl _ _ 8 _ rfl), (hW.cell ⟨_, 9, none⟩ (by simp only [World.size_alloc]; omega)).trans (cell_new w _ rfl _ _ 9 _ rfl), (hW.cell ⟨_, 10, none⟩ (by simp only [World.size_alloc]; omega)).trans (cell_new w _ rfl _ _ 10 _ rfl), (hW.cell ⟨_, 11, none⟩ (by simp only [World.size_alloc]; omega)).trans (cell_new w _ rfl _ _ 11 _ rfl), (hW.cell ⟨_, 12, none⟩ (by simp only [World.size_alloc]; omega)).trans (cell_new w _ rfl _ _ 12 _ rfl), by have := hW.size; simp only [World.size_alloc] at this; omega⟩)
  have HF := Lib.hid (fun W (hW : Below W0.heap.size W0 W) => few_any v l W (hs.below (HW.out.trans (hW.mono HW.out.size))))
  have HMD := Lib.hid (fun (hl : l.length ≤ 1000) W (hW : Below W0.heap.size W0 W) => made_any v l W (hs.below (HW.out.trans (hW.mono HW.out.size))) hn hl)
  obtain ⟨va, vc, rfl⟩ := hs.len
  clear hs hn
  have hok := ran_ok l
  have hth := ran_thin l
  unfold Op.v
  cases hfew : decide (l.length ≤ 100) with
  | false =>
    rw [hfew] at HF
    clear hfew hok hth
    have HT0 : Hid (Turn (fun _ => False) W0 W0) := Lib.hid (Turn.refl _ _)
    obtain ⟨_, _, _, _, _, _, _, _, _, _, _, _, _, _⟩ := Hp0.out _ _ HT0.out
    go_enter Tryz.func10, Tryz.ntmps10
    go_wp2_with fail
    rw [← hW0]
    have HW0 := Lib.hid hW0
    clear hW0
    go_wp2_with fail
    refine (shown_any _).mono ?_
    rintro e w1 ⟨rfl, hb1⟩
    have HO1 : Hid (Below W0.heap.size W0 w1) := Lib.hid (HO0.out.trans (hb1.mono HO0.out.size))
    have HT_1 : Hid (Turn (fun _ => False) W0 w1) := Lib.hid (Below.turn' HO1.out _)
    clear hb1
    obtain ⟨_, _, _, _, _, _, _, _, _, _, _, _, _, _⟩ := Hp0.out _ _ HT_1.out
    go_wp2_with (go_at_call 32; refine (HF.out _ HO1.out).mono ?_; rintro y w' ⟨rfl, rfl⟩)
    go_ret
    exact ⟨rfl, HW.out.trans (HO1.out.mono HW.out.size)⟩
  | true =>
    rw [hfew] at HF
    have HLEN : Hid (l.length ≤ 1000) := Lib.hid (by have := of_decide_eq_true hfew; omega)
    clear hfew
    by_cases hk : o.kind = 1 ∨ o.kind = 2 ∨ o.kind = 3
    · have hmk1 : makesOf o.kind = o.kind := by unfold makesOf; rcases hk with h | h | h <;> simp [h]
      have hmk0 : (makesOf o.kind == 0) = false := by rw [hmk1]; simp; omega
      have HSM := Lib.hid h_o
      by_cases hw : (ran l).opWhy o = 0
      · obtain ⟨r1, r2, r3, r4⟩ := (ran_ok l).makes_law hk hw
        have HOK' : Hid ((ran l).apply o).Ok := Lib.hid (hok.apply o)
        have HWH := Lib.hid hw
        have HTH' : Hid ((ran l).apply o).Thin := Lib.hid (hth.apply o)
        obtain ⟨i, hi⟩ : ∃ i : Ino, i = ⟨o.stamp, o.kind, 1, 0, o.data⟩ := ⟨_, rfl⟩
        rw [← hi] at r2
        have e1 : (i.kind == makesOf o.kind) = true := by rw [hmk1, hi]; simp
        have e2 : (i.links == 1) = true := by rw [hi]; rfl
        have e3 : (i.data.toList == o.data.toList) = true := by rw [hi]; simp
        have e5 : decide (i.data.toList = o.data.toList) = true := by rw [hi]; simp
        have e6 : decide (i.data = o.data) = true := by rw [hi]; simp
        have e4 := fun w => eql_st_self o.stamp w
        have HW4 := Lib.hid r3
        have HAG : Hid (((ran l).apply o).apply o = (ran l).apply o) := Lib.hid (apply_err (by rw [r3]; decide))
        have HOKU : Hid ((((ran l).apply o).untie ⟨o.at_, o.name⟩)).Ok := Lib.hid ((hok.apply o).untieD _)
        have HUN := Lib.hid r4
        have HLK := Lib.hid r1
        have HGE := Lib.hid r2
        clear hi hmk1 r1 r2 r3 r4 hw hk h_o
        generalize hG' : (ran l).apply o = G' at *
        have HG' := Lib.hid hG'
        clear hG'
        generalize ran l = G at *
        generalize hU : G'.untie ⟨o.at_, o.name⟩ = U at *
        have HU := Lib.hid hU
        clear hU
        have HOK : Hid (G.Ok) := Lib.hid hok
        have HTH : Hid (G.Thin) := Lib.hid hth
        clear hok hth
        have hmk := fun W => opMakes_any o W
        unfold Op.v at hmk
        have HMK := Lib.hid hmk
        clear hmk
        have HT0 : Hid (Turn (fun _ => False) W0 W0) := Lib.hid (Turn.refl _ _)
        obtain ⟨_, _, _, _, _, _, _, _, _, _, _, _, _, _⟩ := Hp0.out _ _ HT0.out
        go_enter Tryz.func10, Tryz.ntmps10
        go_wp2_with fail
        rw [← hW0]
        have HW0 := Lib.hid hW0
        clear hW0
        go_wp2_with fail
        refine (shown_any _).mono ?_
        rintro e w1 ⟨rfl, hb1⟩
        have HO1 : Hid (Below W0.heap.size W0 w1) := Lib.hid (HO0.out.trans (hb1.mono HO0.out.size))
        have HT_1 : Hid (Turn (fun _ => False) W0 w1) := Lib.hid (Below.turn' HO1.out _)
        clear hb1
        obtain ⟨_, _, _, _, _, _, _, _, _, _, _, _, _, _⟩ := Hp0.out _ _ HT_1.out
        go_wp2_with (go_at_call 32; refine (HF.out _ HO1.out).mono ?_; rintro y w' ⟨rfl, rfl⟩)
        go_wp2_with fail
        refine (HMK.out _).mono ?_
        rintro e w2 ⟨rfl, hb2⟩
        have HO2 : Hid (Below W0.heap.size W0 w2) := Lib.hid (HO1.out.trans (hb2.mono HO1.out.size))
        have HT_2 : Hid (Turn (fun _ => False) W0 w2) := Lib.hid (Below.turn' HO2.out _)
        clear hb2
        obtain ⟨_, _, _, _, _, _, _, _, _, _, _, _, _, _⟩ := Hp0.out _ _ HT_2.out
        go_wp2_with fail
        refine (HMD.out HLEN.out _ HO2.out).mono ?_
        rintro e w3 ⟨v3, rfl, ⟨gb, mI, mE, rfl, hG3, q1, q2, q3⟩, hb3⟩
        have HO3 : Hid (Below W0.heap.size W0 w3) := Lib.hid (HO2.out.trans (hb3.mono HO2.out.size))
        have HM : Hid (W0.heap.size ≤ mI ∧ W0.heap.size ≤ mE ∧ gb < w3.heap.size ∧ mI < w3.heap.size ∧ mE < w3.heap.size) := Lib.hid ⟨Nat.le_trans HO2.out.size q2, Nat.le_trans HO2.out.size q3, hG3.lt.1, hG3.lt.2.1, hG3.lt.2.2⟩
        have HT_3 : Hid (Turn (Maps2 mI mE) W0 w3) := Lib.hid (Below.turn' HO3.out _)
        have HG_3 : Hid (GrAt w3 gb mI mE G) := Lib.hid hG3
        clear hb3 hG3 q1 q2 q3
        obtain ⟨_, _, _, _, _, _, _, _, _, _, _, _, _, _⟩ := Hp0.out _ _ HT_3.out
        go_wp2_with fail
        refine ((HG_3.out.reads HOK.out (by have := HOK.out.few; omega)).copy w3 (Below.refl _ _)).mono ?_
        rintro e w4 ⟨v4, rfl, ⟨hb, nI, nE, rfl, hH, p1, p2, p3⟩, hb4⟩
        have hst4 : Turn (Maps2 mI mE) w3 w4 := Turn.trans (Turn.refl (Maps2 mI mE) _) (Below.turn' hb4 _)
        have HTp0_4 := Lib.hid (HT_3.out.trans hst4)
        have HG_4 := Lib.hid ((HG_3.out.new (New.refl _)).below hb4)
        have HO4 : Hid (Below W0.heap.size W0 w4) := Lib.hid (Below.trans HO3.out (hb4.mono (by have := HO3.out.size; first | exact this | (simp only [World.size_alloc]; omega))))
        have HAP : Hid (gb < hb ∧ gb < nI ∧ gb < nE ∧ mI < hb ∧ mI < nI ∧ mI < nE ∧ mE < hb ∧ mE < nI ∧ mE < nE) := Lib.hid (by have := HG_3.out.lt; omega)
        have HH_4 : Hid (GrAt w4 hb nI nE G) := Lib.hid hH
        clear p1 p2 p3 hH
        clear hst4 hb4
        obtain ⟨_, _, _, _, _, _, _, _, _, _, _, _, _, _⟩ := Hp0.out _ _ HTp0_4.out
        go_wp2_with fail
        refine (apply_any gb mI mE G o w4 HG_4.out HOK.out HTH.out HSM.out).mono ?_
        rintro e w5 ⟨rfl, hG5, hT5⟩
        rw [HWH.out]
        rw [HG'.out] at hG5
        have hst5 : Turn (Maps2 mI mE) w4 w5 := Turn.trans (Turn.refl (Maps2 mI mE) _) hT5
        have HTp0_5 := Lib.hid (HTp0_4.out.trans hst5)
        have HG_5 := Lib.hid hG5
        have HH_5 := Lib.hid ((HH_4.out.new (New.refl _)).turn hT5 (fun hq => by have := HAP.out; rcases hq with hq | hq <;> omega) (fun hq => by have := HAP.out; rcases hq with hq | hq <;> omega) (fun hq => by have := HAP.out; rcases hq with hq | hq <;> omega))
        have HO5 : Hid (Below W0.heap.size W0 w5) := Lib.hid (Below.trans HO4.out (own_below hT5 HM.out.1 HM.out.2.1 (by have := HO4.out.size; first | exact this | (simp only [World.size_alloc]; omega))))
        clear hst5 hT5 hG5
        obtain ⟨_, _, _, _, _, _, _, _, _, _, _, _, _, _⟩ := Hp0.out _ _ HTp0_5.out
        go_wp2_with fail
        refine ((HG_5.out.reads HOK'.out (by have := HOK'.out.few; omega)).look ⟨o.at_, o.name⟩ o.stamp true w5 (by rw [HLK.out]; rfl) (by rw [HLK.out]; rfl) (Below.refl _ _)).mono ?_
        rintro e w6 ⟨rfl, hb6⟩
        have hst6 : Turn (Maps2 mI mE) w5 w6 := Turn.trans (Turn.refl (Maps2 mI mE) _) (Below.turn' hb6 _)
        have HTp0_6 := Lib.hid (HTp0_5.out.trans hst6)
        have HG_6 := Lib.hid ((HG_5.out.new (New.refl _)).below hb6)
        have HH_6 := Lib.hid ((HH_5.out.new (New.refl _)).below hb6)
        have HO6 : Hid (Below W0.heap.size W0 w6) := Lib.hid (Below.trans HO5.out (hb6.mono (by have := HO5.out.size; first | exact this | (simp only [World.size_alloc]; omega))))
        clear hst6 hb6
        obtain ⟨_, _, _, _, _, _, _, _, _, _, _, _, _, _⟩ := Hp0.out _ _ HTp0_6.out
        have Hb1 : Hid (∀ S W, Turn S (w6.alloc (.cells #[.int .i64 o.stamp.t, .int .i64 o.stamp.r] 34)) W → (W.cell? ⟨w6.heap.size, 0, none⟩ = some (.int .i64 o.stamp.t) ∧ W.cell? ⟨w6.heap.size, 1, none⟩ = some (.int .i64 o.stamp.r) ∧ w6.heap.size < W.heap.size)) := Lib.hid fun S W hW => ⟨(hW.cell ⟨_, 0, none⟩ (by simp)).trans (cell_new _ _ rfl _ _ 0 _ rfl), (hW.cell ⟨_, 1, none⟩ (by simp)).trans (cell_new _ _ rfl _ _ 1 _ rfl), by have := hW.size; simp at this; omega⟩
        go_wp2_with fail
        refine (((HG_6.out.new ((New.refl _).alloc _)).reads HOK'.out (by have := HOK'.out.few; omega)).get o.stamp i true (w6.alloc (.cells #[.int .i64 o.stamp.t, .int .i64 o.stamp.r] 34)) (Gr.got_of HGE.out) (by rw [HGE.out]; rfl) (Below.refl _ _)).mono ?_
        rintro e w7 ⟨rfl, hb7⟩
        have hst7 : Turn (Maps2 mI mE) w6 w7 := Turn.trans ((((New.refl _).alloc _)).turn (Maps2 mI mE)) (Below.turn' hb7 _)
        have HTp0_7 := Lib.hid (HTp0_6.out.trans hst7)
        have HTb1_7 := Lib.hid (Below.turn' hb7 (Maps2 mI mE))
        have HG_7 := Lib.hid ((HG_6.out.new ((New.refl _).alloc _)).below hb7)
        have HH_7 := Lib.hid ((HH_6.out.new ((New.refl _).alloc _)).below hb7)
        have HO7 : Hid (Below W0.heap.size W0 w7) := Lib.hid (Below.trans (HO6.out.alloc HO6.out.size _) (hb7.mono (by have := HO6.out.size; first | exact this | (simp only [World.size_alloc]; omega))))
        clear hst7 hb7
        obtain ⟨_, _, _, _, _, _, _, _, _, _, _, _, _, _⟩ := Hp0.out _ _ HTp0_7.out
        obtain ⟨_, _, _⟩ := Hb1.out _ _ HTb1_7.out
        have Hb2 : Hid (∀ S W, Turn S (w7.alloc (.cells #[.int .i64 i.id.t, .int .i64 i.id.r, .int .i64 i.kind, .int .i64 i.links, .int .i64 i.mode, .string i.data] 62)) W → (W.cell? ⟨w7.heap.size, 0, none⟩ = some (.int .i64 i.id.t) ∧ W.cell? ⟨w7.heap.size, 1, none⟩ = some (.int .i64 i.id.r) ∧ W.cell? ⟨w7.heap.size, 2, none⟩ = some (.int .i64 i.kind) ∧ W.cell? ⟨w7.heap.size, 3, none⟩ = some (.int .i64 i.links) ∧ W.cell? ⟨w7.heap.size, 4, none⟩ = some (.int .i64 i.mode) ∧ W.cell? ⟨w7.heap.size, 5, none⟩ = some (.string i.data) ∧ w7.heap.size < W.heap.size)) := Lib.hid fun S W hW => ⟨(hW.cell ⟨_, 0, none⟩ (by simp)).trans (cell_new _ _ rfl _ _ 0 _ rfl), (hW.cell ⟨_, 1, none⟩ (by simp)).trans (cell_new _ _ rfl _ _ 1 _ rfl), (hW.cell ⟨_, 2, none⟩ (by simp)).trans (cell_new _ _ rfl _ _ 2 _ rfl), (hW.cell ⟨_, 3, none⟩ (by simp)).trans (cell_new _ _ rfl _ _ 3 _ rfl), (hW.cell ⟨_, 4, none⟩ (by simp)).trans (cell_new _ _ rfl _ _ 4 _ rfl), (hW.cell ⟨_, 5, none⟩ (by simp)).trans (cell_new _ _ rfl _ _ 5 _ rfl), by have := hW.size; simp at this; omega⟩
        go_wp2_with fail
        refine (apply_any gb mI mE G' o (w7.alloc (.cells #[.int .i64 i.id.t, .int .i64 i.id.r, .int .i64 i.kind, .int .i64 i.links, .int .i64 i.mode, .string i.data] 62)) (HG_7.out.new ((New.refl _).alloc _)) HOK'.out HTH'.out HSM.out).mono ?_
        rintro e w8 ⟨rfl, hG8, hT8⟩
        rw [HW4.out]
        rw [HAG.out] at hG8
        have hst8 : Turn (Maps2 mI mE) w7 w8 := Turn.trans ((((New.refl _).alloc _)).turn (Maps2 mI mE)) hT8
        have HTp0_8 := Lib.hid (HTp0_7.out.trans hst8)
        have HTb1_8 := Lib.hid (HTb1_7.out.trans hst8)
        have HTb2_8 := Lib.hid (hT8)
        have HG_8 := Lib.hid hG8
        have HH_8 := Lib.hid ((HH_7.out.new ((New.refl _).alloc _)).turn hT8 (fun hq => by have := HAP.out; rcases hq with hq | hq <;> omega) (fun hq => by have := HAP.out; rcases hq with hq | hq <;> omega) (fun hq => by have := HAP.out; rcases hq with hq | hq <;> omega))
        have HO8 : Hid (Below W0.heap.size W0 w8) := Lib.hid (Below.trans (HO7.out.alloc HO7.out.size _) (own_below hT8 HM.out.1 HM.out.2.1 (by have := HO7.out.size; first | exact this | (simp only [World.size_alloc]; omega))))
        clear hst8 hT8 hG8
        obtain ⟨_, _, _, _, _, _, _, _, _, _, _, _, _, _⟩ := Hp0.out _ _ HTp0_8.out
        obtain ⟨_, _, _⟩ := Hb1.out _ _ HTb1_8.out
        obtain ⟨_, _, _, _, _, _, _⟩ := Hb2.out _ _ HTb2_8.out
        go_wp2_with fail
        refine (untie_g gb mI mE G' ⟨o.at_, o.name⟩ w8 HG_8.out HOK'.out).mono ?_
        rintro e w9 ⟨rfl, hG9, hT9⟩
        rw [HU.out] at hG9
        have hst9 : Turn (Maps2 mI mE) w8 w9 := Turn.trans (Turn.refl (Maps2 mI mE) _) hT9
        have HTp0_9 := Lib.hid (HTp0_8.out.trans hst9)
        have HTb1_9 := Lib.hid (HTb1_8.out.trans hst9)
        have HTb2_9 := Lib.hid (HTb2_8.out.trans hst9)
        have HG_9 := Lib.hid hG9
        have HH_9 := Lib.hid ((HH_8.out.new (New.refl _)).turn hT9 (fun hq => by have := HAP.out; rcases hq with hq | hq <;> omega) (fun hq => by have := HAP.out; rcases hq with hq | hq <;> omega) (fun hq => by have := HAP.out; rcases hq with hq | hq <;> omega))
        have HO9 : Hid (Below W0.heap.size W0 w9) := Lib.hid (Below.trans HO8.out (own_below hT9 HM.out.1 HM.out.2.1 (by have := HO8.out.size; first | exact this | (simp only [World.size_alloc]; omega))))
        clear hst9 hT9 hG9
        obtain ⟨_, _, _, _, _, _, _, _, _, _, _, _, _, _⟩ := Hp0.out _ _ HTp0_9.out
        obtain ⟨_, _, _⟩ := Hb1.out _ _ HTb1_9.out
        obtain ⟨_, _, _, _, _, _, _⟩ := Hb2.out _ _ HTb2_9.out
        go_wp2_with fail
        refine (drop_g gb mI mE U o.stamp w9 HG_9.out HOKU.out (by have := HOKU.out.few; omega)).mono ?_
        rintro e w10 ⟨rfl, hG10, hT10⟩
        rw [HUN.out] at hG10
        have hst10 : Turn (Maps2 mI mE) w9 w10 := Turn.trans (Turn.refl (Maps2 mI mE) _) hT10
        have HTp0_10 := Lib.hid (HTp0_9.out.trans hst10)
        have HTb1_10 := Lib.hid (HTb1_9.out.trans hst10)
        have HTb2_10 := Lib.hid (HTb2_9.out.trans hst10)
        have HG_10 := Lib.hid hG10
        have HH_10 := Lib.hid ((HH_9.out.new (New.refl _)).turn hT10 (fun hq => by have := HAP.out; rcases hq with hq | hq <;> omega) (fun hq => by have := HAP.out; rcases hq with hq | hq <;> omega) (fun hq => by have := HAP.out; rcases hq with hq | hq <;> omega))
        have HO10 : Hid (Below W0.heap.size W0 w10) := Lib.hid (Below.trans HO9.out (own_below hT10 HM.out.1 HM.out.2.1 (by have := HO9.out.size; first | exact this | (simp only [World.size_alloc]; omega))))
        clear hst10 hT10 hG10
        obtain ⟨_, _, _, _, _, _, _, _, _, _, _, _, _, _⟩ := Hp0.out _ _ HTp0_10.out
        obtain ⟨_, _, _⟩ := Hb1.out _ _ HTb1_10.out
        obtain ⟨_, _, _, _, _, _, _⟩ := Hb2.out _ _ HTb2_10.out
        have HSA : Hid (∀ W, Below w10.heap.size w10 W → Calls Tryz.prog 44 #[.pointer (some ⟨gb, 0, none⟩), .pointer (some ⟨hb, 0, none⟩)] W fun e w' => e = .returned (.bool true) ∧ Below W.heap.size W w') := Lib.hid fun W hW => same_any gb hb G W HOK.out ((HG_10.out.reads HOK.out (by have := HOK.out.few; omega)).below hW) ((HH_10.out.reads HOK.out (by have := HOK.out.few; omega)).below hW)
        have HKP : Hid (∀ W, Below w10.heap.size w10 W → (W.cell? ⟨w.heap.size, 0, none⟩ = some (.int .i64 o.stamp.t) ∧ W.cell? ⟨w.heap.size, 1, none⟩ = some (.int .i64 o.stamp.r) ∧ W.cell? ⟨w.heap.size, 2, none⟩ = some (.int .i64 o.kind) ∧ W.cell? ⟨w.heap.size, 3, none⟩ = some (.int .i64 o.at_.t) ∧ W.cell? ⟨w.heap.size, 4, none⟩ = some (.int .i64 o.at_.r) ∧ W.cell? ⟨w.heap.size, 5, none⟩ = some (.int .i64 o.ino.t) ∧ W.cell? ⟨w.heap.size, 6, none⟩ = some (.int .i64 o.ino.r) ∧ W.cell? ⟨w.heap.size, 7, none⟩ = some (.int .i64 o.to.t) ∧ W.cell? ⟨w.heap.size, 8, none⟩ = some (.int .i64 o.to.r) ∧ W.cell? ⟨w.heap.size, 9, none⟩ = some (.string o.name) ∧ W.cell? ⟨w.heap.size, 10, none⟩ = some (.string o.new) ∧ W.cell? ⟨w.heap.size, 11, none⟩ = some (.int .i64 o.off) ∧ W.cell? ⟨w.heap.size, 12, none⟩ = some (.string o.data) ∧ w.heap.size < W.heap.size) ∧ (W.cell? ⟨w6.heap.size, 0, none⟩ = some (.int .i64 o.stamp.t) ∧ W.cell? ⟨w6.heap.size, 1, none⟩ = some (.int .i64 o.stamp.r) ∧ w6.heap.size < W.heap.size) ∧ (W.cell? ⟨w7.heap.size, 0, none⟩ = some (.int .i64 i.id.t) ∧ W.cell? ⟨w7.heap.size, 1, none⟩ = some (.int .i64 i.id.r) ∧ W.cell? ⟨w7.heap.size, 2, none⟩ = some (.int .i64 i.kind) ∧ W.cell? ⟨w7.heap.size, 3, none⟩ = some (.int .i64 i.links) ∧ W.cell? ⟨w7.heap.size, 4, none⟩ = some (.int .i64 i.mode) ∧ W.cell? ⟨w7.heap.size, 5, none⟩ = some (.string i.data) ∧ w7.heap.size < W.heap.size)) := Lib.hid fun W hW => ⟨Hp0.out _ _ (HTp0_10.out.trans (Below.turn' hW _)), Hb1.out _ _ (HTb1_10.out.trans (Below.turn' hW _)), Hb2.out _ _ (HTb2_10.out.trans (Below.turn' hW _))⟩
        have HBc0 : Hid (Below w10.heap.size w10 w10) := Lib.hid (Below.refl _ _)
        go_wp2_with fail
        go_region_held3 (fun W => (W.cell? ⟨w.heap.size, 0, none⟩ = some (.int .i64 o.stamp.t) ∧ W.cell? ⟨w.heap.size, 1, none⟩ = some (.int .i64 o.stamp.r) ∧ W.cell? ⟨w.heap.size, 2, none⟩ = some (.int .i64 o.kind) ∧ W.cell? ⟨w.heap.size, 3, none⟩ = some (.int .i64 o.at_.t) ∧ W.cell? ⟨w.heap.size, 4, none⟩ = some (.int .i64 o.at_.r) ∧ W.cell? ⟨w.heap.size, 5, none⟩ = some (.int .i64 o.ino.t) ∧ W.cell? ⟨w.heap.size, 6, none⟩ = some (.int .i64 o.ino.r) ∧ W.cell? ⟨w.heap.size, 7, none⟩ = some (.int .i64 o.to.t) ∧ W.cell? ⟨w.heap.size, 8, none⟩ = some (.int .i64 o.to.r) ∧ W.cell? ⟨w.heap.size, 9, none⟩ = some (.string o.name) ∧ W.cell? ⟨w.heap.size, 10, none⟩ = some (.string o.new) ∧ W.cell? ⟨w.heap.size, 11, none⟩ = some (.int .i64 o.off) ∧ W.cell? ⟨w.heap.size, 12, none⟩ = some (.string o.data) ∧ w.heap.size < W.heap.size) ∧ (W.cell? ⟨w6.heap.size, 0, none⟩ = some (.int .i64 o.stamp.t) ∧ W.cell? ⟨w6.heap.size, 1, none⟩ = some (.int .i64 o.stamp.r) ∧ w6.heap.size < W.heap.size) ∧ (W.cell? ⟨w7.heap.size, 0, none⟩ = some (.int .i64 i.id.t) ∧ W.cell? ⟨w7.heap.size, 1, none⟩ = some (.int .i64 i.id.r) ∧ W.cell? ⟨w7.heap.size, 2, none⟩ = some (.int .i64 i.kind) ∧ W.cell? ⟨w7.heap.size, 3, none⟩ = some (.int .i64 i.links) ∧ W.cell? ⟨w7.heap.size, 4, none⟩ = some (.int .i64 i.mode) ∧ W.cell? ⟨w7.heap.size, 5, none⟩ = some (.string i.data) ∧ w7.heap.size < W.heap.size)) (first | exact HKP.out _ (by first | exact HBc2.out | exact HBc2.out.alloc HBc2.out.size _ | exact (HBc2.out.alloc HBc2.out.size _).alloc (le_al HBc2.out.size) _ | exact ((HBc2.out.alloc HBc2.out.size _).alloc (le_al HBc2.out.size) _).alloc (le_al (le_al HBc2.out.size)) _ | exact HBc2.out.drew | exact (HBc2.out.alloc HBc2.out.size _).drew | exact ((HBc2.out.alloc HBc2.out.size _).alloc (le_al HBc2.out.size) _).drew | exact HBc1.out | exact HBc1.out.alloc HBc1.out.size _ | exact (HBc1.out.alloc HBc1.out.size _).alloc (le_al HBc1.out.size) _ | exact ((HBc1.out.alloc HBc1.out.size _).alloc (le_al HBc1.out.size) _).alloc (le_al (le_al HBc1.out.size)) _ | exact HBc1.out.drew | exact (HBc1.out.alloc HBc1.out.size _).drew | exact ((HBc1.out.alloc HBc1.out.size _).alloc (le_al HBc1.out.size) _).drew | exact HBc0.out | exact HBc0.out.alloc HBc0.out.size _ | exact (HBc0.out.alloc HBc0.out.size _).alloc (le_al HBc0.out.size) _ | exact ((HBc0.out.alloc HBc0.out.size _).alloc (le_al HBc0.out.size) _).alloc (le_al (le_al HBc0.out.size)) _ | exact HBc0.out.drew | exact (HBc0.out.alloc HBc0.out.size _).drew | exact ((HBc0.out.alloc HBc0.out.size _).alloc (le_al HBc0.out.size) _).drew) | go_keep) (first
            | (go_at_call 46; (with_reducible refine (HMK.out _).mono ?_); rintro e c1 ⟨rfl, hbc1⟩; obtain ⟨hcc1, hfc1⟩ := bcell hbc1; have hsc1 := hbc1.size; (try simp only [size_drew] at hsc1); (try simp only [World.size_alloc] at hsc1); (try simp only [size_setCell'] at hsc1); (try have lec1_0 : w10.heap.size ≤ c1.heap.size := (by omega)); (try have ltc1_0 : w10.heap.size < c1.heap.size := (by omega)); have HBc1 : Hid (Below w10.heap.size w10 c1) := Lib.hid (Below.trans (by first | exact HBc0.out | exact HBc0.out.alloc HBc0.out.size _ | exact (HBc0.out.alloc HBc0.out.size _).alloc (le_al HBc0.out.size) _ | exact ((HBc0.out.alloc HBc0.out.size _).alloc (le_al HBc0.out.size) _).alloc (le_al (le_al HBc0.out.size)) _ | exact HBc0.out.drew | exact (HBc0.out.alloc HBc0.out.size _).drew | exact ((HBc0.out.alloc HBc0.out.size _).alloc (le_al HBc0.out.size) _).drew) (hbc1.mono (by (try simp only [size_drew]); (try simp only [World.size_alloc]); (try simp only [size_setCell']); omega))); have HNc1 := Lib.hid hbc1; clear hbc1 hsc1)
            | (go_at_call 44; (with_reducible refine (HSA.out _ (by first | exact HBc1.out | exact HBc1.out.alloc HBc1.out.size _ | exact (HBc1.out.alloc HBc1.out.size _).alloc (le_al HBc1.out.size) _ | exact ((HBc1.out.alloc HBc1.out.size _).alloc (le_al HBc1.out.size) _).alloc (le_al (le_al HBc1.out.size)) _ | exact HBc1.out.drew | exact (HBc1.out.alloc HBc1.out.size _).drew | exact ((HBc1.out.alloc HBc1.out.size _).alloc (le_al HBc1.out.size) _).drew | exact HBc0.out | exact HBc0.out.alloc HBc0.out.size _ | exact (HBc0.out.alloc HBc0.out.size _).alloc (le_al HBc0.out.size) _ | exact ((HBc0.out.alloc HBc0.out.size _).alloc (le_al HBc0.out.size) _).alloc (le_al (le_al HBc0.out.size)) _ | exact HBc0.out.drew | exact (HBc0.out.alloc HBc0.out.size _).drew | exact ((HBc0.out.alloc HBc0.out.size _).alloc (le_al HBc0.out.size) _).drew)).mono ?_); rintro e c2 ⟨rfl, hbc2⟩; obtain ⟨hcc2, hfc2⟩ := bcell hbc2; have hsc2 := hbc2.size; (try simp only [size_drew] at hsc2); (try simp only [World.size_alloc] at hsc2); (try simp only [size_setCell'] at hsc2); (try have lec2_0 : w10.heap.size ≤ c2.heap.size := (by omega)); (try have ltc2_0 : w10.heap.size < c2.heap.size := (by omega)); (try have lec2_1 : c1.heap.size ≤ c2.heap.size := (by omega)); (try have ltc2_1 : c1.heap.size < c2.heap.size := (by omega)); have HBc2 : Hid (Below w10.heap.size w10 c2) := Lib.hid (Below.trans (by first | exact HBc1.out | exact HBc1.out.alloc HBc1.out.size _ | exact (HBc1.out.alloc HBc1.out.size _).alloc (le_al HBc1.out.size) _ | exact ((HBc1.out.alloc HBc1.out.size _).alloc (le_al HBc1.out.size) _).alloc (le_al (le_al HBc1.out.size)) _ | exact HBc1.out.drew | exact (HBc1.out.alloc HBc1.out.size _).drew | exact ((HBc1.out.alloc HBc1.out.size _).alloc (le_al HBc1.out.size) _).drew | exact HBc0.out | exact HBc0.out.alloc HBc0.out.size _ | exact (HBc0.out.alloc HBc0.out.size _).alloc (le_al HBc0.out.size) _ | exact ((HBc0.out.alloc HBc0.out.size _).alloc (le_al HBc0.out.size) _).alloc (le_al (le_al HBc0.out.size)) _ | exact HBc0.out.drew | exact (HBc0.out.alloc HBc0.out.size _).drew | exact ((HBc0.out.alloc HBc0.out.size _).alloc (le_al HBc0.out.size) _).drew) (hbc2.mono (by (try simp only [size_drew]); (try simp only [World.size_alloc]); (try simp only [size_setCell']); omega))); have HNc2 := Lib.hid hbc2; clear hbc2 hsc2))
        go_wp2
        go_ret
        exact ⟨by simp [*], HW.out.trans ((HO10.out.trans ((show Below w10.heap.size w10 _ from (by first | exact HBc2.out | exact HBc2.out.alloc HBc2.out.size _ | exact (HBc2.out.alloc HBc2.out.size _).alloc (le_al HBc2.out.size) _ | exact ((HBc2.out.alloc HBc2.out.size _).alloc (le_al HBc2.out.size) _).alloc (le_al (le_al HBc2.out.size)) _ | exact HBc2.out.drew | exact (HBc2.out.alloc HBc2.out.size _).drew | exact ((HBc2.out.alloc HBc2.out.size _).alloc (le_al HBc2.out.size) _).drew)).mono HO10.out.size)).mono HW.out.size)⟩
      · have HWB : Hid ((ran l).opWhy o ≠ 0) := Lib.hid hw
        have hwb : ((ran l).opWhy o != 0) = true := by simpa using hw
        clear hk h_o hmk1
        obtain ⟨r, hr⟩ : ∃ r, r = (ran l).opWhy o := ⟨_, rfl⟩
        have HR := Lib.hid hr
        rw [← hr] at hwb
        clear hr hw
        generalize ran l = G at *
        have HOK : Hid (G.Ok) := Lib.hid hok
        have HTH : Hid (G.Thin) := Lib.hid hth
        clear hok hth
        have hmk := fun W => opMakes_any o W
        unfold Op.v at hmk
        have HMK := Lib.hid hmk
        clear hmk
        have HT0 : Hid (Turn (fun _ => False) W0 W0) := Lib.hid (Turn.refl _ _)
        obtain ⟨_, _, _, _, _, _, _, _, _, _, _, _, _, _⟩ := Hp0.out _ _ HT0.out
        go_enter Tryz.func10, Tryz.ntmps10
        go_wp2_with fail
        rw [← hW0]
        have HW0 := Lib.hid hW0
        clear hW0
        go_wp2_with fail
        refine (shown_any _).mono ?_
        rintro e w1 ⟨rfl, hb1⟩
        have HO1 : Hid (Below W0.heap.size W0 w1) := Lib.hid (HO0.out.trans (hb1.mono HO0.out.size))
        have HT_1 : Hid (Turn (fun _ => False) W0 w1) := Lib.hid (Below.turn' HO1.out _)
        clear hb1
        obtain ⟨_, _, _, _, _, _, _, _, _, _, _, _, _, _⟩ := Hp0.out _ _ HT_1.out
        go_wp2_with (go_at_call 32; refine (HF.out _ HO1.out).mono ?_; rintro y w' ⟨rfl, rfl⟩)
        go_wp2_with fail
        refine (HMK.out _).mono ?_
        rintro e w2 ⟨rfl, hb2⟩
        have HO2 : Hid (Below W0.heap.size W0 w2) := Lib.hid (HO1.out.trans (hb2.mono HO1.out.size))
        have HT_2 : Hid (Turn (fun _ => False) W0 w2) := Lib.hid (Below.turn' HO2.out _)
        clear hb2
        obtain ⟨_, _, _, _, _, _, _, _, _, _, _, _, _, _⟩ := Hp0.out _ _ HT_2.out
        go_wp2_with fail
        refine (HMD.out HLEN.out _ HO2.out).mono ?_
        rintro e w3 ⟨v3, rfl, ⟨gb, mI, mE, rfl, hG3, q1, q2, q3⟩, hb3⟩
        have HO3 : Hid (Below W0.heap.size W0 w3) := Lib.hid (HO2.out.trans (hb3.mono HO2.out.size))
        have HM : Hid (W0.heap.size ≤ mI ∧ W0.heap.size ≤ mE ∧ gb < w3.heap.size ∧ mI < w3.heap.size ∧ mE < w3.heap.size) := Lib.hid ⟨Nat.le_trans HO2.out.size q2, Nat.le_trans HO2.out.size q3, hG3.lt.1, hG3.lt.2.1, hG3.lt.2.2⟩
        have HT_3 : Hid (Turn (Maps2 mI mE) W0 w3) := Lib.hid (Below.turn' HO3.out _)
        have HG_3 : Hid (GrAt w3 gb mI mE G) := Lib.hid hG3
        clear hb3 hG3 q1 q2 q3
        obtain ⟨_, _, _, _, _, _, _, _, _, _, _, _, _, _⟩ := Hp0.out _ _ HT_3.out
        go_wp2_with fail
        refine ((HG_3.out.reads HOK.out (by have := HOK.out.few; omega)).copy w3 (Below.refl _ _)).mono ?_
        rintro e w4 ⟨v4, rfl, ⟨hb, nI, nE, rfl, hH, p1, p2, p3⟩, hb4⟩
        have hst4 : Turn (Maps2 mI mE) w3 w4 := Turn.trans (Turn.refl (Maps2 mI mE) _) (Below.turn' hb4 _)
        have HTp0_4 := Lib.hid (HT_3.out.trans hst4)
        have HG_4 := Lib.hid ((HG_3.out.new (New.refl _)).below hb4)
        have HO4 : Hid (Below W0.heap.size W0 w4) := Lib.hid (Below.trans HO3.out (hb4.mono (by have := HO3.out.size; first | exact this | (simp only [World.size_alloc]; omega))))
        have HAP : Hid (gb < hb ∧ gb < nI ∧ gb < nE ∧ mI < hb ∧ mI < nI ∧ mI < nE ∧ mE < hb ∧ mE < nI ∧ mE < nE) := Lib.hid (by have := HG_3.out.lt; omega)
        have HH_4 : Hid (GrAt w4 hb nI nE G) := Lib.hid hH
        clear p1 p2 p3 hH
        clear hst4 hb4
        obtain ⟨_, _, _, _, _, _, _, _, _, _, _, _, _, _⟩ := Hp0.out _ _ HTp0_4.out
        go_wp2_with fail
        refine (apply_any gb mI mE G o w4 HG_4.out HOK.out HTH.out HSM.out).mono ?_
        rintro e w5 ⟨rfl, hG5, hT5⟩
        rw [← HR.out]
        have hst5 : Turn (Maps2 mI mE) w4 w5 := Turn.trans (Turn.refl (Maps2 mI mE) _) hT5
        have HTp0_5 := Lib.hid (HTp0_4.out.trans hst5)
        have HG_5 := Lib.hid hG5
        have HH_5 := Lib.hid ((HH_4.out.new (New.refl _)).turn hT5 (fun hq => by have := HAP.out; rcases hq with hq | hq <;> omega) (fun hq => by have := HAP.out; rcases hq with hq | hq <;> omega) (fun hq => by have := HAP.out; rcases hq with hq | hq <;> omega))
        have HO5 : Hid (Below W0.heap.size W0 w5) := Lib.hid (Below.trans HO4.out (own_below hT5 HM.out.1 HM.out.2.1 (by have := HO4.out.size; first | exact this | (simp only [World.size_alloc]; omega))))
        clear hst5 hT5 hG5
        obtain ⟨_, _, _, _, _, _, _, _, _, _, _, _, _, _⟩ := Hp0.out _ _ HTp0_5.out
        go_wp2
        go_ret
        exact ⟨rfl, HW.out.trans (HO5.out.mono HW.out.size)⟩
    · have hmk0 : (makesOf o.kind == 0) = true := by unfold makesOf; rw [if_neg (fun h => hk (.inl h)), if_neg (fun h => hk (.inr (.inl h))), if_neg (fun h => hk (.inr (.inr h)))]; rfl
      clear hk hok hth h_o
      have hmk := fun W => opMakes_any o W
      unfold Op.v at hmk
      have HMK := Lib.hid hmk
      clear hmk
      have HT0 : Hid (Turn (fun _ => False) W0 W0) := Lib.hid (Turn.refl _ _)
      obtain ⟨_, _, _, _, _, _, _, _, _, _, _, _, _, _⟩ := Hp0.out _ _ HT0.out
      go_enter Tryz.func10, Tryz.ntmps10
      go_wp2_with fail
      rw [← hW0]
      have HW0 := Lib.hid hW0
      clear hW0
      go_wp2_with fail
      refine (shown_any _).mono ?_
      rintro e w1 ⟨rfl, hb1⟩
      have HO1 : Hid (Below W0.heap.size W0 w1) := Lib.hid (HO0.out.trans (hb1.mono HO0.out.size))
      have HT_1 : Hid (Turn (fun _ => False) W0 w1) := Lib.hid (Below.turn' HO1.out _)
      clear hb1
      obtain ⟨_, _, _, _, _, _, _, _, _, _, _, _, _, _⟩ := Hp0.out _ _ HT_1.out
      go_wp2_with (go_at_call 32; refine (HF.out _ HO1.out).mono ?_; rintro y w' ⟨rfl, rfl⟩)
      go_wp2_with fail
      refine (HMK.out _).mono ?_
      rintro e w2 ⟨rfl, hb2⟩
      have HO2 : Hid (Below W0.heap.size W0 w2) := Lib.hid (HO1.out.trans (hb2.mono HO1.out.size))
      have HT_2 : Hid (Turn (fun _ => False) W0 w2) := Lib.hid (Below.turn' HO2.out _)
      clear hb2
      obtain ⟨_, _, _, _, _, _, _, _, _, _, _, _, _, _⟩ := Hp0.out _ _ HT_2.out
      go_wp2
      go_ret
      exact ⟨rfl, HW.out.trans (HO2.out.mono HW.out.size)⟩
end Go.Proofs.YtmnkaohhjhjciaaGreat.L11
