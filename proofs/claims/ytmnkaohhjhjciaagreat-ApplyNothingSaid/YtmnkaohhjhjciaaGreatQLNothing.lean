/-
  thimblelaw11.ApplyNothing: with an error nothing changes; no condition but the texts' reach.
-/
import Derived.Test.YtmnkaohhjhjciaaGreatQL11
import Derived.Test.YtmnkaohhjhjciaaGreatQLCmp
namespace Go.Proofs.YtmnkaohhjhjciaaGreat.L11
open Go.RowKit Go.Shelf Go.Proofs

set_option maxRecDepth 100000 in
set_option maxHeartbeats 8000000 in
theorem nothing_walk (v : Value) (l : List Op) (o : Op) (w : World) (hs : SlAt w 13 Op.cells v l) (hn : ∀ o ∈ l, o.Small) (h_o : o.Small) :
    Calls Tryz.prog 9 #[v, o.v] w fun y w' => y = .returned (.bool true) ∧ Below w.heap.size w w' := by
  obtain ⟨W0, hW0⟩ : ∃ W0, W0 = (w.alloc (.cells #[.int .i64 o.stamp.t, .int .i64 o.stamp.r, .int .i64 o.kind, .int .i64 o.at_.t, .int .i64 o.at_.r, .int .i64 o.ino.t, .int .i64 o.ino.r, .int .i64 o.to.t, .int .i64 o.to.r, .string o.name, .string o.new, .int .i64 o.off, .string o.data] 55)) := ⟨_, rfl⟩
  have HW : Hid (Below w.heap.size w W0) := Lib.hid (by rw [hW0]; exact ((New.refl w).alloc _).below)
  have HO0 : Hid (Below W0.heap.size W0 W0) := Lib.hid (Below.refl _ _)
  have Hp0 : Hid (∀ S W, Turn S W0 W → (W.cell? ⟨w.heap.size, 0, none⟩ = some (.int .i64 o.stamp.t) ∧ W.cell? ⟨w.heap.size, 1, none⟩ = some (.int .i64 o.stamp.r) ∧ W.cell? ⟨w.heap.size, 2, none⟩ = some (.int .i64 o.kind) ∧ W.cell? ⟨w.heap.size, 3, none⟩ = some (.int .i64 o.at_.t) ∧ W.cell? ⟨w.heap.size, 4, none⟩ = some (.int .i64 o.at_.r) ∧ W.cell? ⟨w.heap.size, 5, none⟩ = some (.int .i64 o.ino.t) ∧ W.cell? ⟨w.heap.size, 6, none⟩ = some (.int .i64 o.ino.r) ∧ W.cell? ⟨w.heap.size, 7, none⟩ = some (.int .i64 o.to.t) ∧ W.cell? ⟨w.heap.size, 8, none⟩ = some (.int .i64 o.to.r) ∧ W.cell? ⟨w.heap.size, 9, none⟩ = some (.string o.name) ∧ W.cell? ⟨w.heap.size, 10, none⟩ = some (.string o.new) ∧ W.cell? ⟨w.heap.size, 11, none⟩ = some (.int .i64 o.off) ∧ W.cell? ⟨w.heap.size, 12, none⟩ = some (.string o.data) ∧ w.heap.size < W.heap.size)) := Lib.hid (by rw [hW0]; exact fun S W hW => ⟨(hW.cell ⟨_, 0, none⟩ (by simp only [World.size_alloc]; omega)).trans (cell_new w _ rfl _ _ 0 _ rfl), (hW.cell ⟨_, 1, none⟩ (by simp only [World.size_alloc]; omega)).trans (cell_new w _ rfl _ _ 1 _ rfl), (hW.cell ⟨_, 2, none⟩ (by simp only [World.size_alloc]; omega)).trans (cell_new w _ rfl _ _ 2 _ rfl), (hW.cell ⟨_, 3, none⟩ (by simp only [World.size_alloc]; omega)).trans (cell_new w _ rfl _ _ 3 _ rfl), (hW.cell ⟨_, 4, none⟩ (by simp only [World.size_alloc]; omega)).trans (cell_new w _ rfl _ _ 4 _ rfl), (hW.cell ⟨_, 5, none⟩ (by simp only [World.size_alloc]; omega)).trans (cell_new w _ rfl _ _ 5 _ rfl), (hW.cell ⟨_, 6, none⟩ (by simp only [World.size_alloc]; omega)).trans (cell_new w _ rfl _ _ 6 _ rfl), (hW.cell ⟨_, 7, none⟩ (by simp only [World.size_alloc]; omega)).trans (cell_new w _ rfl _ _ 7 _ rfl), (hW.cell ⟨_, 8, none⟩ (by simp only [World.size_alloc]; omega)).trans (cell_new w _ rfl _ _ 8 _ rfl), (hW.cell ⟨_, 9, none⟩ (by simp only [World.size_alloc]; omega)).trans (cell_new w _ rfl _ _ 9 _ rfl), (hW.cell ⟨_, 10, none⟩ (by simp only [World.size_alloc]; omega)).trans (cell_new w _ rfl _ _ 10 _ rfl), (hW.cell ⟨_, 11, none⟩ (by simp only [World.size_alloc]; omega)).trans (cell_new w _ rfl _ _ 11 _ rfl), (hW.cell ⟨_, 12, none⟩ (by simp only [World.size_alloc]; omega)).trans (cell_new w _ rfl _ _ 12 _ rfl), by have := hW.size; simp only [World.size_alloc] at this; omega⟩)
  have HF := Lib.hid (fun W (hW : Below W0.heap.size W0 W) => few_any v l W (hs.below (HW.out.trans (hW.mono HW.out.size))))
  have HMD := Lib.hid (fun (hl : l.length ≤ 1000) W (hW : Below W0.heap.size W0 W) => made_any v l W (hs.below (HW.out.trans (hW.mono HW.out.size))) hn hl)
  obtain ⟨va, vc, rfl⟩ := hs.len
  clear hs hn
  have hok := ran_ok l
  have hth := ran_thin l
  unfold Op.v
  cases hfew : decide (l.length ≤ 100) with
  | false =>
    rw [hfew] at HF
    clear hfew hok hth
    have HT0 : Hid (Turn (fun _ => False) W0 W0) := Lib.hid (Turn.refl _ _)
    obtain ⟨_, _, _, _, _, _, _, _, _, _, _, _, _, _⟩ := Hp0.out _ _ HT0.out
    go_enter Tryz.func9, Tryz.ntmps9
    go_wp2_with fail
    rw [← hW0]
    have HW0 := Lib.hid hW0
    clear hW0
    go_wp2_with fail
    refine (shown_any _).mono ?_
    rintro e w1 ⟨rfl, hb1⟩
    have HO1 : Hid (Below W0.heap.size W0 w1) := Lib.hid (HO0.out.trans (hb1.mono HO0.out.size))
    have HT_1 : Hid (Turn (fun _ => False) W0 w1) := Lib.hid (Below.turn' HO1.out _)
    clear hb1
    obtain ⟨_, _, _, _, _, _, _, _, _, _, _, _, _, _⟩ := Hp0.out _ _ HT_1.out
    go_wp2_with (go_at_call 32; refine (HF.out _ HO1.out).mono ?_; rintro y w' ⟨rfl, rfl⟩)
    go_ret
    exact ⟨rfl, HW.out.trans (HO1.out.mono HW.out.size)⟩
  | true =>
    rw [hfew] at HF
    have HLEN : Hid (l.length ≤ 1000) := Lib.hid (by have := of_decide_eq_true hfew; omega)
    clear hfew
    have HSM := Lib.hid h_o
    by_cases hw : (ran l).opWhy o = 0
    · have hmy : opMay o = true := opWhy_may hw
      have HOK' : Hid ((ran l).apply o).Ok := Lib.hid (hok.apply o)
      have HWH := Lib.hid hw
      clear hw h_o
      generalize hG' : (ran l).apply o = G' at *
      have HG' := Lib.hid hG'
      clear hG'
      generalize ran l = G at *
      have HOK : Hid (G.Ok) := Lib.hid hok
      have HTH : Hid (G.Thin) := Lib.hid hth
      clear hok hth
      have HT0 : Hid (Turn (fun _ => False) W0 W0) := Lib.hid (Turn.refl _ _)
      obtain ⟨_, _, _, _, _, _, _, _, _, _, _, _, _, _⟩ := Hp0.out _ _ HT0.out
      go_enter Tryz.func9, Tryz.ntmps9
      go_wp2_with fail
      rw [← hW0]
      have HW0 := Lib.hid hW0
      clear hW0
      go_wp2_with fail
      refine (shown_any _).mono ?_
      rintro e w1 ⟨rfl, hb1⟩
      have HO1 : Hid (Below W0.heap.size W0 w1) := Lib.hid (HO0.out.trans (hb1.mono HO0.out.size))
      have HT_1 : Hid (Turn (fun _ => False) W0 w1) := Lib.hid (Below.turn' HO1.out _)
      clear hb1
      obtain ⟨_, _, _, _, _, _, _, _, _, _, _, _, _, _⟩ := Hp0.out _ _ HT_1.out
      go_wp2_with (go_at_call 32; refine (HF.out _ HO1.out).mono ?_; rintro y w' ⟨rfl, rfl⟩)
      go_wp2_with fail
      refine (HMD.out HLEN.out _ HO1.out).mono ?_
      rintro e w2 ⟨v2, rfl, ⟨gb, mI, mE, rfl, hG2, q1, q2, q3⟩, hb2⟩
      have HO2 : Hid (Below W0.heap.size W0 w2) := Lib.hid (HO1.out.trans (hb2.mono HO1.out.size))
      have HM : Hid (W0.heap.size ≤ mI ∧ W0.heap.size ≤ mE ∧ gb < w2.heap.size ∧ mI < w2.heap.size ∧ mE < w2.heap.size) := Lib.hid ⟨Nat.le_trans HO1.out.size q2, Nat.le_trans HO1.out.size q3, hG2.lt.1, hG2.lt.2.1, hG2.lt.2.2⟩
      have HT_2 : Hid (Turn (Maps2 mI mE) W0 w2) := Lib.hid (Below.turn' HO2.out _)
      have HG_2 : Hid (GrAt w2 gb mI mE G) := Lib.hid hG2
      clear hb2 hG2 q1 q2 q3
      obtain ⟨_, _, _, _, _, _, _, _, _, _, _, _, _, _⟩ := Hp0.out _ _ HT_2.out
      go_wp2_with fail
      refine ((HG_2.out.reads HOK.out (by have := HOK.out.few; omega)).copy w2 (Below.refl _ _)).mono ?_
      rintro e w3 ⟨v3, rfl, ⟨hb, nI, nE, rfl, hH, p1, p2, p3⟩, hb3⟩
      have hst3 : Turn (Maps2 mI mE) w2 w3 := Turn.trans (Turn.refl (Maps2 mI mE) _) (Below.turn' hb3 _)
      have HTp0_3 := Lib.hid (HT_2.out.trans hst3)
      have HG_3 := Lib.hid ((HG_2.out.new (New.refl _)).below hb3)
      have HO3 : Hid (Below W0.heap.size W0 w3) := Lib.hid (Below.trans HO2.out (hb3.mono (by have := HO2.out.size; first | exact this | (simp only [World.size_alloc]; omega))))
      have HAP : Hid (gb < hb ∧ gb < nI ∧ gb < nE ∧ mI < hb ∧ mI < nI ∧ mI < nE ∧ mE < hb ∧ mE < nI ∧ mE < nE) := Lib.hid (by have := HG_2.out.lt; omega)
      have HH_3 : Hid (GrAt w3 hb nI nE G) := Lib.hid hH
      clear p1 p2 p3 hH
      clear hst3 hb3
      obtain ⟨_, _, _, _, _, _, _, _, _, _, _, _, _, _⟩ := Hp0.out _ _ HTp0_3.out
      go_wp2_with fail
      refine (why_any gb G o w3 (HG_3.out.reads HOK.out (by have := HOK.out.few; omega)) HSM.out).mono ?_
      rintro e w4 ⟨rfl, hb4⟩
      have hst4 : Turn (Maps2 mI mE) w3 w4 := Turn.trans (Turn.refl (Maps2 mI mE) _) (Below.turn' hb4 _)
      have HTp0_4 := Lib.hid (HTp0_3.out.trans hst4)
      have HG_4 := Lib.hid ((HG_3.out.new (New.refl _)).below hb4)
      have HH_4 := Lib.hid ((HH_3.out.new (New.refl _)).below hb4)
      have HO4 : Hid (Below W0.heap.size W0 w4) := Lib.hid (Below.trans HO3.out (hb4.mono (by have := HO3.out.size; first | exact this | (simp only [World.size_alloc]; omega))))
      rw [HWH.out]
      clear hst4 hb4
      obtain ⟨_, _, _, _, _, _, _, _, _, _, _, _, _, _⟩ := Hp0.out _ _ HTp0_4.out
      go_wp2_with fail
      refine (same_any gb hb G w4 HOK.out ((HG_4.out.reads HOK.out (by have := HOK.out.few; omega))) ((HH_4.out.reads HOK.out (by have := HOK.out.few; omega)))).mono ?_
      rintro e w5 ⟨rfl, hb5⟩
      have hst5 : Turn (Maps2 mI mE) w4 w5 := Turn.trans (Turn.refl (Maps2 mI mE) _) (Below.turn' hb5 _)
      have HTp0_5 := Lib.hid (HTp0_4.out.trans hst5)
      have HG_5 := Lib.hid ((HG_4.out.new (New.refl _)).below hb5)
      have HH_5 := Lib.hid ((HH_4.out.new (New.refl _)).below hb5)
      have HO5 : Hid (Below W0.heap.size W0 w5) := Lib.hid (Below.trans HO4.out (hb5.mono (by have := HO4.out.size; first | exact this | (simp only [World.size_alloc]; omega))))
      clear hst5 hb5
      obtain ⟨_, _, _, _, _, _, _, _, _, _, _, _, _, _⟩ := Hp0.out _ _ HTp0_5.out
      go_wp2_with fail
      refine (apply_any gb mI mE G o w5 HG_5.out HOK.out HTH.out HSM.out).mono ?_
      rintro e w6 ⟨rfl, hG6, hT6⟩
      rw [HWH.out]
      rw [HG'.out] at hG6
      have hst6 : Turn (Maps2 mI mE) w5 w6 := Turn.trans (Turn.refl (Maps2 mI mE) _) hT6
      have HTp0_6 := Lib.hid (HTp0_5.out.trans hst6)
      have HG_6 := Lib.hid hG6
      have HH_6 := Lib.hid ((HH_5.out.new (New.refl _)).turn hT6 (fun hq => by have := HAP.out; rcases hq with hq | hq <;> omega) (fun hq => by have := HAP.out; rcases hq with hq | hq <;> omega) (fun hq => by have := HAP.out; rcases hq with hq | hq <;> omega))
      have HO6 : Hid (Below W0.heap.size W0 w6) := Lib.hid (Below.trans HO5.out (own_below hT6 HM.out.1 HM.out.2.1 (by have := HO5.out.size; first | exact this | (simp only [World.size_alloc]; omega))))
      clear hst6 hT6 hG6
      obtain ⟨_, _, _, _, _, _, _, _, _, _, _, _, _, _⟩ := Hp0.out _ _ HTp0_6.out
      go_wp2_with fail
      refine (apply_nil o w6).mono ?_
      rintro e w7 ⟨rfl, hb7⟩
      have hst7 : Turn (Maps2 mI mE) w6 w7 := Turn.trans (Turn.refl (Maps2 mI mE) _) (Below.turn' hb7 _)
      have HTp0_7 := Lib.hid (HTp0_6.out.trans hst7)
      have HG_7 := Lib.hid ((HG_6.out.new (New.refl _)).below hb7)
      have HH_7 := Lib.hid ((HH_6.out.new (New.refl _)).below hb7)
      have HO7 : Hid (Below W0.heap.size W0 w7) := Lib.hid (Below.trans HO6.out (hb7.mono (by have := HO6.out.size; first | exact this | (simp only [World.size_alloc]; omega))))
      clear hst7 hb7
      obtain ⟨_, _, _, _, _, _, _, _, _, _, _, _, _, _⟩ := Hp0.out _ _ HTp0_7.out
      go_wp2_with fail
      refine (opMay_any o w7 HSM.out).mono ?_
      rintro e w8 ⟨rfl, hb8⟩
      have hst8 : Turn (Maps2 mI mE) w7 w8 := Turn.trans (Turn.refl (Maps2 mI mE) _) (Below.turn' hb8 _)
      have HTp0_8 := Lib.hid (HTp0_7.out.trans hst8)
      have HG_8 := Lib.hid ((HG_7.out.new (New.refl _)).below hb8)
      have HH_8 := Lib.hid ((HH_7.out.new (New.refl _)).below hb8)
      have HO8 : Hid (Below W0.heap.size W0 w8) := Lib.hid (Below.trans HO7.out (hb8.mono (by have := HO7.out.size; first | exact this | (simp only [World.size_alloc]; omega))))
      rw [hmy]
      clear hst8 hb8
      obtain ⟨_, _, _, _, _, _, _, _, _, _, _, _, _, _⟩ := Hp0.out _ _ HTp0_8.out
      go_wp2
      go_ret
      exact ⟨by first | rfl | simp [*], HW.out.trans (HO8.out.mono HW.out.size)⟩
    · have HAE : Hid ((ran l).apply o = ran l) := Lib.hid (apply_err hw)
      have hwb : ((ran l).opWhy o == 0) = false := by simpa using hw
      have hmy : opMay o = true ∨ (opMay o = false ∧ ((ran l).opWhy o == 1) = true) := by
        cases hm : opMay o with
        | true => exact .inl rfl
        | false => exact .inr ⟨rfl, by unfold Gr.opWhy; simp [hm]⟩
      obtain ⟨r, hr⟩ : ∃ r, r = (ran l).opWhy o := ⟨_, rfl⟩
      have HR := Lib.hid hr
      rw [← hr] at hwb hmy
      clear hr hw h_o
      generalize ran l = G at *
      have t1 : (r == r) = true := by simp
      rcases hmy with hmy | ⟨hmy, hm1⟩
      all_goals
        have HOK : Hid (G.Ok) := Lib.hid hok
        have HTH : Hid (G.Thin) := Lib.hid hth
        clear hok hth
        have HT0 : Hid (Turn (fun _ => False) W0 W0) := Lib.hid (Turn.refl _ _)
        obtain ⟨_, _, _, _, _, _, _, _, _, _, _, _, _, _⟩ := Hp0.out _ _ HT0.out
        go_enter Tryz.func9, Tryz.ntmps9
        go_wp2_with fail
        rw [← hW0]
        have HW0 := Lib.hid hW0
        clear hW0
        go_wp2_with fail
        refine (shown_any _).mono ?_
        rintro e w1 ⟨rfl, hb1⟩
        have HO1 : Hid (Below W0.heap.size W0 w1) := Lib.hid (HO0.out.trans (hb1.mono HO0.out.size))
        have HT_1 : Hid (Turn (fun _ => False) W0 w1) := Lib.hid (Below.turn' HO1.out _)
        clear hb1
        obtain ⟨_, _, _, _, _, _, _, _, _, _, _, _, _, _⟩ := Hp0.out _ _ HT_1.out
        go_wp2_with (go_at_call 32; refine (HF.out _ HO1.out).mono ?_; rintro y w' ⟨rfl, rfl⟩)
        go_wp2_with fail
        refine (HMD.out HLEN.out _ HO1.out).mono ?_
        rintro e w2 ⟨v2, rfl, ⟨gb, mI, mE, rfl, hG2, q1, q2, q3⟩, hb2⟩
        have HO2 : Hid (Below W0.heap.size W0 w2) := Lib.hid (HO1.out.trans (hb2.mono HO1.out.size))
        have HM : Hid (W0.heap.size ≤ mI ∧ W0.heap.size ≤ mE ∧ gb < w2.heap.size ∧ mI < w2.heap.size ∧ mE < w2.heap.size) := Lib.hid ⟨Nat.le_trans HO1.out.size q2, Nat.le_trans HO1.out.size q3, hG2.lt.1, hG2.lt.2.1, hG2.lt.2.2⟩
        have HT_2 : Hid (Turn (Maps2 mI mE) W0 w2) := Lib.hid (Below.turn' HO2.out _)
        have HG_2 : Hid (GrAt w2 gb mI mE G) := Lib.hid hG2
        clear hb2 hG2 q1 q2 q3
        obtain ⟨_, _, _, _, _, _, _, _, _, _, _, _, _, _⟩ := Hp0.out _ _ HT_2.out
        go_wp2_with fail
        refine ((HG_2.out.reads HOK.out (by have := HOK.out.few; omega)).copy w2 (Below.refl _ _)).mono ?_
        rintro e w3 ⟨v3, rfl, ⟨hb, nI, nE, rfl, hH, p1, p2, p3⟩, hb3⟩
        have hst3 : Turn (Maps2 mI mE) w2 w3 := Turn.trans (Turn.refl (Maps2 mI mE) _) (Below.turn' hb3 _)
        have HTp0_3 := Lib.hid (HT_2.out.trans hst3)
        have HG_3 := Lib.hid ((HG_2.out.new (New.refl _)).below hb3)
        have HO3 : Hid (Below W0.heap.size W0 w3) := Lib.hid (Below.trans HO2.out (hb3.mono (by have := HO2.out.size; first | exact this | (simp only [World.size_alloc]; omega))))
        have HAP : Hid (gb < hb ∧ gb < nI ∧ gb < nE ∧ mI < hb ∧ mI < nI ∧ mI < nE ∧ mE < hb ∧ mE < nI ∧ mE < nE) := Lib.hid (by have := HG_2.out.lt; omega)
        have HH_3 : Hid (GrAt w3 hb nI nE G) := Lib.hid hH
        clear p1 p2 p3 hH
        clear hst3 hb3
        obtain ⟨_, _, _, _, _, _, _, _, _, _, _, _, _, _⟩ := Hp0.out _ _ HTp0_3.out
        go_wp2_with fail
        refine (why_any gb G o w3 (HG_3.out.reads HOK.out (by have := HOK.out.few; omega)) HSM.out).mono ?_
        rintro e w4 ⟨rfl, hb4⟩
        have hst4 : Turn (Maps2 mI mE) w3 w4 := Turn.trans (Turn.refl (Maps2 mI mE) _) (Below.turn' hb4 _)
        have HTp0_4 := Lib.hid (HTp0_3.out.trans hst4)
        have HG_4 := Lib.hid ((HG_3.out.new (New.refl _)).below hb4)
        have HH_4 := Lib.hid ((HH_3.out.new (New.refl _)).below hb4)
        have HO4 : Hid (Below W0.heap.size W0 w4) := Lib.hid (Below.trans HO3.out (hb4.mono (by have := HO3.out.size; first | exact this | (simp only [World.size_alloc]; omega))))
        rw [← HR.out]
        clear hst4 hb4
        obtain ⟨_, _, _, _, _, _, _, _, _, _, _, _, _, _⟩ := Hp0.out _ _ HTp0_4.out
        go_wp2_with fail
        refine (same_any gb hb G w4 HOK.out ((HG_4.out.reads HOK.out (by have := HOK.out.few; omega))) ((HH_4.out.reads HOK.out (by have := HOK.out.few; omega)))).mono ?_
        rintro e w5 ⟨rfl, hb5⟩
        have hst5 : Turn (Maps2 mI mE) w4 w5 := Turn.trans (Turn.refl (Maps2 mI mE) _) (Below.turn' hb5 _)
        have HTp0_5 := Lib.hid (HTp0_4.out.trans hst5)
        have HG_5 := Lib.hid ((HG_4.out.new (New.refl _)).below hb5)
        have HH_5 := Lib.hid ((HH_4.out.new (New.refl _)).below hb5)
        have HO5 : Hid (Below W0.heap.size W0 w5) := Lib.hid (Below.trans HO4.out (hb5.mono (by have := HO4.out.size; first | exact this | (simp only [World.size_alloc]; omega))))
        clear hst5 hb5
        obtain ⟨_, _, _, _, _, _, _, _, _, _, _, _, _, _⟩ := Hp0.out _ _ HTp0_5.out
        go_wp2_with fail
        refine (apply_any gb mI mE G o w5 HG_5.out HOK.out HTH.out HSM.out).mono ?_
        rintro e w6 ⟨rfl, hG6, hT6⟩
        rw [← HR.out]
        rw [HAE.out] at hG6
        have hst6 : Turn (Maps2 mI mE) w5 w6 := Turn.trans (Turn.refl (Maps2 mI mE) _) hT6
        have HTp0_6 := Lib.hid (HTp0_5.out.trans hst6)
        have HG_6 := Lib.hid hG6
        have HH_6 := Lib.hid ((HH_5.out.new (New.refl _)).turn hT6 (fun hq => by have := HAP.out; rcases hq with hq | hq <;> omega) (fun hq => by have := HAP.out; rcases hq with hq | hq <;> omega) (fun hq => by have := HAP.out; rcases hq with hq | hq <;> omega))
        have HO6 : Hid (Below W0.heap.size W0 w6) := Lib.hid (Below.trans HO5.out (own_below hT6 HM.out.1 HM.out.2.1 (by have := HO5.out.size; first | exact this | (simp only [World.size_alloc]; omega))))
        clear hst6 hT6 hG6
        obtain ⟨_, _, _, _, _, _, _, _, _, _, _, _, _, _⟩ := Hp0.out _ _ HTp0_6.out
        go_wp2_with fail
        refine (same_any gb hb G w6 HOK.out ((HG_6.out.reads HOK.out (by have := HOK.out.few; omega))) ((HH_6.out.reads HOK.out (by have := HOK.out.few; omega)))).mono ?_
        rintro e w7 ⟨rfl, hb7⟩
        have hst7 : Turn (Maps2 mI mE) w6 w7 := Turn.trans (Turn.refl (Maps2 mI mE) _) (Below.turn' hb7 _)
        have HTp0_7 := Lib.hid (HTp0_6.out.trans hst7)
        have HG_7 := Lib.hid ((HG_6.out.new (New.refl _)).below hb7)
        have HH_7 := Lib.hid ((HH_6.out.new (New.refl _)).below hb7)
        have HO7 : Hid (Below W0.heap.size W0 w7) := Lib.hid (Below.trans HO6.out (hb7.mono (by have := HO6.out.size; first | exact this | (simp only [World.size_alloc]; omega))))
        clear hst7 hb7
        obtain ⟨_, _, _, _, _, _, _, _, _, _, _, _, _, _⟩ := Hp0.out _ _ HTp0_7.out
        go_wp2_with fail
        refine (apply_nil o w7).mono ?_
        rintro e w8 ⟨rfl, hb8⟩
        have hst8 : Turn (Maps2 mI mE) w7 w8 := Turn.trans (Turn.refl (Maps2 mI mE) _) (Below.turn' hb8 _)
        have HTp0_8 := Lib.hid (HTp0_7.out.trans hst8)
        have HG_8 := Lib.hid ((HG_7.out.new (New.refl _)).below hb8)
        have HH_8 := Lib.hid ((HH_7.out.new (New.refl _)).below hb8)
        have HO8 : Hid (Below W0.heap.size W0 w8) := Lib.hid (Below.trans HO7.out (hb8.mono (by have := HO7.out.size; first | exact this | (simp only [World.size_alloc]; omega))))
        clear hst8 hb8
        obtain ⟨_, _, _, _, _, _, _, _, _, _, _, _, _, _⟩ := Hp0.out _ _ HTp0_8.out
        go_wp2_with fail
        refine (opMay_any o w8 HSM.out).mono ?_
        rintro e w9 ⟨rfl, hb9⟩
        have hst9 : Turn (Maps2 mI mE) w8 w9 := Turn.trans (Turn.refl (Maps2 mI mE) _) (Below.turn' hb9 _)
        have HTp0_9 := Lib.hid (HTp0_8.out.trans hst9)
        have HG_9 := Lib.hid ((HG_8.out.new (New.refl _)).below hb9)
        have HH_9 := Lib.hid ((HH_8.out.new (New.refl _)).below hb9)
        have HO9 : Hid (Below W0.heap.size W0 w9) := Lib.hid (Below.trans HO8.out (hb9.mono (by have := HO8.out.size; first | exact this | (simp only [World.size_alloc]; omega))))
        rw [hmy]
        clear hst9 hb9
        obtain ⟨_, _, _, _, _, _, _, _, _, _, _, _, _, _⟩ := Hp0.out _ _ HTp0_9.out
        go_wp2
        go_ret
        exact ⟨by first | rfl | simp [*], HW.out.trans (HO9.out.mono HW.out.size)⟩
end Go.Proofs.YtmnkaohhjhjciaaGreat.L11
