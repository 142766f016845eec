/-
  thimblelaw12.UndoFew: its arms at other kinds; no condition but the texts' reach. · thimblelaw12.UndoFew: its other arms; no condition but the texts' reach.
-/
import Derived.Test.YtlokljaeknmdpaaGreatKLC
/-! ## LFewB -/
namespace Go.Proofs.YtlokljaeknmdpaaGreat.L12
open Go.RowKit Go.Shelf Go.Proofs

set_option maxRecDepth 100000 in
set_option maxHeartbeats 8000000 in
theorem few_rest_0 (v1 : Value) (l : List Op) (o : Op) (w : World) (hs1 : SlAt w 13 Op.cells v1 l) (hn1 : ∀ o ∈ l, o.Small) (h_o : o.Small) (hl60 : decide (l.length ≤ 60) = true) (hw : (ran l).opWhy o = 0) (h8 : ¬ 8 ≤ o.kind) (hk3 : ¬ (o.kind = 1 ∨ o.kind = 2 ∨ o.kind = 3)) (hz1 : (((lostOf (ran l) ((ran l).apply o)).length : Int) == 0) = false) :
    Calls Tryz.prog 5 #[v1, o.v] w fun y w' => y = .returned (.bool true) ∧ Below w.heap.size w w' := by
  have HF1 := Lib.hid (fun W (hW : Below w.heap.size w W) => few_any v1 l W (hs1.below hW))
  have HM1 := Lib.hid (fun (hl : l.length ≤ 1000) W (hW : Below w.heap.size w W) => made_any v1 l W (hs1.below hW) hn1 hl)
  have HBX : Hid (∀ S W, Turn S (w.alloc (.cells #[.int .i64 o.stamp.t, .int .i64 o.stamp.r, .int .i64 o.kind, .int .i64 o.at_.t, .int .i64 o.at_.r, .int .i64 o.ino.t, .int .i64 o.ino.r, .int .i64 o.to.t, .int .i64 o.to.r, .string o.name, .string o.new, .int .i64 o.off, .string o.data] 47)) W → (W.cell? ⟨w.heap.size, 0, none⟩ = some (.int .i64 o.stamp.t) ∧ W.cell? ⟨w.heap.size, 1, none⟩ = some (.int .i64 o.stamp.r) ∧ W.cell? ⟨w.heap.size, 2, none⟩ = some (.int .i64 o.kind) ∧ W.cell? ⟨w.heap.size, 3, none⟩ = some (.int .i64 o.at_.t) ∧ W.cell? ⟨w.heap.size, 4, none⟩ = some (.int .i64 o.at_.r) ∧ W.cell? ⟨w.heap.size, 5, none⟩ = some (.int .i64 o.ino.t) ∧ W.cell? ⟨w.heap.size, 6, none⟩ = some (.int .i64 o.ino.r) ∧ W.cell? ⟨w.heap.size, 7, none⟩ = some (.int .i64 o.to.t) ∧ W.cell? ⟨w.heap.size, 8, none⟩ = some (.int .i64 o.to.r) ∧ W.cell? ⟨w.heap.size, 9, none⟩ = some (.string o.name) ∧ W.cell? ⟨w.heap.size, 10, none⟩ = some (.string o.new) ∧ W.cell? ⟨w.heap.size, 11, none⟩ = some (.int .i64 o.off) ∧ W.cell? ⟨w.heap.size, 12, none⟩ = some (.string o.data) ∧ w.heap.size < W.heap.size)) := Lib.hid fun S W hW => ⟨(hW.cell ⟨_, 0, none⟩ (by simp)).trans (cell_new _ _ rfl _ _ 0 _ rfl), (hW.cell ⟨_, 1, none⟩ (by simp)).trans (cell_new _ _ rfl _ _ 1 _ rfl), (hW.cell ⟨_, 2, none⟩ (by simp)).trans (cell_new _ _ rfl _ _ 2 _ rfl), (hW.cell ⟨_, 3, none⟩ (by simp)).trans (cell_new _ _ rfl _ _ 3 _ rfl), (hW.cell ⟨_, 4, none⟩ (by simp)).trans (cell_new _ _ rfl _ _ 4 _ rfl), (hW.cell ⟨_, 5, none⟩ (by simp)).trans (cell_new _ _ rfl _ _ 5 _ rfl), (hW.cell ⟨_, 6, none⟩ (by simp)).trans (cell_new _ _ rfl _ _ 6 _ rfl), (hW.cell ⟨_, 7, none⟩ (by simp)).trans (cell_new _ _ rfl _ _ 7 _ rfl), (hW.cell ⟨_, 8, none⟩ (by simp)).trans (cell_new _ _ rfl _ _ 8 _ rfl), (hW.cell ⟨_, 9, none⟩ (by simp)).trans (cell_new _ _ rfl _ _ 9 _ rfl), (hW.cell ⟨_, 10, none⟩ (by simp)).trans (cell_new _ _ rfl _ _ 10 _ rfl), (hW.cell ⟨_, 11, none⟩ (by simp)).trans (cell_new _ _ rfl _ _ 11 _ rfl), (hW.cell ⟨_, 12, none⟩ (by simp)).trans (cell_new _ _ rfl _ _ 12 _ rfl), by have := hW.size; simp at this; omega⟩
  have HB0 : Hid (Below w.heap.size w (w.alloc (.cells #[.int .i64 o.stamp.t, .int .i64 o.stamp.r, .int .i64 o.kind, .int .i64 o.at_.t, .int .i64 o.at_.r, .int .i64 o.ino.t, .int .i64 o.ino.r, .int .i64 o.to.t, .int .i64 o.to.r, .string o.name, .string o.new, .int .i64 o.off, .string o.data] 47))) := Lib.hid ((New.refl w).alloc _).below
  have hmk := fun W => opMakes_any o W
  obtain ⟨a1, c1, rfl⟩ := hs1.len
  have HSM := Lib.hid h_o
  clear hs1 hn1 h_o
  unfold Op.v at hmk ⊢
  have HMK := Lib.hid hmk
  clear hmk
  rw [hl60] at HF1
  have HL1 : Hid (l.length ≤ 1000) := Lib.hid (by have := of_decide_eq_true hl60; omega)
  clear hl60
  obtain ⟨m1, m2, m3, m4⟩ := (ran_ok l).few_law o
  have HOK : Hid ((ran l).Ok) := Lib.hid (ran_ok l)
  have HTH : Hid ((ran l).Thin) := Lib.hid (ran_thin l)
  have HW0 := Lib.hid hw
  have g1 : decide (((lostOf (ran l) ((ran l).apply o)).length : Int) ≤ 2) = true := by rw [decide_eq_true_eq]; omega
  have g1n : decide ((lostOf (ran l) ((ran l).apply o)).length ≤ 2) = true := decide_eq_true m1
  have g2 : decide (((lostOf ((ran l).apply o) (ran l)).length : Int) ≤ 1) = true := by rw [decide_eq_true_eq]; omega
  have g2n : decide ((lostOf ((ran l).apply o) (ran l)).length ≤ 1) = true := decide_eq_true m2
  have g3 : decide (((newOf (ran l) ((ran l).apply o)).length : Int) ≤ 1) = true := by rw [decide_eq_true_eq]; omega
  have g3n : decide ((newOf (ran l) ((ran l).apply o)).length ≤ 1) = true := decide_eq_true m3
  have g4 : decide (((wasOf (ran l) ((ran l).apply o)).length : Int) ≤ 1) = true := by rw [decide_eq_true_eq]; omega
  have g4n : decide ((wasOf (ran l) ((ran l).apply o)).length ≤ 1) = true := decide_eq_true m4
  have g4' : decide (((wasOf (ran l) ((ran l).apply o)).length : Int) > 1) = false := by rw [decide_eq_false_iff_not]; omega
  have g4m : decide (1 < (wasOf (ran l) ((ran l).apply o)).length) = false := decide_eq_false (by omega)
  have hk8 : decide (o.kind ≥ 8) = false := by rw [decide_eq_false_iff_not]; exact h8
  have hk8n : decide ((8 : Int) ≤ o.kind) = false := hk8
  have hmk0 : (makesOf o.kind != 0) = false := by unfold makesOf; rw [if_neg (by omega), if_neg (by omega), if_neg (by omega)]; rfl
  clear hk3 h8
  clear m1 m2 m3 m4 hw
  generalize ran l = G at *
  go_enter Tryz.func5, Tryz.ntmps5
  go_wp2_with fail
  refine (shown_any _).mono ?_
  rintro e w1 ⟨rfl, hb1⟩
  have HB1 := Lib.hid (HB0.out.trans (hb1.mono HB0.out.size))
  have HT1 := Lib.hid (Below.turn' hb1 (Maps2 0 0))
  have HC1 : Hid (∀ S W, Turn S w1 W → Turn S (w.alloc (.cells #[.int .i64 o.stamp.t, .int .i64 o.stamp.r, .int .i64 o.kind, .int .i64 o.at_.t, .int .i64 o.at_.r, .int .i64 o.ino.t, .int .i64 o.ino.r, .int .i64 o.to.t, .int .i64 o.to.r, .string o.name, .string o.new, .int .i64 o.off, .string o.data] 47)) W) := Lib.hid fun S W hW => (Below.turn' hb1 S).trans hW
  clear hb1
  go_wp2_with (go_at_call 25; refine (HF1.out _ HB1.out).mono ?_; rintro y w' ⟨rfl, rfl⟩)
  refine (HM1.out HL1.out _ HB1.out).mono ?_
  rintro e w2 ⟨va, rfl, ⟨gb, mI, mE, rfl, hG2, q1, q2, q3⟩, hb2⟩
  have HB2 := Lib.hid (HB1.out.trans (hb2.mono HB1.out.size))
  have HG2 := Lib.hid hG2
  have HMM : Hid (w.heap.size ≤ mI ∧ w.heap.size ≤ mE) := Lib.hid ⟨Nat.le_trans HB1.out.size q2, Nat.le_trans HB1.out.size q3⟩
  have HC2 : Hid (∀ S W, Turn S w2 W → Turn S (w.alloc (.cells #[.int .i64 o.stamp.t, .int .i64 o.stamp.r, .int .i64 o.kind, .int .i64 o.at_.t, .int .i64 o.at_.r, .int .i64 o.ino.t, .int .i64 o.ino.r, .int .i64 o.to.t, .int .i64 o.to.r, .string o.name, .string o.new, .int .i64 o.off, .string o.data] 47)) W) := Lib.hid fun S W hW => HC1.out S W ((Below.turn' hb2 S).trans hW)
  obtain ⟨_, _, _, _, _, _, _, _, _, _, _, _, _, _⟩ := HBX.out _ _ (HC2.out (fun _ => False) _ (Turn.refl _ _))
  clear hG2 q1 q2 q3 hb2
  go_wp2_with fail
  refine (undo_any gb mI mE G o w2 HG2.out HOK.out HTH.out HSM.out).mono ?_
  rintro e w3 ⟨u1, u2, u3, u4, rfl, hr, hG3, hT3⟩
  obtain ⟨b1, d1, rfl⟩ := (show SlAt w3 5 Ent.cells _ (lostOf G (G.apply o)) from hr.sl.1).len
  obtain ⟨b2, d2, rfl⟩ := (show SlAt w3 5 Ent.cells _ (lostOf (G.apply o) G) from hr.sl.2.1).len
  obtain ⟨b3, d3, rfl⟩ := (show SlAt w3 6 Ino.cells _ (wasOf G (G.apply o)) from hr.sl.2.2.1).len
  obtain ⟨b4, d4, rfl⟩ := (show SlAt w3 2 St.cells _ (newOf G (G.apply o)) from hr.sl.2.2.2).len
  have HB3 := Lib.hid (HB2.out.trans (own_below hT3 HMM.out.1 HMM.out.2 HB2.out.size))
  have HC3 : Hid (∀ W, Turn (Maps2 mI mE) w3 W → Turn (Maps2 mI mE) (w.alloc (.cells #[.int .i64 o.stamp.t, .int .i64 o.stamp.r, .int .i64 o.kind, .int .i64 o.at_.t, .int .i64 o.at_.r, .int .i64 o.ino.t, .int .i64 o.ino.r, .int .i64 o.to.t, .int .i64 o.to.r, .string o.name, .string o.new, .int .i64 o.off, .string o.data] 47)) W) := Lib.hid fun W hW => HC2.out _ W (hT3.trans hW)
  have HRC := Lib.hid hr
  obtain ⟨_, _, _, _, _, _, _, _, _, _, _, _, _, _⟩ := HBX.out _ _ (HC3.out _ (Turn.refl _ _))
  clear hr hG3 hT3
  rw [HW0.out]
  go_wp2_with fail
  refine (HMK.out _).mono ?_
  rintro e w4 ⟨rfl, hb4⟩
  have HB4 := Lib.hid ((HB3.out.alloc HB3.out.size _).trans (hb4.mono (by have := HB3.out.size; simp only [World.size_alloc]; omega)))
  obtain ⟨hc4, hf4⟩ := bcell hb4
  have hl4 := hb4.size
  simp only [World.size_alloc] at hl4
  have lt4 : w3.heap.size < w4.heap.size := by omega
  have HC4 := HBX.out _ _ (HC3.out _ (((New.refl w3).alloc _).turn _ |>.trans (Below.turn' hb4 _)))
  obtain ⟨_, _, _, _, _, _, _, _, _, _, _, _, _, _⟩ := HC4
  clear hb4 hf4 hl4
  go_wp2_with fail
  go_quiet (fail)
  go_wp2
  go_ret
  exact ⟨by first | rfl | simp [*], HB4.out.trans ⟨rfl, rfl, rfl, Nat.le_refl _, fun _ _ => rfl⟩⟩

set_option maxRecDepth 100000 in
set_option maxHeartbeats 8000000 in
theorem few_rest_1 (v1 : Value) (l : List Op) (o : Op) (w : World) (hs1 : SlAt w 13 Op.cells v1 l) (hn1 : ∀ o ∈ l, o.Small) (h_o : o.Small) (hl60 : decide (l.length ≤ 60) = true) (hw : (ran l).opWhy o = 0) (h8 : ¬ 8 ≤ o.kind) (hk3 : ¬ (o.kind = 1 ∨ o.kind = 2 ∨ o.kind = 3)) (hz1 : (((lostOf (ran l) ((ran l).apply o)).length : Int) == 0) = true) (hz2 : (((lostOf ((ran l).apply o) (ran l)).length : Int) == 0) = false) :
    Calls Tryz.prog 5 #[v1, o.v] w fun y w' => y = .returned (.bool true) ∧ Below w.heap.size w w' := by
  have HF1 := Lib.hid (fun W (hW : Below w.heap.size w W) => few_any v1 l W (hs1.below hW))
  have HM1 := Lib.hid (fun (hl : l.length ≤ 1000) W (hW : Below w.heap.size w W) => made_any v1 l W (hs1.below hW) hn1 hl)
  have HBX : Hid (∀ S W, Turn S (w.alloc (.cells #[.int .i64 o.stamp.t, .int .i64 o.stamp.r, .int .i64 o.kind, .int .i64 o.at_.t, .int .i64 o.at_.r, .int .i64 o.ino.t, .int .i64 o.ino.r, .int .i64 o.to.t, .int .i64 o.to.r, .string o.name, .string o.new, .int .i64 o.off, .string o.data] 47)) W → (W.cell? ⟨w.heap.size, 0, none⟩ = some (.int .i64 o.stamp.t) ∧ W.cell? ⟨w.heap.size, 1, none⟩ = some (.int .i64 o.stamp.r) ∧ W.cell? ⟨w.heap.size, 2, none⟩ = some (.int .i64 o.kind) ∧ W.cell? ⟨w.heap.size, 3, none⟩ = some (.int .i64 o.at_.t) ∧ W.cell? ⟨w.heap.size, 4, none⟩ = some (.int .i64 o.at_.r) ∧ W.cell? ⟨w.heap.size, 5, none⟩ = some (.int .i64 o.ino.t) ∧ W.cell? ⟨w.heap.size, 6, none⟩ = some (.int .i64 o.ino.r) ∧ W.cell? ⟨w.heap.size, 7, none⟩ = some (.int .i64 o.to.t) ∧ W.cell? ⟨w.heap.size, 8, none⟩ = some (.int .i64 o.to.r) ∧ W.cell? ⟨w.heap.size, 9, none⟩ = some (.string o.name) ∧ W.cell? ⟨w.heap.size, 10, none⟩ = some (.string o.new) ∧ W.cell? ⟨w.heap.size, 11, none⟩ = some (.int .i64 o.off) ∧ W.cell? ⟨w.heap.size, 12, none⟩ = some (.string o.data) ∧ w.heap.size < W.heap.size)) := Lib.hid fun S W hW => ⟨(hW.cell ⟨_, 0, none⟩ (by simp)).trans (cell_new _ _ rfl _ _ 0 _ rfl), (hW.cell ⟨_, 1, none⟩ (by simp)).trans (cell_new _ _ rfl _ _ 1 _ rfl), (hW.cell ⟨_, 2, none⟩ (by simp)).trans (cell_new _ _ rfl _ _ 2 _ rfl), (hW.cell ⟨_, 3, none⟩ (by simp)).trans (cell_new _ _ rfl _ _ 3 _ rfl), (hW.cell ⟨_, 4, none⟩ (by simp)).trans (cell_new _ _ rfl _ _ 4 _ rfl), (hW.cell ⟨_, 5, none⟩ (by simp)).trans (cell_new _ _ rfl _ _ 5 _ rfl), (hW.cell ⟨_, 6, none⟩ (by simp)).trans (cell_new _ _ rfl _ _ 6 _ rfl), (hW.cell ⟨_, 7, none⟩ (by simp)).trans (cell_new _ _ rfl _ _ 7 _ rfl), (hW.cell ⟨_, 8, none⟩ (by simp)).trans (cell_new _ _ rfl _ _ 8 _ rfl), (hW.cell ⟨_, 9, none⟩ (by simp)).trans (cell_new _ _ rfl _ _ 9 _ rfl), (hW.cell ⟨_, 10, none⟩ (by simp)).trans (cell_new _ _ rfl _ _ 10 _ rfl), (hW.cell ⟨_, 11, none⟩ (by simp)).trans (cell_new _ _ rfl _ _ 11 _ rfl), (hW.cell ⟨_, 12, none⟩ (by simp)).trans (cell_new _ _ rfl _ _ 12 _ rfl), by have := hW.size; simp at this; omega⟩
  have HB0 : Hid (Below w.heap.size w (w.alloc (.cells #[.int .i64 o.stamp.t, .int .i64 o.stamp.r, .int .i64 o.kind, .int .i64 o.at_.t, .int .i64 o.at_.r, .int .i64 o.ino.t, .int .i64 o.ino.r, .int .i64 o.to.t, .int .i64 o.to.r, .string o.name, .string o.new, .int .i64 o.off, .string o.data] 47))) := Lib.hid ((New.refl w).alloc _).below
  have hmk := fun W => opMakes_any o W
  obtain ⟨a1, c1, rfl⟩ := hs1.len
  have HSM := Lib.hid h_o
  clear hs1 hn1 h_o
  unfold Op.v at hmk ⊢
  have HMK := Lib.hid hmk
  clear hmk
  rw [hl60] at HF1
  have HL1 : Hid (l.length ≤ 1000) := Lib.hid (by have := of_decide_eq_true hl60; omega)
  clear hl60
  obtain ⟨m1, m2, m3, m4⟩ := (ran_ok l).few_law o
  have HOK : Hid ((ran l).Ok) := Lib.hid (ran_ok l)
  have HTH : Hid ((ran l).Thin) := Lib.hid (ran_thin l)
  have HW0 := Lib.hid hw
  have g1 : decide (((lostOf (ran l) ((ran l).apply o)).length : Int) ≤ 2) = true := by rw [decide_eq_true_eq]; omega
  have g1n : decide ((lostOf (ran l) ((ran l).apply o)).length ≤ 2) = true := decide_eq_true m1
  have g2 : decide (((lostOf ((ran l).apply o) (ran l)).length : Int) ≤ 1) = true := by rw [decide_eq_true_eq]; omega
  have g2n : decide ((lostOf ((ran l).apply o) (ran l)).length ≤ 1) = true := decide_eq_true m2
  have g3 : decide (((newOf (ran l) ((ran l).apply o)).length : Int) ≤ 1) = true := by rw [decide_eq_true_eq]; omega
  have g3n : decide ((newOf (ran l) ((ran l).apply o)).length ≤ 1) = true := decide_eq_true m3
  have g4 : decide (((wasOf (ran l) ((ran l).apply o)).length : Int) ≤ 1) = true := by rw [decide_eq_true_eq]; omega
  have g4n : decide ((wasOf (ran l) ((ran l).apply o)).length ≤ 1) = true := decide_eq_true m4
  have g4' : decide (((wasOf (ran l) ((ran l).apply o)).length : Int) > 1) = false := by rw [decide_eq_false_iff_not]; omega
  have g4m : decide (1 < (wasOf (ran l) ((ran l).apply o)).length) = false := decide_eq_false (by omega)
  have hk8 : decide (o.kind ≥ 8) = false := by rw [decide_eq_false_iff_not]; exact h8
  have hk8n : decide ((8 : Int) ≤ o.kind) = false := hk8
  have hmk0 : (makesOf o.kind != 0) = false := by unfold makesOf; rw [if_neg (by omega), if_neg (by omega), if_neg (by omega)]; rfl
  clear hk3 h8
  clear m1 m2 m3 m4 hw
  generalize ran l = G at *
  go_enter Tryz.func5, Tryz.ntmps5
  go_wp2_with fail
  refine (shown_any _).mono ?_
  rintro e w1 ⟨rfl, hb1⟩
  have HB1 := Lib.hid (HB0.out.trans (hb1.mono HB0.out.size))
  have HT1 := Lib.hid (Below.turn' hb1 (Maps2 0 0))
  have HC1 : Hid (∀ S W, Turn S w1 W → Turn S (w.alloc (.cells #[.int .i64 o.stamp.t, .int .i64 o.stamp.r, .int .i64 o.kind, .int .i64 o.at_.t, .int .i64 o.at_.r, .int .i64 o.ino.t, .int .i64 o.ino.r, .int .i64 o.to.t, .int .i64 o.to.r, .string o.name, .string o.new, .int .i64 o.off, .string o.data] 47)) W) := Lib.hid fun S W hW => (Below.turn' hb1 S).trans hW
  clear hb1
  go_wp2_with (go_at_call 25; refine (HF1.out _ HB1.out).mono ?_; rintro y w' ⟨rfl, rfl⟩)
  refine (HM1.out HL1.out _ HB1.out).mono ?_
  rintro e w2 ⟨va, rfl, ⟨gb, mI, mE, rfl, hG2, q1, q2, q3⟩, hb2⟩
  have HB2 := Lib.hid (HB1.out.trans (hb2.mono HB1.out.size))
  have HG2 := Lib.hid hG2
  have HMM : Hid (w.heap.size ≤ mI ∧ w.heap.size ≤ mE) := Lib.hid ⟨Nat.le_trans HB1.out.size q2, Nat.le_trans HB1.out.size q3⟩
  have HC2 : Hid (∀ S W, Turn S w2 W → Turn S (w.alloc (.cells #[.int .i64 o.stamp.t, .int .i64 o.stamp.r, .int .i64 o.kind, .int .i64 o.at_.t, .int .i64 o.at_.r, .int .i64 o.ino.t, .int .i64 o.ino.r, .int .i64 o.to.t, .int .i64 o.to.r, .string o.name, .string o.new, .int .i64 o.off, .string o.data] 47)) W) := Lib.hid fun S W hW => HC1.out S W ((Below.turn' hb2 S).trans hW)
  obtain ⟨_, _, _, _, _, _, _, _, _, _, _, _, _, _⟩ := HBX.out _ _ (HC2.out (fun _ => False) _ (Turn.refl _ _))
  clear hG2 q1 q2 q3 hb2
  go_wp2_with fail
  refine (undo_any gb mI mE G o w2 HG2.out HOK.out HTH.out HSM.out).mono ?_
  rintro e w3 ⟨u1, u2, u3, u4, rfl, hr, hG3, hT3⟩
  obtain ⟨b1, d1, rfl⟩ := (show SlAt w3 5 Ent.cells _ (lostOf G (G.apply o)) from hr.sl.1).len
  obtain ⟨b2, d2, rfl⟩ := (show SlAt w3 5 Ent.cells _ (lostOf (G.apply o) G) from hr.sl.2.1).len
  obtain ⟨b3, d3, rfl⟩ := (show SlAt w3 6 Ino.cells _ (wasOf G (G.apply o)) from hr.sl.2.2.1).len
  obtain ⟨b4, d4, rfl⟩ := (show SlAt w3 2 St.cells _ (newOf G (G.apply o)) from hr.sl.2.2.2).len
  have HB3 := Lib.hid (HB2.out.trans (own_below hT3 HMM.out.1 HMM.out.2 HB2.out.size))
  have HC3 : Hid (∀ W, Turn (Maps2 mI mE) w3 W → Turn (Maps2 mI mE) (w.alloc (.cells #[.int .i64 o.stamp.t, .int .i64 o.stamp.r, .int .i64 o.kind, .int .i64 o.at_.t, .int .i64 o.at_.r, .int .i64 o.ino.t, .int .i64 o.ino.r, .int .i64 o.to.t, .int .i64 o.to.r, .string o.name, .string o.new, .int .i64 o.off, .string o.data] 47)) W) := Lib.hid fun W hW => HC2.out _ W (hT3.trans hW)
  have HRC := Lib.hid hr
  obtain ⟨_, _, _, _, _, _, _, _, _, _, _, _, _, _⟩ := HBX.out _ _ (HC3.out _ (Turn.refl _ _))
  clear hr hG3 hT3
  rw [HW0.out]
  go_wp2_with fail
  refine (HMK.out _).mono ?_
  rintro e w4 ⟨rfl, hb4⟩
  have HB4 := Lib.hid ((HB3.out.alloc HB3.out.size _).trans (hb4.mono (by have := HB3.out.size; simp only [World.size_alloc]; omega)))
  obtain ⟨hc4, hf4⟩ := bcell hb4
  have hl4 := hb4.size
  simp only [World.size_alloc] at hl4
  have lt4 : w3.heap.size < w4.heap.size := by omega
  have HC4 := HBX.out _ _ (HC3.out _ (((New.refl w3).alloc _).turn _ |>.trans (Below.turn' hb4 _)))
  obtain ⟨_, _, _, _, _, _, _, _, _, _, _, _, _, _⟩ := HC4
  clear hb4 hf4 hl4
  go_wp2_with fail
  go_quiet (fail)
  go_wp2
  go_ret
  exact ⟨by first | rfl | simp [*], HB4.out.trans ⟨rfl, rfl, rfl, Nat.le_refl _, fun _ _ => rfl⟩⟩

set_option maxRecDepth 100000 in
set_option maxHeartbeats 8000000 in
theorem few_rest_2 (v1 : Value) (l : List Op) (o : Op) (w : World) (hs1 : SlAt w 13 Op.cells v1 l) (hn1 : ∀ o ∈ l, o.Small) (h_o : o.Small) (hl60 : decide (l.length ≤ 60) = true) (hw : (ran l).opWhy o = 0) (h8 : ¬ 8 ≤ o.kind) (hk3 : ¬ (o.kind = 1 ∨ o.kind = 2 ∨ o.kind = 3)) (hz1 : (((lostOf (ran l) ((ran l).apply o)).length : Int) == 0) = true) (hz2 : (((lostOf ((ran l).apply o) (ran l)).length : Int) == 0) = true) (hz4 : (((wasOf (ran l) ((ran l).apply o)).length : Int) == 0) = false) :
    Calls Tryz.prog 5 #[v1, o.v] w fun y w' => y = .returned (.bool true) ∧ Below w.heap.size w w' := by
  have HF1 := Lib.hid (fun W (hW : Below w.heap.size w W) => few_any v1 l W (hs1.below hW))
  have HM1 := Lib.hid (fun (hl : l.length ≤ 1000) W (hW : Below w.heap.size w W) => made_any v1 l W (hs1.below hW) hn1 hl)
  have HBX : Hid (∀ S W, Turn S (w.alloc (.cells #[.int .i64 o.stamp.t, .int .i64 o.stamp.r, .int .i64 o.kind, .int .i64 o.at_.t, .int .i64 o.at_.r, .int .i64 o.ino.t, .int .i64 o.ino.r, .int .i64 o.to.t, .int .i64 o.to.r, .string o.name, .string o.new, .int .i64 o.off, .string o.data] 47)) W → (W.cell? ⟨w.heap.size, 0, none⟩ = some (.int .i64 o.stamp.t) ∧ W.cell? ⟨w.heap.size, 1, none⟩ = some (.int .i64 o.stamp.r) ∧ W.cell? ⟨w.heap.size, 2, none⟩ = some (.int .i64 o.kind) ∧ W.cell? ⟨w.heap.size, 3, none⟩ = some (.int .i64 o.at_.t) ∧ W.cell? ⟨w.heap.size, 4, none⟩ = some (.int .i64 o.at_.r) ∧ W.cell? ⟨w.heap.size, 5, none⟩ = some (.int .i64 o.ino.t) ∧ W.cell? ⟨w.heap.size, 6, none⟩ = some (.int .i64 o.ino.r) ∧ W.cell? ⟨w.heap.size, 7, none⟩ = some (.int .i64 o.to.t) ∧ W.cell? ⟨w.heap.size, 8, none⟩ = some (.int .i64 o.to.r) ∧ W.cell? ⟨w.heap.size, 9, none⟩ = some (.string o.name) ∧ W.cell? ⟨w.heap.size, 10, none⟩ = some (.string o.new) ∧ W.cell? ⟨w.heap.size, 11, none⟩ = some (.int .i64 o.off) ∧ W.cell? ⟨w.heap.size, 12, none⟩ = some (.string o.data) ∧ w.heap.size < W.heap.size)) := Lib.hid fun S W hW => ⟨(hW.cell ⟨_, 0, none⟩ (by simp)).trans (cell_new _ _ rfl _ _ 0 _ rfl), (hW.cell ⟨_, 1, none⟩ (by simp)).trans (cell_new _ _ rfl _ _ 1 _ rfl), (hW.cell ⟨_, 2, none⟩ (by simp)).trans (cell_new _ _ rfl _ _ 2 _ rfl), (hW.cell ⟨_, 3, none⟩ (by simp)).trans (cell_new _ _ rfl _ _ 3 _ rfl), (hW.cell ⟨_, 4, none⟩ (by simp)).trans (cell_new _ _ rfl _ _ 4 _ rfl), (hW.cell ⟨_, 5, none⟩ (by simp)).trans (cell_new _ _ rfl _ _ 5 _ rfl), (hW.cell ⟨_, 6, none⟩ (by simp)).trans (cell_new _ _ rfl _ _ 6 _ rfl), (hW.cell ⟨_, 7, none⟩ (by simp)).trans (cell_new _ _ rfl _ _ 7 _ rfl), (hW.cell ⟨_, 8, none⟩ (by simp)).trans (cell_new _ _ rfl _ _ 8 _ rfl), (hW.cell ⟨_, 9, none⟩ (by simp)).trans (cell_new _ _ rfl _ _ 9 _ rfl), (hW.cell ⟨_, 10, none⟩ (by simp)).trans (cell_new _ _ rfl _ _ 10 _ rfl), (hW.cell ⟨_, 11, none⟩ (by simp)).trans (cell_new _ _ rfl _ _ 11 _ rfl), (hW.cell ⟨_, 12, none⟩ (by simp)).trans (cell_new _ _ rfl _ _ 12 _ rfl), by have := hW.size; simp at this; omega⟩
  have HB0 : Hid (Below w.heap.size w (w.alloc (.cells #[.int .i64 o.stamp.t, .int .i64 o.stamp.r, .int .i64 o.kind, .int .i64 o.at_.t, .int .i64 o.at_.r, .int .i64 o.ino.t, .int .i64 o.ino.r, .int .i64 o.to.t, .int .i64 o.to.r, .string o.name, .string o.new, .int .i64 o.off, .string o.data] 47))) := Lib.hid ((New.refl w).alloc _).below
  have hmk := fun W => opMakes_any o W
  obtain ⟨a1, c1, rfl⟩ := hs1.len
  have HSM := Lib.hid h_o
  clear hs1 hn1 h_o
  unfold Op.v at hmk ⊢
  have HMK := Lib.hid hmk
  clear hmk
  rw [hl60] at HF1
  have HL1 : Hid (l.length ≤ 1000) := Lib.hid (by have := of_decide_eq_true hl60; omega)
  clear hl60
  obtain ⟨m1, m2, m3, m4⟩ := (ran_ok l).few_law o
  have HOK : Hid ((ran l).Ok) := Lib.hid (ran_ok l)
  have HTH : Hid ((ran l).Thin) := Lib.hid (ran_thin l)
  have HW0 := Lib.hid hw
  have g1 : decide (((lostOf (ran l) ((ran l).apply o)).length : Int) ≤ 2) = true := by rw [decide_eq_true_eq]; omega
  have g1n : decide ((lostOf (ran l) ((ran l).apply o)).length ≤ 2) = true := decide_eq_true m1
  have g2 : decide (((lostOf ((ran l).apply o) (ran l)).length : Int) ≤ 1) = true := by rw [decide_eq_true_eq]; omega
  have g2n : decide ((lostOf ((ran l).apply o) (ran l)).length ≤ 1) = true := decide_eq_true m2
  have g3 : decide (((newOf (ran l) ((ran l).apply o)).length : Int) ≤ 1) = true := by rw [decide_eq_true_eq]; omega
  have g3n : decide ((newOf (ran l) ((ran l).apply o)).length ≤ 1) = true := decide_eq_true m3
  have g4 : decide (((wasOf (ran l) ((ran l).apply o)).length : Int) ≤ 1) = true := by rw [decide_eq_true_eq]; omega
  have g4n : decide ((wasOf (ran l) ((ran l).apply o)).length ≤ 1) = true := decide_eq_true m4
  have g4' : decide (((wasOf (ran l) ((ran l).apply o)).length : Int) > 1) = false := by rw [decide_eq_false_iff_not]; omega
  have g4m : decide (1 < (wasOf (ran l) ((ran l).apply o)).length) = false := decide_eq_false (by omega)
  have hk8 : decide (o.kind ≥ 8) = false := by rw [decide_eq_false_iff_not]; exact h8
  have hk8n : decide ((8 : Int) ≤ o.kind) = false := hk8
  have hmk0 : (makesOf o.kind != 0) = false := by unfold makesOf; rw [if_neg (by omega), if_neg (by omega), if_neg (by omega)]; rfl
  clear hk3 h8
  clear m1 m2 m3 m4 hw
  generalize ran l = G at *
  go_enter Tryz.func5, Tryz.ntmps5
  go_wp2_with fail
  refine (shown_any _).mono ?_
  rintro e w1 ⟨rfl, hb1⟩
  have HB1 := Lib.hid (HB0.out.trans (hb1.mono HB0.out.size))
  have HT1 := Lib.hid (Below.turn' hb1 (Maps2 0 0))
  have HC1 : Hid (∀ S W, Turn S w1 W → Turn S (w.alloc (.cells #[.int .i64 o.stamp.t, .int .i64 o.stamp.r, .int .i64 o.kind, .int .i64 o.at_.t, .int .i64 o.at_.r, .int .i64 o.ino.t, .int .i64 o.ino.r, .int .i64 o.to.t, .int .i64 o.to.r, .string o.name, .string o.new, .int .i64 o.off, .string o.data] 47)) W) := Lib.hid fun S W hW => (Below.turn' hb1 S).trans hW
  clear hb1
  go_wp2_with (go_at_call 25; refine (HF1.out _ HB1.out).mono ?_; rintro y w' ⟨rfl, rfl⟩)
  refine (HM1.out HL1.out _ HB1.out).mono ?_
  rintro e w2 ⟨va, rfl, ⟨gb, mI, mE, rfl, hG2, q1, q2, q3⟩, hb2⟩
  have HB2 := Lib.hid (HB1.out.trans (hb2.mono HB1.out.size))
  have HG2 := Lib.hid hG2
  have HMM : Hid (w.heap.size ≤ mI ∧ w.heap.size ≤ mE) := Lib.hid ⟨Nat.le_trans HB1.out.size q2, Nat.le_trans HB1.out.size q3⟩
  have HC2 : Hid (∀ S W, Turn S w2 W → Turn S (w.alloc (.cells #[.int .i64 o.stamp.t, .int .i64 o.stamp.r, .int .i64 o.kind, .int .i64 o.at_.t, .int .i64 o.at_.r, .int .i64 o.ino.t, .int .i64 o.ino.r, .int .i64 o.to.t, .int .i64 o.to.r, .string o.name, .string o.new, .int .i64 o.off, .string o.data] 47)) W) := Lib.hid fun S W hW => HC1.out S W ((Below.turn' hb2 S).trans hW)
  obtain ⟨_, _, _, _, _, _, _, _, _, _, _, _, _, _⟩ := HBX.out _ _ (HC2.out (fun _ => False) _ (Turn.refl _ _))
  clear hG2 q1 q2 q3 hb2
  go_wp2_with fail
  refine (undo_any gb mI mE G o w2 HG2.out HOK.out HTH.out HSM.out).mono ?_
  rintro e w3 ⟨u1, u2, u3, u4, rfl, hr, hG3, hT3⟩
  obtain ⟨b1, d1, rfl⟩ := (show SlAt w3 5 Ent.cells _ (lostOf G (G.apply o)) from hr.sl.1).len
  obtain ⟨b2, d2, rfl⟩ := (show SlAt w3 5 Ent.cells _ (lostOf (G.apply o) G) from hr.sl.2.1).len
  obtain ⟨b3, d3, rfl⟩ := (show SlAt w3 6 Ino.cells _ (wasOf G (G.apply o)) from hr.sl.2.2.1).len
  obtain ⟨b4, d4, rfl⟩ := (show SlAt w3 2 St.cells _ (newOf G (G.apply o)) from hr.sl.2.2.2).len
  have HB3 := Lib.hid (HB2.out.trans (own_below hT3 HMM.out.1 HMM.out.2 HB2.out.size))
  have HC3 : Hid (∀ W, Turn (Maps2 mI mE) w3 W → Turn (Maps2 mI mE) (w.alloc (.cells #[.int .i64 o.stamp.t, .int .i64 o.stamp.r, .int .i64 o.kind, .int .i64 o.at_.t, .int .i64 o.at_.r, .int .i64 o.ino.t, .int .i64 o.ino.r, .int .i64 o.to.t, .int .i64 o.to.r, .string o.name, .string o.new, .int .i64 o.off, .string o.data] 47)) W) := Lib.hid fun W hW => HC2.out _ W (hT3.trans hW)
  have HRC := Lib.hid hr
  obtain ⟨_, _, _, _, _, _, _, _, _, _, _, _, _, _⟩ := HBX.out _ _ (HC3.out _ (Turn.refl _ _))
  clear hr hG3 hT3
  rw [HW0.out]
  go_wp2_with fail
  refine (HMK.out _).mono ?_
  rintro e w4 ⟨rfl, hb4⟩
  have HB4 := Lib.hid ((HB3.out.alloc HB3.out.size _).trans (hb4.mono (by have := HB3.out.size; simp only [World.size_alloc]; omega)))
  obtain ⟨hc4, hf4⟩ := bcell hb4
  have hl4 := hb4.size
  simp only [World.size_alloc] at hl4
  have lt4 : w3.heap.size < w4.heap.size := by omega
  have HC4 := HBX.out _ _ (HC3.out _ (((New.refl w3).alloc _).turn _ |>.trans (Below.turn' hb4 _)))
  obtain ⟨_, _, _, _, _, _, _, _, _, _, _, _, _, _⟩ := HC4
  clear hb4 hf4 hl4
  go_wp2_with fail
  go_quiet (fail)
  go_wp2
  go_ret
  exact ⟨by first | rfl | simp [*], HB4.out.trans ⟨rfl, rfl, rfl, Nat.le_refl _, fun _ _ => rfl⟩⟩
end Go.Proofs.YtlokljaeknmdpaaGreat.L12

/-! ## LFewC -/
namespace Go.Proofs.YtlokljaeknmdpaaGreat.L12
open Go.RowKit Go.Shelf Go.Proofs

set_option maxRecDepth 100000 in
set_option maxHeartbeats 8000000 in
theorem few_rest_3 (v1 : Value) (l : List Op) (o : Op) (w : World) (hs1 : SlAt w 13 Op.cells v1 l) (hn1 : ∀ o ∈ l, o.Small) (h_o : o.Small) (hl60 : decide (l.length ≤ 60) = true) (hw : (ran l).opWhy o = 0) (h8 : ¬ 8 ≤ o.kind) (hk3 : ¬ (o.kind = 1 ∨ o.kind = 2 ∨ o.kind = 3)) (hz1 : (((lostOf (ran l) ((ran l).apply o)).length : Int) == 0) = true) (hz2 : (((lostOf ((ran l).apply o) (ran l)).length : Int) == 0) = true) (hz4 : (((wasOf (ran l) ((ran l).apply o)).length : Int) == 0) = true) (hz3 : (((newOf (ran l) ((ran l).apply o)).length : Int) == 0) = false) :
    Calls Tryz.prog 5 #[v1, o.v] w fun y w' => y = .returned (.bool true) ∧ Below w.heap.size w w' := by
  have HF1 := Lib.hid (fun W (hW : Below w.heap.size w W) => few_any v1 l W (hs1.below hW))
  have HM1 := Lib.hid (fun (hl : l.length ≤ 1000) W (hW : Below w.heap.size w W) => made_any v1 l W (hs1.below hW) hn1 hl)
  have HBX : Hid (∀ S W, Turn S (w.alloc (.cells #[.int .i64 o.stamp.t, .int .i64 o.stamp.r, .int .i64 o.kind, .int .i64 o.at_.t, .int .i64 o.at_.r, .int .i64 o.ino.t, .int .i64 o.ino.r, .int .i64 o.to.t, .int .i64 o.to.r, .string o.name, .string o.new, .int .i64 o.off, .string o.data] 47)) W → (W.cell? ⟨w.heap.size, 0, none⟩ = some (.int .i64 o.stamp.t) ∧ W.cell? ⟨w.heap.size, 1, none⟩ = some (.int .i64 o.stamp.r) ∧ W.cell? ⟨w.heap.size, 2, none⟩ = some (.int .i64 o.kind) ∧ W.cell? ⟨w.heap.size, 3, none⟩ = some (.int .i64 o.at_.t) ∧ W.cell? ⟨w.heap.size, 4, none⟩ = some (.int .i64 o.at_.r) ∧ W.cell? ⟨w.heap.size, 5, none⟩ = some (.int .i64 o.ino.t) ∧ W.cell? ⟨w.heap.size, 6, none⟩ = some (.int .i64 o.ino.r) ∧ W.cell? ⟨w.heap.size, 7, none⟩ = some (.int .i64 o.to.t) ∧ W.cell? ⟨w.heap.size, 8, none⟩ = some (.int .i64 o.to.r) ∧ W.cell? ⟨w.heap.size, 9, none⟩ = some (.string o.name) ∧ W.cell? ⟨w.heap.size, 10, none⟩ = some (.string o.new) ∧ W.cell? ⟨w.heap.size, 11, none⟩ = some (.int .i64 o.off) ∧ W.cell? ⟨w.heap.size, 12, none⟩ = some (.string o.data) ∧ w.heap.size < W.heap.size)) := Lib.hid fun S W hW => ⟨(hW.cell ⟨_, 0, none⟩ (by simp)).trans (cell_new _ _ rfl _ _ 0 _ rfl), (hW.cell ⟨_, 1, none⟩ (by simp)).trans (cell_new _ _ rfl _ _ 1 _ rfl), (hW.cell ⟨_, 2, none⟩ (by simp)).trans (cell_new _ _ rfl _ _ 2 _ rfl), (hW.cell ⟨_, 3, none⟩ (by simp)).trans (cell_new _ _ rfl _ _ 3 _ rfl), (hW.cell ⟨_, 4, none⟩ (by simp)).trans (cell_new _ _ rfl _ _ 4 _ rfl), (hW.cell ⟨_, 5, none⟩ (by simp)).trans (cell_new _ _ rfl _ _ 5 _ rfl), (hW.cell ⟨_, 6, none⟩ (by simp)).trans (cell_new _ _ rfl _ _ 6 _ rfl), (hW.cell ⟨_, 7, none⟩ (by simp)).trans (cell_new _ _ rfl _ _ 7 _ rfl), (hW.cell ⟨_, 8, none⟩ (by simp)).trans (cell_new _ _ rfl _ _ 8 _ rfl), (hW.cell ⟨_, 9, none⟩ (by simp)).trans (cell_new _ _ rfl _ _ 9 _ rfl), (hW.cell ⟨_, 10, none⟩ (by simp)).trans (cell_new _ _ rfl _ _ 10 _ rfl), (hW.cell ⟨_, 11, none⟩ (by simp)).trans (cell_new _ _ rfl _ _ 11 _ rfl), (hW.cell ⟨_, 12, none⟩ (by simp)).trans (cell_new _ _ rfl _ _ 12 _ rfl), by have := hW.size; simp at this; omega⟩
  have HB0 : Hid (Below w.heap.size w (w.alloc (.cells #[.int .i64 o.stamp.t, .int .i64 o.stamp.r, .int .i64 o.kind, .int .i64 o.at_.t, .int .i64 o.at_.r, .int .i64 o.ino.t, .int .i64 o.ino.r, .int .i64 o.to.t, .int .i64 o.to.r, .string o.name, .string o.new, .int .i64 o.off, .string o.data] 47))) := Lib.hid ((New.refl w).alloc _).below
  have hmk := fun W => opMakes_any o W
  obtain ⟨a1, c1, rfl⟩ := hs1.len
  have HSM := Lib.hid h_o
  clear hs1 hn1 h_o
  unfold Op.v at hmk ⊢
  have HMK := Lib.hid hmk
  clear hmk
  rw [hl60] at HF1
  have HL1 : Hid (l.length ≤ 1000) := Lib.hid (by have := of_decide_eq_true hl60; omega)
  clear hl60
  obtain ⟨m1, m2, m3, m4⟩ := (ran_ok l).few_law o
  have HOK : Hid ((ran l).Ok) := Lib.hid (ran_ok l)
  have HTH : Hid ((ran l).Thin) := Lib.hid (ran_thin l)
  have HW0 := Lib.hid hw
  have g1 : decide (((lostOf (ran l) ((ran l).apply o)).length : Int) ≤ 2) = true := by rw [decide_eq_true_eq]; omega
  have g1n : decide ((lostOf (ran l) ((ran l).apply o)).length ≤ 2) = true := decide_eq_true m1
  have g2 : decide (((lostOf ((ran l).apply o) (ran l)).length : Int) ≤ 1) = true := by rw [decide_eq_true_eq]; omega
  have g2n : decide ((lostOf ((ran l).apply o) (ran l)).length ≤ 1) = true := decide_eq_true m2
  have g3 : decide (((newOf (ran l) ((ran l).apply o)).length : Int) ≤ 1) = true := by rw [decide_eq_true_eq]; omega
  have g3n : decide ((newOf (ran l) ((ran l).apply o)).length ≤ 1) = true := decide_eq_true m3
  have g4 : decide (((wasOf (ran l) ((ran l).apply o)).length : Int) ≤ 1) = true := by rw [decide_eq_true_eq]; omega
  have g4n : decide ((wasOf (ran l) ((ran l).apply o)).length ≤ 1) = true := decide_eq_true m4
  have g4' : decide (((wasOf (ran l) ((ran l).apply o)).length : Int) > 1) = false := by rw [decide_eq_false_iff_not]; omega
  have g4m : decide (1 < (wasOf (ran l) ((ran l).apply o)).length) = false := decide_eq_false (by omega)
  have hk8 : decide (o.kind ≥ 8) = false := by rw [decide_eq_false_iff_not]; exact h8
  have hk8n : decide ((8 : Int) ≤ o.kind) = false := hk8
  have hmk0 : (makesOf o.kind != 0) = false := by unfold makesOf; rw [if_neg (by omega), if_neg (by omega), if_neg (by omega)]; rfl
  clear hk3 h8
  clear m1 m2 m3 m4 hw
  generalize ran l = G at *
  go_enter Tryz.func5, Tryz.ntmps5
  go_wp2_with fail
  refine (shown_any _).mono ?_
  rintro e w1 ⟨rfl, hb1⟩
  have HB1 := Lib.hid (HB0.out.trans (hb1.mono HB0.out.size))
  have HT1 := Lib.hid (Below.turn' hb1 (Maps2 0 0))
  have HC1 : Hid (∀ S W, Turn S w1 W → Turn S (w.alloc (.cells #[.int .i64 o.stamp.t, .int .i64 o.stamp.r, .int .i64 o.kind, .int .i64 o.at_.t, .int .i64 o.at_.r, .int .i64 o.ino.t, .int .i64 o.ino.r, .int .i64 o.to.t, .int .i64 o.to.r, .string o.name, .string o.new, .int .i64 o.off, .string o.data] 47)) W) := Lib.hid fun S W hW => (Below.turn' hb1 S).trans hW
  clear hb1
  go_wp2_with (go_at_call 25; refine (HF1.out _ HB1.out).mono ?_; rintro y w' ⟨rfl, rfl⟩)
  refine (HM1.out HL1.out _ HB1.out).mono ?_
  rintro e w2 ⟨va, rfl, ⟨gb, mI, mE, rfl, hG2, q1, q2, q3⟩, hb2⟩
  have HB2 := Lib.hid (HB1.out.trans (hb2.mono HB1.out.size))
  have HG2 := Lib.hid hG2
  have HMM : Hid (w.heap.size ≤ mI ∧ w.heap.size ≤ mE) := Lib.hid ⟨Nat.le_trans HB1.out.size q2, Nat.le_trans HB1.out.size q3⟩
  have HC2 : Hid (∀ S W, Turn S w2 W → Turn S (w.alloc (.cells #[.int .i64 o.stamp.t, .int .i64 o.stamp.r, .int .i64 o.kind, .int .i64 o.at_.t, .int .i64 o.at_.r, .int .i64 o.ino.t, .int .i64 o.ino.r, .int .i64 o.to.t, .int .i64 o.to.r, .string o.name, .string o.new, .int .i64 o.off, .string o.data] 47)) W) := Lib.hid fun S W hW => HC1.out S W ((Below.turn' hb2 S).trans hW)
  obtain ⟨_, _, _, _, _, _, _, _, _, _, _, _, _, _⟩ := HBX.out _ _ (HC2.out (fun _ => False) _ (Turn.refl _ _))
  clear hG2 q1 q2 q3 hb2
  go_wp2_with fail
  refine (undo_any gb mI mE G o w2 HG2.out HOK.out HTH.out HSM.out).mono ?_
  rintro e w3 ⟨u1, u2, u3, u4, rfl, hr, hG3, hT3⟩
  obtain ⟨b1, d1, rfl⟩ := (show SlAt w3 5 Ent.cells _ (lostOf G (G.apply o)) from hr.sl.1).len
  obtain ⟨b2, d2, rfl⟩ := (show SlAt w3 5 Ent.cells _ (lostOf (G.apply o) G) from hr.sl.2.1).len
  obtain ⟨b3, d3, rfl⟩ := (show SlAt w3 6 Ino.cells _ (wasOf G (G.apply o)) from hr.sl.2.2.1).len
  obtain ⟨b4, d4, rfl⟩ := (show SlAt w3 2 St.cells _ (newOf G (G.apply o)) from hr.sl.2.2.2).len
  have HB3 := Lib.hid (HB2.out.trans (own_below hT3 HMM.out.1 HMM.out.2 HB2.out.size))
  have HC3 : Hid (∀ W, Turn (Maps2 mI mE) w3 W → Turn (Maps2 mI mE) (w.alloc (.cells #[.int .i64 o.stamp.t, .int .i64 o.stamp.r, .int .i64 o.kind, .int .i64 o.at_.t, .int .i64 o.at_.r, .int .i64 o.ino.t, .int .i64 o.ino.r, .int .i64 o.to.t, .int .i64 o.to.r, .string o.name, .string o.new, .int .i64 o.off, .string o.data] 47)) W) := Lib.hid fun W hW => HC2.out _ W (hT3.trans hW)
  have HRC := Lib.hid hr
  obtain ⟨_, _, _, _, _, _, _, _, _, _, _, _, _, _⟩ := HBX.out _ _ (HC3.out _ (Turn.refl _ _))
  clear hr hG3 hT3
  rw [HW0.out]
  go_wp2_with fail
  refine (HMK.out _).mono ?_
  rintro e w4 ⟨rfl, hb4⟩
  have HB4 := Lib.hid ((HB3.out.alloc HB3.out.size _).trans (hb4.mono (by have := HB3.out.size; simp only [World.size_alloc]; omega)))
  obtain ⟨hc4, hf4⟩ := bcell hb4
  have hl4 := hb4.size
  simp only [World.size_alloc] at hl4
  have lt4 : w3.heap.size < w4.heap.size := by omega
  have HC4 := HBX.out _ _ (HC3.out _ (((New.refl w3).alloc _).turn _ |>.trans (Below.turn' hb4 _)))
  obtain ⟨_, _, _, _, _, _, _, _, _, _, _, _, _, _⟩ := HC4
  clear hb4 hf4 hl4
  go_wp2_with fail
  go_quiet (fail)
  go_wp2
  go_ret
  exact ⟨by first | rfl | simp [*], HB4.out.trans ⟨rfl, rfl, rfl, Nat.le_refl _, fun _ _ => rfl⟩⟩

set_option maxRecDepth 100000 in
set_option maxHeartbeats 8000000 in
theorem few_rest_4 (v1 : Value) (l : List Op) (o : Op) (w : World) (hs1 : SlAt w 13 Op.cells v1 l) (hn1 : ∀ o ∈ l, o.Small) (h_o : o.Small) (hl60 : decide (l.length ≤ 60) = true) (hw : (ran l).opWhy o = 0) (h8 : ¬ 8 ≤ o.kind) (hk3 : ¬ (o.kind = 1 ∨ o.kind = 2 ∨ o.kind = 3)) (hz1 : (((lostOf (ran l) ((ran l).apply o)).length : Int) == 0) = true) (hz2 : (((lostOf ((ran l).apply o) (ran l)).length : Int) == 0) = true) (hz4 : (((wasOf (ran l) ((ran l).apply o)).length : Int) == 0) = true) (hz3 : (((newOf (ran l) ((ran l).apply o)).length : Int) == 0) = true) :
    Calls Tryz.prog 5 #[v1, o.v] w fun y w' => y = .returned (.bool true) ∧ Below w.heap.size w w' := by
  have HF1 := Lib.hid (fun W (hW : Below w.heap.size w W) => few_any v1 l W (hs1.below hW))
  have HM1 := Lib.hid (fun (hl : l.length ≤ 1000) W (hW : Below w.heap.size w W) => made_any v1 l W (hs1.below hW) hn1 hl)
  have HBX : Hid (∀ S W, Turn S (w.alloc (.cells #[.int .i64 o.stamp.t, .int .i64 o.stamp.r, .int .i64 o.kind, .int .i64 o.at_.t, .int .i64 o.at_.r, .int .i64 o.ino.t, .int .i64 o.ino.r, .int .i64 o.to.t, .int .i64 o.to.r, .string o.name, .string o.new, .int .i64 o.off, .string o.data] 47)) W → (W.cell? ⟨w.heap.size, 0, none⟩ = some (.int .i64 o.stamp.t) ∧ W.cell? ⟨w.heap.size, 1, none⟩ = some (.int .i64 o.stamp.r) ∧ W.cell? ⟨w.heap.size, 2, none⟩ = some (.int .i64 o.kind) ∧ W.cell? ⟨w.heap.size, 3, none⟩ = some (.int .i64 o.at_.t) ∧ W.cell? ⟨w.heap.size, 4, none⟩ = some (.int .i64 o.at_.r) ∧ W.cell? ⟨w.heap.size, 5, none⟩ = some (.int .i64 o.ino.t) ∧ W.cell? ⟨w.heap.size, 6, none⟩ = some (.int .i64 o.ino.r) ∧ W.cell? ⟨w.heap.size, 7, none⟩ = some (.int .i64 o.to.t) ∧ W.cell? ⟨w.heap.size, 8, none⟩ = some (.int .i64 o.to.r) ∧ W.cell? ⟨w.heap.size, 9, none⟩ = some (.string o.name) ∧ W.cell? ⟨w.heap.size, 10, none⟩ = some (.string o.new) ∧ W.cell? ⟨w.heap.size, 11, none⟩ = some (.int .i64 o.off) ∧ W.cell? ⟨w.heap.size, 12, none⟩ = some (.string o.data) ∧ w.heap.size < W.heap.size)) := Lib.hid fun S W hW => ⟨(hW.cell ⟨_, 0, none⟩ (by simp)).trans (cell_new _ _ rfl _ _ 0 _ rfl), (hW.cell ⟨_, 1, none⟩ (by simp)).trans (cell_new _ _ rfl _ _ 1 _ rfl), (hW.cell ⟨_, 2, none⟩ (by simp)).trans (cell_new _ _ rfl _ _ 2 _ rfl), (hW.cell ⟨_, 3, none⟩ (by simp)).trans (cell_new _ _ rfl _ _ 3 _ rfl), (hW.cell ⟨_, 4, none⟩ (by simp)).trans (cell_new _ _ rfl _ _ 4 _ rfl), (hW.cell ⟨_, 5, none⟩ (by simp)).trans (cell_new _ _ rfl _ _ 5 _ rfl), (hW.cell ⟨_, 6, none⟩ (by simp)).trans (cell_new _ _ rfl _ _ 6 _ rfl), (hW.cell ⟨_, 7, none⟩ (by simp)).trans (cell_new _ _ rfl _ _ 7 _ rfl), (hW.cell ⟨_, 8, none⟩ (by simp)).trans (cell_new _ _ rfl _ _ 8 _ rfl), (hW.cell ⟨_, 9, none⟩ (by simp)).trans (cell_new _ _ rfl _ _ 9 _ rfl), (hW.cell ⟨_, 10, none⟩ (by simp)).trans (cell_new _ _ rfl _ _ 10 _ rfl), (hW.cell ⟨_, 11, none⟩ (by simp)).trans (cell_new _ _ rfl _ _ 11 _ rfl), (hW.cell ⟨_, 12, none⟩ (by simp)).trans (cell_new _ _ rfl _ _ 12 _ rfl), by have := hW.size; simp at this; omega⟩
  have HB0 : Hid (Below w.heap.size w (w.alloc (.cells #[.int .i64 o.stamp.t, .int .i64 o.stamp.r, .int .i64 o.kind, .int .i64 o.at_.t, .int .i64 o.at_.r, .int .i64 o.ino.t, .int .i64 o.ino.r, .int .i64 o.to.t, .int .i64 o.to.r, .string o.name, .string o.new, .int .i64 o.off, .string o.data] 47))) := Lib.hid ((New.refl w).alloc _).below
  have hmk := fun W => opMakes_any o W
  obtain ⟨a1, c1, rfl⟩ := hs1.len
  have HSM := Lib.hid h_o
  clear hs1 hn1 h_o
  unfold Op.v at hmk ⊢
  have HMK := Lib.hid hmk
  clear hmk
  rw [hl60] at HF1
  have HL1 : Hid (l.length ≤ 1000) := Lib.hid (by have := of_decide_eq_true hl60; omega)
  clear hl60
  obtain ⟨m1, m2, m3, m4⟩ := (ran_ok l).few_law o
  have HOK : Hid ((ran l).Ok) := Lib.hid (ran_ok l)
  have HTH : Hid ((ran l).Thin) := Lib.hid (ran_thin l)
  have HW0 := Lib.hid hw
  have g1 : decide (((lostOf (ran l) ((ran l).apply o)).length : Int) ≤ 2) = true := by rw [decide_eq_true_eq]; omega
  have g1n : decide ((lostOf (ran l) ((ran l).apply o)).length ≤ 2) = true := decide_eq_true m1
  have g2 : decide (((lostOf ((ran l).apply o) (ran l)).length : Int) ≤ 1) = true := by rw [decide_eq_true_eq]; omega
  have g2n : decide ((lostOf ((ran l).apply o) (ran l)).length ≤ 1) = true := decide_eq_true m2
  have g3 : decide (((newOf (ran l) ((ran l).apply o)).length : Int) ≤ 1) = true := by rw [decide_eq_true_eq]; omega
  have g3n : decide ((newOf (ran l) ((ran l).apply o)).length ≤ 1) = true := decide_eq_true m3
  have g4 : decide (((wasOf (ran l) ((ran l).apply o)).length : Int) ≤ 1) = true := by rw [decide_eq_true_eq]; omega
  have g4n : decide ((wasOf (ran l) ((ran l).apply o)).length ≤ 1) = true := decide_eq_true m4
  have g4' : decide (((wasOf (ran l) ((ran l).apply o)).length : Int) > 1) = false := by rw [decide_eq_false_iff_not]; omega
  have g4m : decide (1 < (wasOf (ran l) ((ran l).apply o)).length) = false := decide_eq_false (by omega)
  have hk8 : decide (o.kind ≥ 8) = false := by rw [decide_eq_false_iff_not]; exact h8
  have hk8n : decide ((8 : Int) ≤ o.kind) = false := hk8
  have hmk0 : (makesOf o.kind != 0) = false := by unfold makesOf; rw [if_neg (by omega), if_neg (by omega), if_neg (by omega)]; rfl
  clear hk3 h8
  clear m1 m2 m3 m4 hw
  generalize ran l = G at *
  go_enter Tryz.func5, Tryz.ntmps5
  go_wp2_with fail
  refine (shown_any _).mono ?_
  rintro e w1 ⟨rfl, hb1⟩
  have HB1 := Lib.hid (HB0.out.trans (hb1.mono HB0.out.size))
  have HT1 := Lib.hid (Below.turn' hb1 (Maps2 0 0))
  have HC1 : Hid (∀ S W, Turn S w1 W → Turn S (w.alloc (.cells #[.int .i64 o.stamp.t, .int .i64 o.stamp.r, .int .i64 o.kind, .int .i64 o.at_.t, .int .i64 o.at_.r, .int .i64 o.ino.t, .int .i64 o.ino.r, .int .i64 o.to.t, .int .i64 o.to.r, .string o.name, .string o.new, .int .i64 o.off, .string o.data] 47)) W) := Lib.hid fun S W hW => (Below.turn' hb1 S).trans hW
  clear hb1
  go_wp2_with (go_at_call 25; refine (HF1.out _ HB1.out).mono ?_; rintro y w' ⟨rfl, rfl⟩)
  refine (HM1.out HL1.out _ HB1.out).mono ?_
  rintro e w2 ⟨va, rfl, ⟨gb, mI, mE, rfl, hG2, q1, q2, q3⟩, hb2⟩
  have HB2 := Lib.hid (HB1.out.trans (hb2.mono HB1.out.size))
  have HG2 := Lib.hid hG2
  have HMM : Hid (w.heap.size ≤ mI ∧ w.heap.size ≤ mE) := Lib.hid ⟨Nat.le_trans HB1.out.size q2, Nat.le_trans HB1.out.size q3⟩
  have HC2 : Hid (∀ S W, Turn S w2 W → Turn S (w.alloc (.cells #[.int .i64 o.stamp.t, .int .i64 o.stamp.r, .int .i64 o.kind, .int .i64 o.at_.t, .int .i64 o.at_.r, .int .i64 o.ino.t, .int .i64 o.ino.r, .int .i64 o.to.t, .int .i64 o.to.r, .string o.name, .string o.new, .int .i64 o.off, .string o.data] 47)) W) := Lib.hid fun S W hW => HC1.out S W ((Below.turn' hb2 S).trans hW)
  obtain ⟨_, _, _, _, _, _, _, _, _, _, _, _, _, _⟩ := HBX.out _ _ (HC2.out (fun _ => False) _ (Turn.refl _ _))
  clear hG2 q1 q2 q3 hb2
  go_wp2_with fail
  refine (undo_any gb mI mE G o w2 HG2.out HOK.out HTH.out HSM.out).mono ?_
  rintro e w3 ⟨u1, u2, u3, u4, rfl, hr, hG3, hT3⟩
  obtain ⟨b1, d1, rfl⟩ := (show SlAt w3 5 Ent.cells _ (lostOf G (G.apply o)) from hr.sl.1).len
  obtain ⟨b2, d2, rfl⟩ := (show SlAt w3 5 Ent.cells _ (lostOf (G.apply o) G) from hr.sl.2.1).len
  obtain ⟨b3, d3, rfl⟩ := (show SlAt w3 6 Ino.cells _ (wasOf G (G.apply o)) from hr.sl.2.2.1).len
  obtain ⟨b4, d4, rfl⟩ := (show SlAt w3 2 St.cells _ (newOf G (G.apply o)) from hr.sl.2.2.2).len
  have HB3 := Lib.hid (HB2.out.trans (own_below hT3 HMM.out.1 HMM.out.2 HB2.out.size))
  have HC3 : Hid (∀ W, Turn (Maps2 mI mE) w3 W → Turn (Maps2 mI mE) (w.alloc (.cells #[.int .i64 o.stamp.t, .int .i64 o.stamp.r, .int .i64 o.kind, .int .i64 o.at_.t, .int .i64 o.at_.r, .int .i64 o.ino.t, .int .i64 o.ino.r, .int .i64 o.to.t, .int .i64 o.to.r, .string o.name, .string o.new, .int .i64 o.off, .string o.data] 47)) W) := Lib.hid fun W hW => HC2.out _ W (hT3.trans hW)
  have HRC := Lib.hid hr
  obtain ⟨_, _, _, _, _, _, _, _, _, _, _, _, _, _⟩ := HBX.out _ _ (HC3.out _ (Turn.refl _ _))
  clear hr hG3 hT3
  rw [HW0.out]
  go_wp2_with fail
  refine (HMK.out _).mono ?_
  rintro e w4 ⟨rfl, hb4⟩
  have HB4 := Lib.hid ((HB3.out.alloc HB3.out.size _).trans (hb4.mono (by have := HB3.out.size; simp only [World.size_alloc]; omega)))
  obtain ⟨hc4, hf4⟩ := bcell hb4
  have hl4 := hb4.size
  simp only [World.size_alloc] at hl4
  have lt4 : w3.heap.size < w4.heap.size := by omega
  have HC4 := HBX.out _ _ (HC3.out _ (((New.refl w3).alloc _).turn _ |>.trans (Below.turn' hb4 _)))
  obtain ⟨_, _, _, _, _, _, _, _, _, _, _, _, _, _⟩ := HC4
  clear hb4 hf4 hl4
  go_wp2_with fail
  go_quiet (fail)
  go_wp2
  go_ret
  exact ⟨by first | rfl | simp [*], HB4.out.trans ⟨rfl, rfl, rfl, Nat.le_refl _, fun _ _ => rfl⟩⟩

set_option maxRecDepth 100000 in
set_option maxHeartbeats 8000000 in
theorem few_not (v1 : Value) (l : List Op) (o : Op) (w : World) (hs1 : SlAt w 13 Op.cells v1 l) (hn1 : ∀ o ∈ l, o.Small) (h_o : o.Small) (hl60 : decide (l.length ≤ 60) = false) :
    Calls Tryz.prog 5 #[v1, o.v] w fun y w' => y = .returned (.bool true) ∧ Below w.heap.size w w' := by
  have HF1 := Lib.hid (fun W (hW : Below w.heap.size w W) => few_any v1 l W (hs1.below hW))
  have HM1 := Lib.hid (fun (hl : l.length ≤ 1000) W (hW : Below w.heap.size w W) => made_any v1 l W (hs1.below hW) hn1 hl)
  have HBX : Hid (∀ S W, Turn S (w.alloc (.cells #[.int .i64 o.stamp.t, .int .i64 o.stamp.r, .int .i64 o.kind, .int .i64 o.at_.t, .int .i64 o.at_.r, .int .i64 o.ino.t, .int .i64 o.ino.r, .int .i64 o.to.t, .int .i64 o.to.r, .string o.name, .string o.new, .int .i64 o.off, .string o.data] 47)) W → (W.cell? ⟨w.heap.size, 0, none⟩ = some (.int .i64 o.stamp.t) ∧ W.cell? ⟨w.heap.size, 1, none⟩ = some (.int .i64 o.stamp.r) ∧ W.cell? ⟨w.heap.size, 2, none⟩ = some (.int .i64 o.kind) ∧ W.cell? ⟨w.heap.size, 3, none⟩ = some (.int .i64 o.at_.t) ∧ W.cell? ⟨w.heap.size, 4, none⟩ = some (.int .i64 o.at_.r) ∧ W.cell? ⟨w.heap.size, 5, none⟩ = some (.int .i64 o.ino.t) ∧ W.cell? ⟨w.heap.size, 6, none⟩ = some (.int .i64 o.ino.r) ∧ W.cell? ⟨w.heap.size, 7, none⟩ = some (.int .i64 o.to.t) ∧ W.cell? ⟨w.heap.size, 8, none⟩ = some (.int .i64 o.to.r) ∧ W.cell? ⟨w.heap.size, 9, none⟩ = some (.string o.name) ∧ W.cell? ⟨w.heap.size, 10, none⟩ = some (.string o.new) ∧ W.cell? ⟨w.heap.size, 11, none⟩ = some (.int .i64 o.off) ∧ W.cell? ⟨w.heap.size, 12, none⟩ = some (.string o.data) ∧ w.heap.size < W.heap.size)) := Lib.hid fun S W hW => ⟨(hW.cell ⟨_, 0, none⟩ (by simp)).trans (cell_new _ _ rfl _ _ 0 _ rfl), (hW.cell ⟨_, 1, none⟩ (by simp)).trans (cell_new _ _ rfl _ _ 1 _ rfl), (hW.cell ⟨_, 2, none⟩ (by simp)).trans (cell_new _ _ rfl _ _ 2 _ rfl), (hW.cell ⟨_, 3, none⟩ (by simp)).trans (cell_new _ _ rfl _ _ 3 _ rfl), (hW.cell ⟨_, 4, none⟩ (by simp)).trans (cell_new _ _ rfl _ _ 4 _ rfl), (hW.cell ⟨_, 5, none⟩ (by simp)).trans (cell_new _ _ rfl _ _ 5 _ rfl), (hW.cell ⟨_, 6, none⟩ (by simp)).trans (cell_new _ _ rfl _ _ 6 _ rfl), (hW.cell ⟨_, 7, none⟩ (by simp)).trans (cell_new _ _ rfl _ _ 7 _ rfl), (hW.cell ⟨_, 8, none⟩ (by simp)).trans (cell_new _ _ rfl _ _ 8 _ rfl), (hW.cell ⟨_, 9, none⟩ (by simp)).trans (cell_new _ _ rfl _ _ 9 _ rfl), (hW.cell ⟨_, 10, none⟩ (by simp)).trans (cell_new _ _ rfl _ _ 10 _ rfl), (hW.cell ⟨_, 11, none⟩ (by simp)).trans (cell_new _ _ rfl _ _ 11 _ rfl), (hW.cell ⟨_, 12, none⟩ (by simp)).trans (cell_new _ _ rfl _ _ 12 _ rfl), by have := hW.size; simp at this; omega⟩
  have HB0 : Hid (Below w.heap.size w (w.alloc (.cells #[.int .i64 o.stamp.t, .int .i64 o.stamp.r, .int .i64 o.kind, .int .i64 o.at_.t, .int .i64 o.at_.r, .int .i64 o.ino.t, .int .i64 o.ino.r, .int .i64 o.to.t, .int .i64 o.to.r, .string o.name, .string o.new, .int .i64 o.off, .string o.data] 47))) := Lib.hid ((New.refl w).alloc _).below
  have hmk := fun W => opMakes_any o W
  obtain ⟨a1, c1, rfl⟩ := hs1.len
  have HSM := Lib.hid h_o
  clear hs1 hn1 h_o
  unfold Op.v at hmk ⊢
  have HMK := Lib.hid hmk
  clear hmk
  rw [hl60] at HF1
  clear hl60
  go_enter Tryz.func5, Tryz.ntmps5
  go_wp2_with fail
  refine (shown_any _).mono ?_
  rintro e w1 ⟨rfl, hb1⟩
  have HB1 := Lib.hid (HB0.out.trans (hb1.mono HB0.out.size))
  clear hb1
  go_wp2_with (go_at_call 25; refine (HF1.out _ HB1.out).mono ?_; rintro y w' ⟨rfl, rfl⟩)
  go_ret
  exact ⟨rfl, HB1.out⟩

set_option maxRecDepth 100000 in
set_option maxHeartbeats 8000000 in
theorem few_err (v1 : Value) (l : List Op) (o : Op) (w : World) (hs1 : SlAt w 13 Op.cells v1 l) (hn1 : ∀ o ∈ l, o.Small) (h_o : o.Small) (hl60 : decide (l.length ≤ 60) = true) (hw : ¬ (ran l).opWhy o = 0) :
    Calls Tryz.prog 5 #[v1, o.v] w fun y w' => y = .returned (.bool true) ∧ Below w.heap.size w w' := by
  have HF1 := Lib.hid (fun W (hW : Below w.heap.size w W) => few_any v1 l W (hs1.below hW))
  have HM1 := Lib.hid (fun (hl : l.length ≤ 1000) W (hW : Below w.heap.size w W) => made_any v1 l W (hs1.below hW) hn1 hl)
  have HBX : Hid (∀ S W, Turn S (w.alloc (.cells #[.int .i64 o.stamp.t, .int .i64 o.stamp.r, .int .i64 o.kind, .int .i64 o.at_.t, .int .i64 o.at_.r, .int .i64 o.ino.t, .int .i64 o.ino.r, .int .i64 o.to.t, .int .i64 o.to.r, .string o.name, .string o.new, .int .i64 o.off, .string o.data] 47)) W → (W.cell? ⟨w.heap.size, 0, none⟩ = some (.int .i64 o.stamp.t) ∧ W.cell? ⟨w.heap.size, 1, none⟩ = some (.int .i64 o.stamp.r) ∧ W.cell? ⟨w.heap.size, 2, none⟩ = some (.int .i64 o.kind) ∧ W.cell? ⟨w.heap.size, 3, none⟩ = some (.int .i64 o.at_.t) ∧ W.cell? ⟨w.heap.size, 4, none⟩ = some (.int .i64 o.at_.r) ∧ W.cell? ⟨w.heap.size, 5, none⟩ = some (.int .i64 o.ino.t) ∧ W.cell? ⟨w.heap.size, 6, none⟩ = some (.int .i64 o.ino.r) ∧ W.cell? ⟨w.heap.size, 7, none⟩ = some (.int .i64 o.to.t) ∧ W.cell? ⟨w.heap.size, 8, none⟩ = some (.int .i64 o.to.r) ∧ W.cell? ⟨w.heap.size, 9, none⟩ = some (.string o.name) ∧ W.cell? ⟨w.heap.size, 10, none⟩ = some (.string o.new) ∧ W.cell? ⟨w.heap.size, 11, none⟩ = some (.int .i64 o.off) ∧ W.cell? ⟨w.heap.size, 12, none⟩ = some (.string o.data) ∧ w.heap.size < W.heap.size)) := Lib.hid fun S W hW => ⟨(hW.cell ⟨_, 0, none⟩ (by simp)).trans (cell_new _ _ rfl _ _ 0 _ rfl), (hW.cell ⟨_, 1, none⟩ (by simp)).trans (cell_new _ _ rfl _ _ 1 _ rfl), (hW.cell ⟨_, 2, none⟩ (by simp)).trans (cell_new _ _ rfl _ _ 2 _ rfl), (hW.cell ⟨_, 3, none⟩ (by simp)).trans (cell_new _ _ rfl _ _ 3 _ rfl), (hW.cell ⟨_, 4, none⟩ (by simp)).trans (cell_new _ _ rfl _ _ 4 _ rfl), (hW.cell ⟨_, 5, none⟩ (by simp)).trans (cell_new _ _ rfl _ _ 5 _ rfl), (hW.cell ⟨_, 6, none⟩ (by simp)).trans (cell_new _ _ rfl _ _ 6 _ rfl), (hW.cell ⟨_, 7, none⟩ (by simp)).trans (cell_new _ _ rfl _ _ 7 _ rfl), (hW.cell ⟨_, 8, none⟩ (by simp)).trans (cell_new _ _ rfl _ _ 8 _ rfl), (hW.cell ⟨_, 9, none⟩ (by simp)).trans (cell_new _ _ rfl _ _ 9 _ rfl), (hW.cell ⟨_, 10, none⟩ (by simp)).trans (cell_new _ _ rfl _ _ 10 _ rfl), (hW.cell ⟨_, 11, none⟩ (by simp)).trans (cell_new _ _ rfl _ _ 11 _ rfl), (hW.cell ⟨_, 12, none⟩ (by simp)).trans (cell_new _ _ rfl _ _ 12 _ rfl), by have := hW.size; simp at this; omega⟩
  have HB0 : Hid (Below w.heap.size w (w.alloc (.cells #[.int .i64 o.stamp.t, .int .i64 o.stamp.r, .int .i64 o.kind, .int .i64 o.at_.t, .int .i64 o.at_.r, .int .i64 o.ino.t, .int .i64 o.ino.r, .int .i64 o.to.t, .int .i64 o.to.r, .string o.name, .string o.new, .int .i64 o.off, .string o.data] 47))) := Lib.hid ((New.refl w).alloc _).below
  have hmk := fun W => opMakes_any o W
  obtain ⟨a1, c1, rfl⟩ := hs1.len
  have HSM := Lib.hid h_o
  clear hs1 hn1 h_o
  unfold Op.v at hmk ⊢
  have HMK := Lib.hid hmk
  clear hmk
  rw [hl60] at HF1
  have HL1 : Hid (l.length ≤ 1000) := Lib.hid (by have := of_decide_eq_true hl60; omega)
  clear hl60
  have hwb : ((ran l).opWhy o != 0) = true := by simpa using hw
  obtain ⟨n1, n2, n3, n4⟩ := none_law (ran_ok l) hw
  have e1 : (((lostOf (ran l) ((ran l).apply o)).length : Int) == 0) = true := by rw [n1]; rfl
  have e2 : (((lostOf ((ran l).apply o) (ran l)).length : Int) == 0) = true := by rw [n2]; rfl
  have e3 : (((newOf (ran l) ((ran l).apply o)).length : Int) == 0) = true := by rw [n3]; rfl
  have e4 : (((wasOf (ran l) ((ran l).apply o)).length : Int) == 0) = true := by rw [n4]; rfl
  have HOK : Hid ((ran l).Ok) := Lib.hid (ran_ok l)
  have HTH : Hid ((ran l).Thin) := Lib.hid (ran_thin l)
  clear n1 n2 n3 n4 hw
  generalize ran l = G at *
  go_enter Tryz.func5, Tryz.ntmps5
  go_wp2_with fail
  refine (shown_any _).mono ?_
  rintro e w1 ⟨rfl, hb1⟩
  have HB1 := Lib.hid (HB0.out.trans (hb1.mono HB0.out.size))
  have HT1 := Lib.hid (Below.turn' hb1 (Maps2 0 0))
  have HC1 : Hid (∀ S W, Turn S w1 W → Turn S (w.alloc (.cells #[.int .i64 o.stamp.t, .int .i64 o.stamp.r, .int .i64 o.kind, .int .i64 o.at_.t, .int .i64 o.at_.r, .int .i64 o.ino.t, .int .i64 o.ino.r, .int .i64 o.to.t, .int .i64 o.to.r, .string o.name, .string o.new, .int .i64 o.off, .string o.data] 47)) W) := Lib.hid fun S W hW => (Below.turn' hb1 S).trans hW
  clear hb1
  go_wp2_with (go_at_call 25; refine (HF1.out _ HB1.out).mono ?_; rintro y w' ⟨rfl, rfl⟩)
  refine (HM1.out HL1.out _ HB1.out).mono ?_
  rintro e w2 ⟨va, rfl, ⟨gb, mI, mE, rfl, hG2, q1, q2, q3⟩, hb2⟩
  have HB2 := Lib.hid (HB1.out.trans (hb2.mono HB1.out.size))
  have HG2 := Lib.hid hG2
  have HMM : Hid (w.heap.size ≤ mI ∧ w.heap.size ≤ mE) := Lib.hid ⟨Nat.le_trans HB1.out.size q2, Nat.le_trans HB1.out.size q3⟩
  have HC2 : Hid (∀ S W, Turn S w2 W → Turn S (w.alloc (.cells #[.int .i64 o.stamp.t, .int .i64 o.stamp.r, .int .i64 o.kind, .int .i64 o.at_.t, .int .i64 o.at_.r, .int .i64 o.ino.t, .int .i64 o.ino.r, .int .i64 o.to.t, .int .i64 o.to.r, .string o.name, .string o.new, .int .i64 o.off, .string o.data] 47)) W) := Lib.hid fun S W hW => HC1.out S W ((Below.turn' hb2 S).trans hW)
  obtain ⟨_, _, _, _, _, _, _, _, _, _, _, _, _, _⟩ := HBX.out _ _ (HC2.out (fun _ => False) _ (Turn.refl _ _))
  clear hG2 q1 q2 q3 hb2
  go_wp2_with fail
  refine (undo_any gb mI mE G o w2 HG2.out HOK.out HTH.out HSM.out).mono ?_
  rintro e w3 ⟨u1, u2, u3, u4, rfl, hr, hG3, hT3⟩
  obtain ⟨b1, d1, rfl⟩ := (show SlAt w3 5 Ent.cells _ (lostOf G (G.apply o)) from hr.sl.1).len
  obtain ⟨b2, d2, rfl⟩ := (show SlAt w3 5 Ent.cells _ (lostOf (G.apply o) G) from hr.sl.2.1).len
  obtain ⟨b3, d3, rfl⟩ := (show SlAt w3 6 Ino.cells _ (wasOf G (G.apply o)) from hr.sl.2.2.1).len
  obtain ⟨b4, d4, rfl⟩ := (show SlAt w3 2 St.cells _ (newOf G (G.apply o)) from hr.sl.2.2.2).len
  have HB3 := Lib.hid (HB2.out.trans (own_below hT3 HMM.out.1 HMM.out.2 HB2.out.size))
  have HC3 : Hid (∀ W, Turn (Maps2 mI mE) w3 W → Turn (Maps2 mI mE) (w.alloc (.cells #[.int .i64 o.stamp.t, .int .i64 o.stamp.r, .int .i64 o.kind, .int .i64 o.at_.t, .int .i64 o.at_.r, .int .i64 o.ino.t, .int .i64 o.ino.r, .int .i64 o.to.t, .int .i64 o.to.r, .string o.name, .string o.new, .int .i64 o.off, .string o.data] 47)) W) := Lib.hid fun W hW => HC2.out _ W (hT3.trans hW)
  have HRC := Lib.hid hr
  obtain ⟨_, _, _, _, _, _, _, _, _, _, _, _, _, _⟩ := HBX.out _ _ (HC3.out _ (Turn.refl _ _))
  clear hr hG3 hT3
  go_wp2
  go_ret
  exact ⟨by first | rfl | simp [*], HB3.out.alloc HB3.out.size _⟩
end Go.Proofs.YtlokljaeknmdpaaGreat.L12
