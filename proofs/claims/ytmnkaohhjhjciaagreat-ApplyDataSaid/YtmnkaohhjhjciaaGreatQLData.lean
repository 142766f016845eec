/-
  thimblelaw11.ApplyData: what is written is read; no condition but the texts' reach.
-/
import Derived.Test.YtmnkaohhjhjciaaGreatQL11
import Derived.Test.YtmnkaohhjhjciaaGreatQLCmp
import Derived.Test.YtmnkaohhjhjciaaGreatKExt
namespace Go.Proofs.YtmnkaohhjhjciaaGreat.L11
open Go.RowKit Go.Shelf Go.Proofs

set_option maxRecDepth 100000 in
set_option maxHeartbeats 8000000 in
theorem data_walk (v : Value) (l : List Op) (o : Op) (other : St) (w : World) (hs : SlAt w 13 Op.cells v l) (hn : ∀ o ∈ l, o.Small) (h_o : o.Small) :
    Calls Tryz.prog 8 #[v, o.v, other.v] w fun y w' => y = .returned (.bool true) ∧ Below w.heap.size w w' := by
  obtain ⟨W0, hW0⟩ : ∃ W0, W0 = ((w.alloc (.cells #[.int .i64 o.stamp.t, .int .i64 o.stamp.r, .int .i64 o.kind, .int .i64 o.at_.t, .int .i64 o.at_.r, .int .i64 o.ino.t, .int .i64 o.ino.r, .int .i64 o.to.t, .int .i64 o.to.r, .string o.name, .string o.new, .int .i64 o.off, .string o.data] 55)).alloc (.cells #[.int .i64 other.t, .int .i64 other.r] 34)) := ⟨_, rfl⟩
  have HW : Hid (Below w.heap.size w W0) := Lib.hid (by rw [hW0]; exact (((New.refl w).alloc _).alloc _).below)
  have HO0 : Hid (Below W0.heap.size W0 W0) := Lib.hid (Below.refl _ _)
  have Hp0 : Hid (∀ S W, Turn S W0 W → (W.cell? ⟨w.heap.size, 0, none⟩ = some (.int .i64 o.stamp.t) ∧ W.cell? ⟨w.heap.size, 1, none⟩ = some (.int .i64 o.stamp.r) ∧ W.cell? ⟨w.heap.size, 2, none⟩ = some (.int .i64 o.kind) ∧ W.cell? ⟨w.heap.size, 3, none⟩ = some (.int .i64 o.at_.t) ∧ W.cell? ⟨w.heap.size, 4, none⟩ = some (.int .i64 o.at_.r) ∧ W.cell? ⟨w.heap.size, 5, none⟩ = some (.int .i64 o.ino.t) ∧ W.cell? ⟨w.heap.size, 6, none⟩ = some (.int .i64 o.ino.r) ∧ W.cell? ⟨w.heap.size, 7, none⟩ = some (.int .i64 o.to.t) ∧ W.cell? ⟨w.heap.size, 8, none⟩ = some (.int .i64 o.to.r) ∧ W.cell? ⟨w.heap.size, 9, none⟩ = some (.string o.name) ∧ W.cell? ⟨w.heap.size, 10, none⟩ = some (.string o.new) ∧ W.cell? ⟨w.heap.size, 11, none⟩ = some (.int .i64 o.off) ∧ W.cell? ⟨w.heap.size, 12, none⟩ = some (.string o.data) ∧ w.heap.size < W.heap.size)) := Lib.hid (by rw [hW0]; exact fun S W hW => ⟨(hW.cell ⟨_, 0, none⟩ (by simp only [World.size_alloc]; omega)).trans (Lib.cell?_alloc_some _ (cell_new w _ rfl _ _ 0 _ rfl)), (hW.cell ⟨_, 1, none⟩ (by simp only [World.size_alloc]; omega)).trans (Lib.cell?_alloc_some _ (cell_new w _ rfl _ _ 1 _ rfl)), (hW.cell ⟨_, 2, none⟩ (by simp only [World.size_alloc]; omega)).trans (Lib.cell?_alloc_some _ (cell_new w _ rfl _ _ 2 _ rfl)), (hW.cell ⟨_, 3, none⟩ (by simp only [World.size_alloc]; omega)).trans (Lib.cell?_alloc_some _ (cell_new w _ rfl _ _ 3 _ rfl)), (hW.cell ⟨_, 4, none⟩ (by simp only [World.size_alloc]; omega)).trans (Lib.cell?_alloc_some _ (cell_new w _ rfl _ _ 4 _ rfl)), (hW.cell ⟨_, 5, none⟩ (by simp only [World.size_alloc]; omega)).trans (Lib.cell?_alloc_some _ (cell_new w _ rfl _ _ 5 _ rfl)), (hW.cell ⟨_, 6, none⟩ (by simp only [World.size_alloc]; omega)).trans (Lib.cell?_alloc_some _ (cell_new w _ rfl _ _ 6 _ rfl)), (hW.cell ⟨_, 7, none⟩ (by simp only [World.size_alloc]; omega)).trans (Lib.cell?_alloc_some _ (cell_new w _ rfl _ _ 7 _ rfl)), (hW.cell ⟨_, 8, none⟩ (by simp only [World.size_alloc]; omega)).trans (Lib.cell?_alloc_some _ (cell_new w _ rfl _ _ 8 _ rfl)), (hW.cell ⟨_, 9, none⟩ (by simp only [World.size_alloc]; omega)).trans (Lib.cell?_alloc_some _ (cell_new w _ rfl _ _ 9 _ rfl)), (hW.cell ⟨_, 10, none⟩ (by simp only [World.size_alloc]; omega)).trans (Lib.cell?_alloc_some _ (cell_new w _ rfl _ _ 10 _ rfl)), (hW.cell ⟨_, 11, none⟩ (by simp only [World.size_alloc]; omega)).trans (Lib.cell?_alloc_some _ (cell_new w _ rfl _ _ 11 _ rfl)), (hW.cell ⟨_, 12, none⟩ (by simp only [World.size_alloc]; omega)).trans (Lib.cell?_alloc_some _ (cell_new w _ rfl _ _ 12 _ rfl)), by have := hW.size; simp only [World.size_alloc] at this; omega⟩)
  have Hp1 : Hid (∀ S W, Turn S W0 W → (W.cell? ⟨(w.heap.size + 1), 0, none⟩ = some (.int .i64 other.t) ∧ W.cell? ⟨(w.heap.size + 1), 1, none⟩ = some (.int .i64 other.r) ∧ (w.heap.size + 1) < W.heap.size)) := Lib.hid (by rw [hW0]; exact fun S W hW => ⟨(hW.cell ⟨_, 0, none⟩ (by simp only [World.size_alloc]; omega)).trans (cell_new (w.alloc _) _ (by simp) _ _ 0 _ rfl), (hW.cell ⟨_, 1, none⟩ (by simp only [World.size_alloc]; omega)).trans (cell_new (w.alloc _) _ (by simp) _ _ 1 _ rfl), by have := hW.size; simp only [World.size_alloc] at this; omega⟩)
  have HF := Lib.hid (fun W (hW : Below W0.heap.size W0 W) => few_any v l W (hs.below (HW.out.trans (hW.mono HW.out.size))))
  have HMD := Lib.hid (fun (hl : l.length ≤ 1000) W (hW : Below W0.heap.size W0 W) => made_any v l W (hs.below (HW.out.trans (hW.mono HW.out.size))) hn hl)
  obtain ⟨va, vc, rfl⟩ := hs.len
  clear hs hn
  have hok := ran_ok l
  have hth := ran_thin l
  unfold Op.v St.v
  cases hfew : decide (l.length ≤ 100) with
  | false =>
    rw [hfew] at HF
    clear hfew hok hth
    have HT0 : Hid (Turn (fun _ => False) W0 W0) := Lib.hid (Turn.refl _ _)
    obtain ⟨_, _, _, _, _, _, _, _, _, _, _, _, _, _⟩ := Hp0.out _ _ HT0.out
    obtain ⟨_, _, _⟩ := Hp1.out _ _ HT0.out
    go_enter Tryz.func8, Tryz.ntmps8
    go_wp2_with fail
    rw [← hW0]
    have HW0 := Lib.hid hW0
    clear hW0
    go_wp2_with fail
    refine (shown_any _).mono ?_
    rintro e w1 ⟨rfl, hb1⟩
    have HO1 : Hid (Below W0.heap.size W0 w1) := Lib.hid (HO0.out.trans (hb1.mono HO0.out.size))
    have HT_1 : Hid (Turn (fun _ => False) W0 w1) := Lib.hid (Below.turn' HO1.out _)
    clear hb1
    obtain ⟨_, _, _, _, _, _, _, _, _, _, _, _, _, _⟩ := Hp0.out _ _ HT_1.out
    obtain ⟨_, _, _⟩ := Hp1.out _ _ HT_1.out
    go_wp2_with (go_at_call 32; refine (HF.out _ HO1.out).mono ?_; rintro y w' ⟨rfl, rfl⟩)
    go_ret
    exact ⟨rfl, HW.out.trans (HO1.out.mono HW.out.size)⟩
  | true =>
    rw [hfew] at HF
    have HLEN : Hid (l.length ≤ 1000) := Lib.hid (by have := of_decide_eq_true hfew; omega)
    clear hfew
    by_cases hk : 8 ≤ o.kind
    · have hkb : decide (o.kind < 8) = false := by rw [decide_eq_false_iff_not]; omega
      have HSM := Lib.hid h_o
      by_cases hw : (ran l).opWhy o = 0
      · obtain ⟨r1, r2, r3, r4, r5, r6⟩ := Gr.Ok.data_law hth hk hw other
        have HOK' : Hid ((ran l).apply o).Ok := Lib.hid (hok.apply o)
        have HWH := Lib.hid hw
        have hm := opWhy_may hw
        obtain ⟨i, hi⟩ : ∃ i, i = (ran l).got o.ino := ⟨_, rfl⟩
        obtain ⟨j, hj⟩ : ∃ j, j = ((ran l).apply o).got o.ino := ⟨_, rfl⟩
        obtain ⟨x, hx⟩ : ∃ x, x = (ran l).got other := ⟨_, rfl⟩
        obtain ⟨y, hy⟩ : ∃ y, y = ((ran l).apply o).got other := ⟨_, rfl⟩
        obtain ⟨c, hc⟩ : ∃ c, c = ((ran l).get other).isSome := ⟨_, rfl⟩
        have hjs : j.data.size ≤ 64 := by rw [hj]; exact (hth.apply o).got _
        have hds : o.kind = 8 → o.data.size ≤ 64 := fun h => by have := opMay_write hm h; omega
        rw [← hi, ← hj] at r5 r6
        rw [← hc] at r3
        rw [← hx, ← hy] at r4
        have HI : Hid ((ran l).got o.ino = i) := Lib.hid hi.symm
        have HJ : Hid (((ran l).apply o).got o.ino = j) := Lib.hid hj.symm
        have HX : Hid ((ran l).got other = x) := Lib.hid hx.symm
        have HY : Hid (((ran l).apply o).got other = y) := Lib.hid hy.symm
        have HC : Hid (((ran l).get other).isSome = c) := Lib.hid hc.symm
        have HS1 := Lib.hid r1
        have HS2 := Lib.hid r2
        have HS3 := Lib.hid r3
        have q1 : (j.links != i.links) = false := by rw [r5]; simp
        have hcase : (o.kind = 8 ∧ readF j.data o.off o.data.size = o.data ∧ j.mode = i.mode) ∨ (o.kind = 9 ∧ (j.data.size : Int) = o.off ∧ j.mode = i.mode) ∨ (o.kind = 10 ∧ j.data = i.data ∧ j.mode = o.off) := r6
        clear hi hj hx hy hc r1 r2 r3 r5 r6 hw hk h_o hm
        generalize hG' : (ran l).apply o = G' at *
        have HG' := Lib.hid hG'
        clear hG'
        generalize ran l = G at *
        have hcmp : (∀ w, (binOp .neq 34 (.agg #[.int .i64 other.t, .int .i64 other.r]) (.agg #[.int .i64 o.ino.t, .int .i64 o.ino.r])).run Tryz.prog w = .ok (.bool false) w) ∨ ((∀ w, (binOp .neq 34 (.agg #[.int .i64 other.t, .int .i64 other.r]) (.agg #[.int .i64 o.ino.t, .int .i64 o.ino.r])).run Tryz.prog w = .ok (.bool true) w) ∧ y = x) := by
          by_cases he : other = o.ino
          · exact .inl fun w => by rw [neq_st]; simp [he]
          · exact .inr ⟨fun w => by rw [neq_st]; simp [he], r4 he⟩
        clear r4
        have q6 : (c != c) = false := by simp
        rcases hcmp with hcm | ⟨hcm, rfl⟩
        · rcases hcase with ⟨k1, k2, k3⟩ | ⟨k1, k2, k3⟩ | ⟨k1, k2, k3⟩
          · have d8 : (o.kind == 8) = true := by rw [k1]; rfl
            have ea : ((readF j.data o.off o.data.size).toList == o.data.toList) = true := by rw [k2]; simp
            have eb : decide ((readF j.data o.off o.data.size).toList = o.data.toList) = true := by rw [k2]; simp
            have ec : decide ((readF j.data o.off o.data.size) = o.data) = true := by rw [k2]; simp
            have m1 : (j.mode == i.mode) = true := by rw [k3]; simp
            have HRD : Hid (∀ w, Calls Tryz.prog 43 #[.string j.data, .int .i64 o.off, .int .i64 o.data.size] w fun e w' => e = .returned (.string (readF j.data o.off o.data.size)) ∧ Below w.heap.size w w') := Lib.hid fun w => (read_any j.data o.off o.data.size w (by unfold maxLen; omega) (by have := hds k1; omega)).mono fun e w' ⟨a, b⟩ => ⟨a, by rw [← b]; exact Below.refl _ _⟩
            clear k1 k2 k3 hjs hds
            have HOK : Hid (G.Ok) := Lib.hid hok
            have HTH : Hid (G.Thin) := Lib.hid hth
            clear hok hth
            have HT0 : Hid (Turn (fun _ => False) W0 W0) := Lib.hid (Turn.refl _ _)
            obtain ⟨_, _, _, _, _, _, _, _, _, _, _, _, _, _⟩ := Hp0.out _ _ HT0.out
            obtain ⟨_, _, _⟩ := Hp1.out _ _ HT0.out
            go_enter Tryz.func8, Tryz.ntmps8
            go_wp2_with fail
            rw [← hW0]
            have HW0 := Lib.hid hW0
            clear hW0
            go_wp2_with fail
            refine (shown_any _).mono ?_
            rintro e w1 ⟨rfl, hb1⟩
            have HO1 : Hid (Below W0.heap.size W0 w1) := Lib.hid (HO0.out.trans (hb1.mono HO0.out.size))
            have HT_1 : Hid (Turn (fun _ => False) W0 w1) := Lib.hid (Below.turn' HO1.out _)
            clear hb1
            obtain ⟨_, _, _, _, _, _, _, _, _, _, _, _, _, _⟩ := Hp0.out _ _ HT_1.out
            obtain ⟨_, _, _⟩ := Hp1.out _ _ HT_1.out
            go_wp2_with (go_at_call 32; refine (HF.out _ HO1.out).mono ?_; rintro y w' ⟨rfl, rfl⟩)
            go_wp2_with fail
            refine (HMD.out HLEN.out _ HO1.out).mono ?_
            rintro e w2 ⟨v2, rfl, ⟨gb, mI, mE, rfl, hG2, q1, q2, q3⟩, hb2⟩
            have HO2 : Hid (Below W0.heap.size W0 w2) := Lib.hid (HO1.out.trans (hb2.mono HO1.out.size))
            have HM : Hid (W0.heap.size ≤ mI ∧ W0.heap.size ≤ mE ∧ gb < w2.heap.size ∧ mI < w2.heap.size ∧ mE < w2.heap.size) := Lib.hid ⟨Nat.le_trans HO1.out.size q2, Nat.le_trans HO1.out.size q3, hG2.lt.1, hG2.lt.2.1, hG2.lt.2.2⟩
            have HT_2 : Hid (Turn (Maps2 mI mE) W0 w2) := Lib.hid (Below.turn' HO2.out _)
            have HG_2 : Hid (GrAt w2 gb mI mE G) := Lib.hid hG2
            clear hb2 hG2 q1 q2 q3
            obtain ⟨_, _, _, _, _, _, _, _, _, _, _, _, _, _⟩ := Hp0.out _ _ HT_2.out
            obtain ⟨_, _, _⟩ := Hp1.out _ _ HT_2.out
            go_wp2_with fail
            refine ((HG_2.out.reads HOK.out (by have := HOK.out.few; omega)).get o.ino i true w2 HI.out HS1.out (Below.refl _ _)).mono ?_
            rintro e w3 ⟨rfl, hb3⟩
            have hst3 : Turn (Maps2 mI mE) w2 w3 := Turn.trans (Turn.refl (Maps2 mI mE) _) (Below.turn' hb3 _)
            have HTp0_3 := Lib.hid (HT_2.out.trans hst3)
            have HTp1_3 := Lib.hid (HT_2.out.trans hst3)
            have HG_3 := Lib.hid ((HG_2.out.new (New.refl _)).below hb3)
            have HO3 : Hid (Below W0.heap.size W0 w3) := Lib.hid (Below.trans HO2.out (hb3.mono (by have := HO2.out.size; first | exact this | (simp only [World.size_alloc]; omega))))
            clear hst3 hb3
            obtain ⟨_, _, _, _, _, _, _, _, _, _, _, _, _, _⟩ := Hp0.out _ _ HTp0_3.out
            obtain ⟨_, _, _⟩ := Hp1.out _ _ HTp1_3.out
            have Hb2 : Hid (∀ S W, Turn S (w3.alloc (.cells #[.int .i64 i.id.t, .int .i64 i.id.r, .int .i64 i.kind, .int .i64 i.links, .int .i64 i.mode, .string i.data] 62)) W → (W.cell? ⟨w3.heap.size, 0, none⟩ = some (.int .i64 i.id.t) ∧ W.cell? ⟨w3.heap.size, 1, none⟩ = some (.int .i64 i.id.r) ∧ W.cell? ⟨w3.heap.size, 2, none⟩ = some (.int .i64 i.kind) ∧ W.cell? ⟨w3.heap.size, 3, none⟩ = some (.int .i64 i.links) ∧ W.cell? ⟨w3.heap.size, 4, none⟩ = some (.int .i64 i.mode) ∧ W.cell? ⟨w3.heap.size, 5, none⟩ = some (.string i.data) ∧ w3.heap.size < W.heap.size)) := Lib.hid fun S W hW => ⟨(hW.cell ⟨_, 0, none⟩ (by simp)).trans (cell_new _ _ rfl _ _ 0 _ rfl), (hW.cell ⟨_, 1, none⟩ (by simp)).trans (cell_new _ _ rfl _ _ 1 _ rfl), (hW.cell ⟨_, 2, none⟩ (by simp)).trans (cell_new _ _ rfl _ _ 2 _ rfl), (hW.cell ⟨_, 3, none⟩ (by simp)).trans (cell_new _ _ rfl _ _ 3 _ rfl), (hW.cell ⟨_, 4, none⟩ (by simp)).trans (cell_new _ _ rfl _ _ 4 _ rfl), (hW.cell ⟨_, 5, none⟩ (by simp)).trans (cell_new _ _ rfl _ _ 5 _ rfl), by have := hW.size; simp at this; omega⟩
            go_wp2_with fail
            refine (((HG_3.out.new ((New.refl _).alloc _)).reads HOK.out (by have := HOK.out.few; omega)).get other x c (w3.alloc (.cells #[.int .i64 i.id.t, .int .i64 i.id.r, .int .i64 i.kind, .int .i64 i.links, .int .i64 i.mode, .string i.data] 62)) HX.out HC.out (Below.refl _ _)).mono ?_
            rintro e w4 ⟨rfl, hb4⟩
            have hst4 : Turn (Maps2 mI mE) w3 w4 := Turn.trans ((((New.refl _).alloc _)).turn (Maps2 mI mE)) (Below.turn' hb4 _)
            have HTp0_4 := Lib.hid (HTp0_3.out.trans hst4)
            have HTp1_4 := Lib.hid (HTp1_3.out.trans hst4)
            have HTb2_4 := Lib.hid (Below.turn' hb4 (Maps2 mI mE))
            have HG_4 := Lib.hid ((HG_3.out.new ((New.refl _).alloc _)).below hb4)
            have HO4 : Hid (Below W0.heap.size W0 w4) := Lib.hid (Below.trans (HO3.out.alloc HO3.out.size _) (hb4.mono (by have := HO3.out.size; first | exact this | (simp only [World.size_alloc]; omega))))
            clear hst4 hb4
            obtain ⟨_, _, _, _, _, _, _, _, _, _, _, _, _, _⟩ := Hp0.out _ _ HTp0_4.out
            obtain ⟨_, _, _⟩ := Hp1.out _ _ HTp1_4.out
            obtain ⟨_, _, _, _, _, _, _⟩ := Hb2.out _ _ HTb2_4.out
            have Hb3 : Hid (∀ S W, Turn S (w4.alloc (.cells #[.int .i64 x.id.t, .int .i64 x.id.r, .int .i64 x.kind, .int .i64 x.links, .int .i64 x.mode, .string x.data] 62)) W → (W.cell? ⟨w4.heap.size, 0, none⟩ = some (.int .i64 x.id.t) ∧ W.cell? ⟨w4.heap.size, 1, none⟩ = some (.int .i64 x.id.r) ∧ W.cell? ⟨w4.heap.size, 2, none⟩ = some (.int .i64 x.kind) ∧ W.cell? ⟨w4.heap.size, 3, none⟩ = some (.int .i64 x.links) ∧ W.cell? ⟨w4.heap.size, 4, none⟩ = some (.int .i64 x.mode) ∧ W.cell? ⟨w4.heap.size, 5, none⟩ = some (.string x.data) ∧ w4.heap.size < W.heap.size)) := Lib.hid fun S W hW => ⟨(hW.cell ⟨_, 0, none⟩ (by simp)).trans (cell_new _ _ rfl _ _ 0 _ rfl), (hW.cell ⟨_, 1, none⟩ (by simp)).trans (cell_new _ _ rfl _ _ 1 _ rfl), (hW.cell ⟨_, 2, none⟩ (by simp)).trans (cell_new _ _ rfl _ _ 2 _ rfl), (hW.cell ⟨_, 3, none⟩ (by simp)).trans (cell_new _ _ rfl _ _ 3 _ rfl), (hW.cell ⟨_, 4, none⟩ (by simp)).trans (cell_new _ _ rfl _ _ 4 _ rfl), (hW.cell ⟨_, 5, none⟩ (by simp)).trans (cell_new _ _ rfl _ _ 5 _ rfl), by have := hW.size; simp at this; omega⟩
            go_wp2_with fail
            refine (apply_any gb mI mE G o (w4.alloc (.cells #[.int .i64 x.id.t, .int .i64 x.id.r, .int .i64 x.kind, .int .i64 x.links, .int .i64 x.mode, .string x.data] 62)) (HG_4.out.new ((New.refl _).alloc _)) HOK.out HTH.out HSM.out).mono ?_
            rintro e w5 ⟨rfl, hG5, hT5⟩
            rw [HWH.out]
            rw [HG'.out] at hG5
            have hst5 : Turn (Maps2 mI mE) w4 w5 := Turn.trans ((((New.refl _).alloc _)).turn (Maps2 mI mE)) hT5
            have HTp0_5 := Lib.hid (HTp0_4.out.trans hst5)
            have HTp1_5 := Lib.hid (HTp1_4.out.trans hst5)
            have HTb2_5 := Lib.hid (HTb2_4.out.trans hst5)
            have HTb3_5 := Lib.hid (hT5)
            have HG_5 := Lib.hid hG5
            have HO5 : Hid (Below W0.heap.size W0 w5) := Lib.hid (Below.trans (HO4.out.alloc HO4.out.size _) (own_below hT5 HM.out.1 HM.out.2.1 (by have := HO4.out.size; first | exact this | (simp only [World.size_alloc]; omega))))
            clear hst5 hT5 hG5
            obtain ⟨_, _, _, _, _, _, _, _, _, _, _, _, _, _⟩ := Hp0.out _ _ HTp0_5.out
            obtain ⟨_, _, _⟩ := Hp1.out _ _ HTp1_5.out
            obtain ⟨_, _, _, _, _, _, _⟩ := Hb2.out _ _ HTb2_5.out
            obtain ⟨_, _, _, _, _, _, _⟩ := Hb3.out _ _ HTb3_5.out
            go_wp2_with fail
            refine ((HG_5.out.reads HOK'.out (by have := HOK'.out.few; omega)).get o.ino j true w5 HJ.out HS2.out (Below.refl _ _)).mono ?_
            rintro e w6 ⟨rfl, hb6⟩
            have hst6 : Turn (Maps2 mI mE) w5 w6 := Turn.trans (Turn.refl (Maps2 mI mE) _) (Below.turn' hb6 _)
            have HTp0_6 := Lib.hid (HTp0_5.out.trans hst6)
            have HTp1_6 := Lib.hid (HTp1_5.out.trans hst6)
            have HTb2_6 := Lib.hid (HTb2_5.out.trans hst6)
            have HTb3_6 := Lib.hid (HTb3_5.out.trans hst6)
            have HG_6 := Lib.hid ((HG_5.out.new (New.refl _)).below hb6)
            have HO6 : Hid (Below W0.heap.size W0 w6) := Lib.hid (Below.trans HO5.out (hb6.mono (by have := HO5.out.size; first | exact this | (simp only [World.size_alloc]; omega))))
            clear hst6 hb6
            obtain ⟨_, _, _, _, _, _, _, _, _, _, _, _, _, _⟩ := Hp0.out _ _ HTp0_6.out
            obtain ⟨_, _, _⟩ := Hp1.out _ _ HTp1_6.out
            obtain ⟨_, _, _, _, _, _, _⟩ := Hb2.out _ _ HTb2_6.out
            obtain ⟨_, _, _, _, _, _, _⟩ := Hb3.out _ _ HTb3_6.out
            have Hb4 : Hid (∀ S W, Turn S (w6.alloc (.cells #[.int .i64 j.id.t, .int .i64 j.id.r, .int .i64 j.kind, .int .i64 j.links, .int .i64 j.mode, .string j.data] 62)) W → (W.cell? ⟨w6.heap.size, 0, none⟩ = some (.int .i64 j.id.t) ∧ W.cell? ⟨w6.heap.size, 1, none⟩ = some (.int .i64 j.id.r) ∧ W.cell? ⟨w6.heap.size, 2, none⟩ = some (.int .i64 j.kind) ∧ W.cell? ⟨w6.heap.size, 3, none⟩ = some (.int .i64 j.links) ∧ W.cell? ⟨w6.heap.size, 4, none⟩ = some (.int .i64 j.mode) ∧ W.cell? ⟨w6.heap.size, 5, none⟩ = some (.string j.data) ∧ w6.heap.size < W.heap.size)) := Lib.hid fun S W hW => ⟨(hW.cell ⟨_, 0, none⟩ (by simp)).trans (cell_new _ _ rfl _ _ 0 _ rfl), (hW.cell ⟨_, 1, none⟩ (by simp)).trans (cell_new _ _ rfl _ _ 1 _ rfl), (hW.cell ⟨_, 2, none⟩ (by simp)).trans (cell_new _ _ rfl _ _ 2 _ rfl), (hW.cell ⟨_, 3, none⟩ (by simp)).trans (cell_new _ _ rfl _ _ 3 _ rfl), (hW.cell ⟨_, 4, none⟩ (by simp)).trans (cell_new _ _ rfl _ _ 4 _ rfl), (hW.cell ⟨_, 5, none⟩ (by simp)).trans (cell_new _ _ rfl _ _ 5 _ rfl), by have := hW.size; simp at this; omega⟩
            go_wp2_with fail
            refine (((HG_6.out.new ((New.refl _).alloc _)).reads HOK'.out (by have := HOK'.out.few; omega)).get other y c (w6.alloc (.cells #[.int .i64 j.id.t, .int .i64 j.id.r, .int .i64 j.kind, .int .i64 j.links, .int .i64 j.mode, .string j.data] 62)) HY.out HS3.out (Below.refl _ _)).mono ?_
            rintro e w7 ⟨rfl, hb7⟩
            have hst7 : Turn (Maps2 mI mE) w6 w7 := Turn.trans ((((New.refl _).alloc _)).turn (Maps2 mI mE)) (Below.turn' hb7 _)
            have HTp0_7 := Lib.hid (HTp0_6.out.trans hst7)
            have HTp1_7 := Lib.hid (HTp1_6.out.trans hst7)
            have HTb2_7 := Lib.hid (HTb2_6.out.trans hst7)
            have HTb3_7 := Lib.hid (HTb3_6.out.trans hst7)
            have HTb4_7 := Lib.hid (Below.turn' hb7 (Maps2 mI mE))
            have HG_7 := Lib.hid ((HG_6.out.new ((New.refl _).alloc _)).below hb7)
            have HO7 : Hid (Below W0.heap.size W0 w7) := Lib.hid (Below.trans (HO6.out.alloc HO6.out.size _) (hb7.mono (by have := HO6.out.size; first | exact this | (simp only [World.size_alloc]; omega))))
            clear hst7 hb7
            obtain ⟨_, _, _, _, _, _, _, _, _, _, _, _, _, _⟩ := Hp0.out _ _ HTp0_7.out
            obtain ⟨_, _, _⟩ := Hp1.out _ _ HTp1_7.out
            obtain ⟨_, _, _, _, _, _, _⟩ := Hb2.out _ _ HTb2_7.out
            obtain ⟨_, _, _, _, _, _, _⟩ := Hb3.out _ _ HTb3_7.out
            obtain ⟨_, _, _, _, _, _, _⟩ := Hb4.out _ _ HTb4_7.out
            have Hb5 : Hid (∀ S W, Turn S (w7.alloc (.cells #[.int .i64 y.id.t, .int .i64 y.id.r, .int .i64 y.kind, .int .i64 y.links, .int .i64 y.mode, .string y.data] 62)) W → (W.cell? ⟨w7.heap.size, 0, none⟩ = some (.int .i64 y.id.t) ∧ W.cell? ⟨w7.heap.size, 1, none⟩ = some (.int .i64 y.id.r) ∧ W.cell? ⟨w7.heap.size, 2, none⟩ = some (.int .i64 y.kind) ∧ W.cell? ⟨w7.heap.size, 3, none⟩ = some (.int .i64 y.links) ∧ W.cell? ⟨w7.heap.size, 4, none⟩ = some (.int .i64 y.mode) ∧ W.cell? ⟨w7.heap.size, 5, none⟩ = some (.string y.data) ∧ w7.heap.size < W.heap.size)) := Lib.hid fun S W hW => ⟨(hW.cell ⟨_, 0, none⟩ (by simp)).trans (cell_new _ _ rfl _ _ 0 _ rfl), (hW.cell ⟨_, 1, none⟩ (by simp)).trans (cell_new _ _ rfl _ _ 1 _ rfl), (hW.cell ⟨_, 2, none⟩ (by simp)).trans (cell_new _ _ rfl _ _ 2 _ rfl), (hW.cell ⟨_, 3, none⟩ (by simp)).trans (cell_new _ _ rfl _ _ 3 _ rfl), (hW.cell ⟨_, 4, none⟩ (by simp)).trans (cell_new _ _ rfl _ _ 4 _ rfl), (hW.cell ⟨_, 5, none⟩ (by simp)).trans (cell_new _ _ rfl _ _ 5 _ rfl), by have := hW.size; simp at this; omega⟩
            go_wp2_with fail
            obtain ⟨w8, hw8⟩ : ∃ w8, w8 = (w7.alloc (.cells #[.int .i64 y.id.t, .int .i64 y.id.r, .int .i64 y.kind, .int .i64 y.links, .int .i64 y.mode, .string y.data] 62)) := ⟨_, rfl⟩
            rw [← hw8]
            have hst8 : Turn (Maps2 mI mE) w7 w8 := by rw [hw8]; exact (((New.refl _).alloc _)).turn (Maps2 mI mE)
            have HTp0_8 := Lib.hid (HTp0_7.out.trans hst8)
            have HTp1_8 := Lib.hid (HTp1_7.out.trans hst8)
            have HTb2_8 := Lib.hid (HTb2_7.out.trans hst8)
            have HTb3_8 := Lib.hid (HTb3_7.out.trans hst8)
            have HTb4_8 := Lib.hid (HTb4_7.out.trans hst8)
            have HTb5_8 : Hid (Turn (Maps2 mI mE) (w7.alloc (.cells #[.int .i64 y.id.t, .int .i64 y.id.r, .int .i64 y.kind, .int .i64 y.links, .int .i64 y.mode, .string y.data] 62)) w8) := Lib.hid (by rw [hw8]; exact Turn.refl _ _)
            have HG_8 := Lib.hid (by rw [hw8]; exact HG_7.out.new ((New.refl _).alloc _) : GrAt w8 _ _ _ _)
            have HO8 : Hid (Below W0.heap.size W0 w8) := Lib.hid (by rw [hw8]; exact (HO7.out.alloc HO7.out.size _))
            have HHW8 := Lib.hid hw8
            clear hst8 hw8
            obtain ⟨_, _, _, _, _, _, _, _, _, _, _, _, _, _⟩ := Hp0.out _ _ HTp0_8.out
            obtain ⟨_, _, _⟩ := Hp1.out _ _ HTp1_8.out
            obtain ⟨_, _, _, _, _, _, _⟩ := Hb2.out _ _ HTb2_8.out
            obtain ⟨_, _, _, _, _, _, _⟩ := Hb3.out _ _ HTb3_8.out
            obtain ⟨_, _, _, _, _, _, _⟩ := Hb4.out _ _ HTb4_8.out
            obtain ⟨_, _, _, _, _, _, _⟩ := Hb5.out _ _ HTb5_8.out
            have HKP : Hid (∀ W, Below w8.heap.size w8 W → (W.cell? ⟨w.heap.size, 0, none⟩ = some (.int .i64 o.stamp.t) ∧ W.cell? ⟨w.heap.size, 1, none⟩ = some (.int .i64 o.stamp.r) ∧ W.cell? ⟨w.heap.size, 2, none⟩ = some (.int .i64 o.kind) ∧ W.cell? ⟨w.heap.size, 3, none⟩ = some (.int .i64 o.at_.t) ∧ W.cell? ⟨w.heap.size, 4, none⟩ = some (.int .i64 o.at_.r) ∧ W.cell? ⟨w.heap.size, 5, none⟩ = some (.int .i64 o.ino.t) ∧ W.cell? ⟨w.heap.size, 6, none⟩ = some (.int .i64 o.ino.r) ∧ W.cell? ⟨w.heap.size, 7, none⟩ = some (.int .i64 o.to.t) ∧ W.cell? ⟨w.heap.size, 8, none⟩ = some (.int .i64 o.to.r) ∧ W.cell? ⟨w.heap.size, 9, none⟩ = some (.string o.name) ∧ W.cell? ⟨w.heap.size, 10, none⟩ = some (.string o.new) ∧ W.cell? ⟨w.heap.size, 11, none⟩ = some (.int .i64 o.off) ∧ W.cell? ⟨w.heap.size, 12, none⟩ = some (.string o.data) ∧ w.heap.size < W.heap.size) ∧ (W.cell? ⟨w3.heap.size, 0, none⟩ = some (.int .i64 i.id.t) ∧ W.cell? ⟨w3.heap.size, 1, none⟩ = some (.int .i64 i.id.r) ∧ W.cell? ⟨w3.heap.size, 2, none⟩ = some (.int .i64 i.kind) ∧ W.cell? ⟨w3.heap.size, 3, none⟩ = some (.int .i64 i.links) ∧ W.cell? ⟨w3.heap.size, 4, none⟩ = some (.int .i64 i.mode) ∧ W.cell? ⟨w3.heap.size, 5, none⟩ = some (.string i.data) ∧ w3.heap.size < W.heap.size) ∧ (W.cell? ⟨w6.heap.size, 0, none⟩ = some (.int .i64 j.id.t) ∧ W.cell? ⟨w6.heap.size, 1, none⟩ = some (.int .i64 j.id.r) ∧ W.cell? ⟨w6.heap.size, 2, none⟩ = some (.int .i64 j.kind) ∧ W.cell? ⟨w6.heap.size, 3, none⟩ = some (.int .i64 j.links) ∧ W.cell? ⟨w6.heap.size, 4, none⟩ = some (.int .i64 j.mode) ∧ W.cell? ⟨w6.heap.size, 5, none⟩ = some (.string j.data) ∧ w6.heap.size < W.heap.size)) := Lib.hid fun W hW => ⟨Hp0.out _ _ (HTp0_8.out.trans (Below.turn' hW _)), Hb2.out _ _ (HTb2_8.out.trans (Below.turn' hW _)), Hb4.out _ _ (HTb4_8.out.trans (Below.turn' hW _))⟩
            have HBc0 : Hid (Below w8.heap.size w8 w8) := Lib.hid (Below.refl _ _)
            go_wp2_with fail
            go_region_held3 (fun W => (W.cell? ⟨w.heap.size, 0, none⟩ = some (.int .i64 o.stamp.t) ∧ W.cell? ⟨w.heap.size, 1, none⟩ = some (.int .i64 o.stamp.r) ∧ W.cell? ⟨w.heap.size, 2, none⟩ = some (.int .i64 o.kind) ∧ W.cell? ⟨w.heap.size, 3, none⟩ = some (.int .i64 o.at_.t) ∧ W.cell? ⟨w.heap.size, 4, none⟩ = some (.int .i64 o.at_.r) ∧ W.cell? ⟨w.heap.size, 5, none⟩ = some (.int .i64 o.ino.t) ∧ W.cell? ⟨w.heap.size, 6, none⟩ = some (.int .i64 o.ino.r) ∧ W.cell? ⟨w.heap.size, 7, none⟩ = some (.int .i64 o.to.t) ∧ W.cell? ⟨w.heap.size, 8, none⟩ = some (.int .i64 o.to.r) ∧ W.cell? ⟨w.heap.size, 9, none⟩ = some (.string o.name) ∧ W.cell? ⟨w.heap.size, 10, none⟩ = some (.string o.new) ∧ W.cell? ⟨w.heap.size, 11, none⟩ = some (.int .i64 o.off) ∧ W.cell? ⟨w.heap.size, 12, none⟩ = some (.string o.data) ∧ w.heap.size < W.heap.size) ∧ (W.cell? ⟨w3.heap.size, 0, none⟩ = some (.int .i64 i.id.t) ∧ W.cell? ⟨w3.heap.size, 1, none⟩ = some (.int .i64 i.id.r) ∧ W.cell? ⟨w3.heap.size, 2, none⟩ = some (.int .i64 i.kind) ∧ W.cell? ⟨w3.heap.size, 3, none⟩ = some (.int .i64 i.links) ∧ W.cell? ⟨w3.heap.size, 4, none⟩ = some (.int .i64 i.mode) ∧ W.cell? ⟨w3.heap.size, 5, none⟩ = some (.string i.data) ∧ w3.heap.size < W.heap.size) ∧ (W.cell? ⟨w6.heap.size, 0, none⟩ = some (.int .i64 j.id.t) ∧ W.cell? ⟨w6.heap.size, 1, none⟩ = some (.int .i64 j.id.r) ∧ W.cell? ⟨w6.heap.size, 2, none⟩ = some (.int .i64 j.kind) ∧ W.cell? ⟨w6.heap.size, 3, none⟩ = some (.int .i64 j.links) ∧ W.cell? ⟨w6.heap.size, 4, none⟩ = some (.int .i64 j.mode) ∧ W.cell? ⟨w6.heap.size, 5, none⟩ = some (.string j.data) ∧ w6.heap.size < W.heap.size)) (first | exact HKP.out _ (by first | exact HBc1.out | exact HBc1.out.alloc HBc1.out.size _ | exact (HBc1.out.alloc HBc1.out.size _).alloc (le_al HBc1.out.size) _ | exact ((HBc1.out.alloc HBc1.out.size _).alloc (le_al HBc1.out.size) _).alloc (le_al (le_al HBc1.out.size)) _ | exact HBc1.out.drew | exact (HBc1.out.alloc HBc1.out.size _).drew | exact ((HBc1.out.alloc HBc1.out.size _).alloc (le_al HBc1.out.size) _).drew | exact HBc0.out | exact HBc0.out.alloc HBc0.out.size _ | exact (HBc0.out.alloc HBc0.out.size _).alloc (le_al HBc0.out.size) _ | exact ((HBc0.out.alloc HBc0.out.size _).alloc (le_al HBc0.out.size) _).alloc (le_al (le_al HBc0.out.size)) _ | exact HBc0.out.drew | exact (HBc0.out.alloc HBc0.out.size _).drew | exact ((HBc0.out.alloc HBc0.out.size _).alloc (le_al HBc0.out.size) _).drew) | go_keep) (first
                | (go_at_call 43; (with_reducible refine (HRD.out _).mono ?_); rintro e c1 ⟨rfl, hbc1⟩; obtain ⟨hcc1, hfc1⟩ := bcell hbc1; have hsc1 := hbc1.size; (try simp only [size_drew] at hsc1); (try simp only [World.size_alloc] at hsc1); (try simp only [size_setCell'] at hsc1); (try have lec1_0 : w8.heap.size ≤ c1.heap.size := (by omega)); (try have ltc1_0 : w8.heap.size < c1.heap.size := (by omega)); have HBc1 : Hid (Below w8.heap.size w8 c1) := Lib.hid (Below.trans (by first | exact HBc0.out | exact HBc0.out.alloc HBc0.out.size _ | exact (HBc0.out.alloc HBc0.out.size _).alloc (le_al HBc0.out.size) _ | exact ((HBc0.out.alloc HBc0.out.size _).alloc (le_al HBc0.out.size) _).alloc (le_al (le_al HBc0.out.size)) _ | exact HBc0.out.drew | exact (HBc0.out.alloc HBc0.out.size _).drew | exact ((HBc0.out.alloc HBc0.out.size _).alloc (le_al HBc0.out.size) _).drew) (hbc1.mono (by (try simp only [size_drew]); (try simp only [World.size_alloc]); (try simp only [size_setCell']); omega))); have HNc1 := Lib.hid hbc1; clear hbc1 hsc1))
            go_wp2
            go_ret
            exact ⟨by simp [*], HW.out.trans ((HO8.out.trans ((show Below w8.heap.size w8 _ from (by first | exact HBc1.out | exact HBc1.out.alloc HBc1.out.size _ | exact (HBc1.out.alloc HBc1.out.size _).alloc (le_al HBc1.out.size) _ | exact ((HBc1.out.alloc HBc1.out.size _).alloc (le_al HBc1.out.size) _).alloc (le_al (le_al HBc1.out.size)) _ | exact HBc1.out.drew | exact (HBc1.out.alloc HBc1.out.size _).drew | exact ((HBc1.out.alloc HBc1.out.size _).alloc (le_al HBc1.out.size) _).drew)).mono HO8.out.size)).mono HW.out.size)⟩
          · have d8 : (o.kind == 8) = false := by rw [k1]; rfl
            have d9 : (o.kind == 9) = true := by rw [k1]; rfl
            have m2 : ((j.data.size : Int) == o.off) = true := by rw [k2]; simp
            have m1 : (j.mode == i.mode) = true := by rw [k3]; simp
            clear k1 k2 k3 hjs hds
            have HOK : Hid (G.Ok) := Lib.hid hok
            have HTH : Hid (G.Thin) := Lib.hid hth
            clear hok hth
            have HT0 : Hid (Turn (fun _ => False) W0 W0) := Lib.hid (Turn.refl _ _)
            obtain ⟨_, _, _, _, _, _, _, _, _, _, _, _, _, _⟩ := Hp0.out _ _ HT0.out
            obtain ⟨_, _, _⟩ := Hp1.out _ _ HT0.out
            go_enter Tryz.func8, Tryz.ntmps8
            go_wp2_with fail
            rw [← hW0]
            have HW0 := Lib.hid hW0
            clear hW0
            go_wp2_with fail
            refine (shown_any _).mono ?_
            rintro e w1 ⟨rfl, hb1⟩
            have HO1 : Hid (Below W0.heap.size W0 w1) := Lib.hid (HO0.out.trans (hb1.mono HO0.out.size))
            have HT_1 : Hid (Turn (fun _ => False) W0 w1) := Lib.hid (Below.turn' HO1.out _)
            clear hb1
            obtain ⟨_, _, _, _, _, _, _, _, _, _, _, _, _, _⟩ := Hp0.out _ _ HT_1.out
            obtain ⟨_, _, _⟩ := Hp1.out _ _ HT_1.out
            go_wp2_with (go_at_call 32; refine (HF.out _ HO1.out).mono ?_; rintro y w' ⟨rfl, rfl⟩)
            go_wp2_with fail
            refine (HMD.out HLEN.out _ HO1.out).mono ?_
            rintro e w2 ⟨v2, rfl, ⟨gb, mI, mE, rfl, hG2, q1, q2, q3⟩, hb2⟩
            have HO2 : Hid (Below W0.heap.size W0 w2) := Lib.hid (HO1.out.trans (hb2.mono HO1.out.size))
            have HM : Hid (W0.heap.size ≤ mI ∧ W0.heap.size ≤ mE ∧ gb < w2.heap.size ∧ mI < w2.heap.size ∧ mE < w2.heap.size) := Lib.hid ⟨Nat.le_trans HO1.out.size q2, Nat.le_trans HO1.out.size q3, hG2.lt.1, hG2.lt.2.1, hG2.lt.2.2⟩
            have HT_2 : Hid (Turn (Maps2 mI mE) W0 w2) := Lib.hid (Below.turn' HO2.out _)
            have HG_2 : Hid (GrAt w2 gb mI mE G) := Lib.hid hG2
            clear hb2 hG2 q1 q2 q3
            obtain ⟨_, _, _, _, _, _, _, _, _, _, _, _, _, _⟩ := Hp0.out _ _ HT_2.out
            obtain ⟨_, _, _⟩ := Hp1.out _ _ HT_2.out
            go_wp2_with fail
            refine ((HG_2.out.reads HOK.out (by have := HOK.out.few; omega)).get o.ino i true w2 HI.out HS1.out (Below.refl _ _)).mono ?_
            rintro e w3 ⟨rfl, hb3⟩
            have hst3 : Turn (Maps2 mI mE) w2 w3 := Turn.trans (Turn.refl (Maps2 mI mE) _) (Below.turn' hb3 _)
            have HTp0_3 := Lib.hid (HT_2.out.trans hst3)
            have HTp1_3 := Lib.hid (HT_2.out.trans hst3)
            have HG_3 := Lib.hid ((HG_2.out.new (New.refl _)).below hb3)
            have HO3 : Hid (Below W0.heap.size W0 w3) := Lib.hid (Below.trans HO2.out (hb3.mono (by have := HO2.out.size; first | exact this | (simp only [World.size_alloc]; omega))))
            clear hst3 hb3
            obtain ⟨_, _, _, _, _, _, _, _, _, _, _, _, _, _⟩ := Hp0.out _ _ HTp0_3.out
            obtain ⟨_, _, _⟩ := Hp1.out _ _ HTp1_3.out
            have Hb2 : Hid (∀ S W, Turn S (w3.alloc (.cells #[.int .i64 i.id.t, .int .i64 i.id.r, .int .i64 i.kind, .int .i64 i.links, .int .i64 i.mode, .string i.data] 62)) W → (W.cell? ⟨w3.heap.size, 0, none⟩ = some (.int .i64 i.id.t) ∧ W.cell? ⟨w3.heap.size, 1, none⟩ = some (.int .i64 i.id.r) ∧ W.cell? ⟨w3.heap.size, 2, none⟩ = some (.int .i64 i.kind) ∧ W.cell? ⟨w3.heap.size, 3, none⟩ = some (.int .i64 i.links) ∧ W.cell? ⟨w3.heap.size, 4, none⟩ = some (.int .i64 i.mode) ∧ W.cell? ⟨w3.heap.size, 5, none⟩ = some (.string i.data) ∧ w3.heap.size < W.heap.size)) := Lib.hid fun S W hW => ⟨(hW.cell ⟨_, 0, none⟩ (by simp)).trans (cell_new _ _ rfl _ _ 0 _ rfl), (hW.cell ⟨_, 1, none⟩ (by simp)).trans (cell_new _ _ rfl _ _ 1 _ rfl), (hW.cell ⟨_, 2, none⟩ (by simp)).trans (cell_new _ _ rfl _ _ 2 _ rfl), (hW.cell ⟨_, 3, none⟩ (by simp)).trans (cell_new _ _ rfl _ _ 3 _ rfl), (hW.cell ⟨_, 4, none⟩ (by simp)).trans (cell_new _ _ rfl _ _ 4 _ rfl), (hW.cell ⟨_, 5, none⟩ (by simp)).trans (cell_new _ _ rfl _ _ 5 _ rfl), by have := hW.size; simp at this; omega⟩
            go_wp2_with fail
            refine (((HG_3.out.new ((New.refl _).alloc _)).reads HOK.out (by have := HOK.out.few; omega)).get other x c (w3.alloc (.cells #[.int .i64 i.id.t, .int .i64 i.id.r, .int .i64 i.kind, .int .i64 i.links, .int .i64 i.mode, .string i.data] 62)) HX.out HC.out (Below.refl _ _)).mono ?_
            rintro e w4 ⟨rfl, hb4⟩
            have hst4 : Turn (Maps2 mI mE) w3 w4 := Turn.trans ((((New.refl _).alloc _)).turn (Maps2 mI mE)) (Below.turn' hb4 _)
            have HTp0_4 := Lib.hid (HTp0_3.out.trans hst4)
            have HTp1_4 := Lib.hid (HTp1_3.out.trans hst4)
            have HTb2_4 := Lib.hid (Below.turn' hb4 (Maps2 mI mE))
            have HG_4 := Lib.hid ((HG_3.out.new ((New.refl _).alloc _)).below hb4)
            have HO4 : Hid (Below W0.heap.size W0 w4) := Lib.hid (Below.trans (HO3.out.alloc HO3.out.size _) (hb4.mono (by have := HO3.out.size; first | exact this | (simp only [World.size_alloc]; omega))))
            clear hst4 hb4
            obtain ⟨_, _, _, _, _, _, _, _, _, _, _, _, _, _⟩ := Hp0.out _ _ HTp0_4.out
            obtain ⟨_, _, _⟩ := Hp1.out _ _ HTp1_4.out
            obtain ⟨_, _, _, _, _, _, _⟩ := Hb2.out _ _ HTb2_4.out
            have Hb3 : Hid (∀ S W, Turn S (w4.alloc (.cells #[.int .i64 x.id.t, .int .i64 x.id.r, .int .i64 x.kind, .int .i64 x.links, .int .i64 x.mode, .string x.data] 62)) W → (W.cell? ⟨w4.heap.size, 0, none⟩ = some (.int .i64 x.id.t) ∧ W.cell? ⟨w4.heap.size, 1, none⟩ = some (.int .i64 x.id.r) ∧ W.cell? ⟨w4.heap.size, 2, none⟩ = some (.int .i64 x.kind) ∧ W.cell? ⟨w4.heap.size, 3, none⟩ = some (.int .i64 x.links) ∧ W.cell? ⟨w4.heap.size, 4, none⟩ = some (.int .i64 x.mode) ∧ W.cell? ⟨w4.heap.size, 5, none⟩ = some (.string x.data) ∧ w4.heap.size < W.heap.size)) := Lib.hid fun S W hW => ⟨(hW.cell ⟨_, 0, none⟩ (by simp)).trans (cell_new _ _ rfl _ _ 0 _ rfl), (hW.cell ⟨_, 1, none⟩ (by simp)).trans (cell_new _ _ rfl _ _ 1 _ rfl), (hW.cell ⟨_, 2, none⟩ (by simp)).trans (cell_new _ _ rfl _ _ 2 _ rfl), (hW.cell ⟨_, 3, none⟩ (by simp)).trans (cell_new _ _ rfl _ _ 3 _ rfl), (hW.cell ⟨_, 4, none⟩ (by simp)).trans (cell_new _ _ rfl _ _ 4 _ rfl), (hW.cell ⟨_, 5, none⟩ (by simp)).trans (cell_new _ _ rfl _ _ 5 _ rfl), by have := hW.size; simp at this; omega⟩
            go_wp2_with fail
            refine (apply_any gb mI mE G o (w4.alloc (.cells #[.int .i64 x.id.t, .int .i64 x.id.r, .int .i64 x.kind, .int .i64 x.links, .int .i64 x.mode, .string x.data] 62)) (HG_4.out.new ((New.refl _).alloc _)) HOK.out HTH.out HSM.out).mono ?_
            rintro e w5 ⟨rfl, hG5, hT5⟩
            rw [HWH.out]
            rw [HG'.out] at hG5
            have hst5 : Turn (Maps2 mI mE) w4 w5 := Turn.trans ((((New.refl _).alloc _)).turn (Maps2 mI mE)) hT5
            have HTp0_5 := Lib.hid (HTp0_4.out.trans hst5)
            have HTp1_5 := Lib.hid (HTp1_4.out.trans hst5)
            have HTb2_5 := Lib.hid (HTb2_4.out.trans hst5)
            have HTb3_5 := Lib.hid (hT5)
            have HG_5 := Lib.hid hG5
            have HO5 : Hid (Below W0.heap.size W0 w5) := Lib.hid (Below.trans (HO4.out.alloc HO4.out.size _) (own_below hT5 HM.out.1 HM.out.2.1 (by have := HO4.out.size; first | exact this | (simp only [World.size_alloc]; omega))))
            clear hst5 hT5 hG5
            obtain ⟨_, _, _, _, _, _, _, _, _, _, _, _, _, _⟩ := Hp0.out _ _ HTp0_5.out
            obtain ⟨_, _, _⟩ := Hp1.out _ _ HTp1_5.out
            obtain ⟨_, _, _, _, _, _, _⟩ := Hb2.out _ _ HTb2_5.out
            obtain ⟨_, _, _, _, _, _, _⟩ := Hb3.out _ _ HTb3_5.out
            go_wp2_with fail
            refine ((HG_5.out.reads HOK'.out (by have := HOK'.out.few; omega)).get o.ino j true w5 HJ.out HS2.out (Below.refl _ _)).mono ?_
            rintro e w6 ⟨rfl, hb6⟩
            have hst6 : Turn (Maps2 mI mE) w5 w6 := Turn.trans (Turn.refl (Maps2 mI mE) _) (Below.turn' hb6 _)
            have HTp0_6 := Lib.hid (HTp0_5.out.trans hst6)
            have HTp1_6 := Lib.hid (HTp1_5.out.trans hst6)
            have HTb2_6 := Lib.hid (HTb2_5.out.trans hst6)
            have HTb3_6 := Lib.hid (HTb3_5.out.trans hst6)
            have HG_6 := Lib.hid ((HG_5.out.new (New.refl _)).below hb6)
            have HO6 : Hid (Below W0.heap.size W0 w6) := Lib.hid (Below.trans HO5.out (hb6.mono (by have := HO5.out.size; first | exact this | (simp only [World.size_alloc]; omega))))
            clear hst6 hb6
            obtain ⟨_, _, _, _, _, _, _, _, _, _, _, _, _, _⟩ := Hp0.out _ _ HTp0_6.out
            obtain ⟨_, _, _⟩ := Hp1.out _ _ HTp1_6.out
            obtain ⟨_, _, _, _, _, _, _⟩ := Hb2.out _ _ HTb2_6.out
            obtain ⟨_, _, _, _, _, _, _⟩ := Hb3.out _ _ HTb3_6.out
            have Hb4 : Hid (∀ S W, Turn S (w6.alloc (.cells #[.int .i64 j.id.t, .int .i64 j.id.r, .int .i64 j.kind, .int .i64 j.links, .int .i64 j.mode, .string j.data] 62)) W → (W.cell? ⟨w6.heap.size, 0, none⟩ = some (.int .i64 j.id.t) ∧ W.cell? ⟨w6.heap.size, 1, none⟩ = some (.int .i64 j.id.r) ∧ W.cell? ⟨w6.heap.size, 2, none⟩ = some (.int .i64 j.kind) ∧ W.cell? ⟨w6.heap.size, 3, none⟩ = some (.int .i64 j.links) ∧ W.cell? ⟨w6.heap.size, 4, none⟩ = some (.int .i64 j.mode) ∧ W.cell? ⟨w6.heap.size, 5, none⟩ = some (.string j.data) ∧ w6.heap.size < W.heap.size)) := Lib.hid fun S W hW => ⟨(hW.cell ⟨_, 0, none⟩ (by simp)).trans (cell_new _ _ rfl _ _ 0 _ rfl), (hW.cell ⟨_, 1, none⟩ (by simp)).trans (cell_new _ _ rfl _ _ 1 _ rfl), (hW.cell ⟨_, 2, none⟩ (by simp)).trans (cell_new _ _ rfl _ _ 2 _ rfl), (hW.cell ⟨_, 3, none⟩ (by simp)).trans (cell_new _ _ rfl _ _ 3 _ rfl), (hW.cell ⟨_, 4, none⟩ (by simp)).trans (cell_new _ _ rfl _ _ 4 _ rfl), (hW.cell ⟨_, 5, none⟩ (by simp)).trans (cell_new _ _ rfl _ _ 5 _ rfl), by have := hW.size; simp at this; omega⟩
            go_wp2_with fail
            refine (((HG_6.out.new ((New.refl _).alloc _)).reads HOK'.out (by have := HOK'.out.few; omega)).get other y c (w6.alloc (.cells #[.int .i64 j.id.t, .int .i64 j.id.r, .int .i64 j.kind, .int .i64 j.links, .int .i64 j.mode, .string j.data] 62)) HY.out HS3.out (Below.refl _ _)).mono ?_
            rintro e w7 ⟨rfl, hb7⟩
            have hst7 : Turn (Maps2 mI mE) w6 w7 := Turn.trans ((((New.refl _).alloc _)).turn (Maps2 mI mE)) (Below.turn' hb7 _)
            have HTp0_7 := Lib.hid (HTp0_6.out.trans hst7)
            have HTp1_7 := Lib.hid (HTp1_6.out.trans hst7)
            have HTb2_7 := Lib.hid (HTb2_6.out.trans hst7)
            have HTb3_7 := Lib.hid (HTb3_6.out.trans hst7)
            have HTb4_7 := Lib.hid (Below.turn' hb7 (Maps2 mI mE))
            have HG_7 := Lib.hid ((HG_6.out.new ((New.refl _).alloc _)).below hb7)
            have HO7 : Hid (Below W0.heap.size W0 w7) := Lib.hid (Below.trans (HO6.out.alloc HO6.out.size _) (hb7.mono (by have := HO6.out.size; first | exact this | (simp only [World.size_alloc]; omega))))
            clear hst7 hb7
            obtain ⟨_, _, _, _, _, _, _, _, _, _, _, _, _, _⟩ := Hp0.out _ _ HTp0_7.out
            obtain ⟨_, _, _⟩ := Hp1.out _ _ HTp1_7.out
            obtain ⟨_, _, _, _, _, _, _⟩ := Hb2.out _ _ HTb2_7.out
            obtain ⟨_, _, _, _, _, _, _⟩ := Hb3.out _ _ HTb3_7.out
            obtain ⟨_, _, _, _, _, _, _⟩ := Hb4.out _ _ HTb4_7.out
            have Hb5 : Hid (∀ S W, Turn S (w7.alloc (.cells #[.int .i64 y.id.t, .int .i64 y.id.r, .int .i64 y.kind, .int .i64 y.links, .int .i64 y.mode, .string y.data] 62)) W → (W.cell? ⟨w7.heap.size, 0, none⟩ = some (.int .i64 y.id.t) ∧ W.cell? ⟨w7.heap.size, 1, none⟩ = some (.int .i64 y.id.r) ∧ W.cell? ⟨w7.heap.size, 2, none⟩ = some (.int .i64 y.kind) ∧ W.cell? ⟨w7.heap.size, 3, none⟩ = some (.int .i64 y.links) ∧ W.cell? ⟨w7.heap.size, 4, none⟩ = some (.int .i64 y.mode) ∧ W.cell? ⟨w7.heap.size, 5, none⟩ = some (.string y.data) ∧ w7.heap.size < W.heap.size)) := Lib.hid fun S W hW => ⟨(hW.cell ⟨_, 0, none⟩ (by simp)).trans (cell_new _ _ rfl _ _ 0 _ rfl), (hW.cell ⟨_, 1, none⟩ (by simp)).trans (cell_new _ _ rfl _ _ 1 _ rfl), (hW.cell ⟨_, 2, none⟩ (by simp)).trans (cell_new _ _ rfl _ _ 2 _ rfl), (hW.cell ⟨_, 3, none⟩ (by simp)).trans (cell_new _ _ rfl _ _ 3 _ rfl), (hW.cell ⟨_, 4, none⟩ (by simp)).trans (cell_new _ _ rfl _ _ 4 _ rfl), (hW.cell ⟨_, 5, none⟩ (by simp)).trans (cell_new _ _ rfl _ _ 5 _ rfl), by have := hW.size; simp at this; omega⟩
            go_wp2
            go_ret
            exact ⟨by simp [*], HW.out.trans ((HO7.out.alloc HO7.out.size _).mono HW.out.size)⟩
          · have d8 : (o.kind == 8) = false := by rw [k1]; rfl
            have d9 : (o.kind == 9) = false := by rw [k1]; rfl
            have ea : (j.data.toList == i.data.toList) = true := by rw [k2]; simp
            have eb : decide (j.data.toList = i.data.toList) = true := by rw [k2]; simp
            have ec : decide (j.data = i.data) = true := by rw [k2]; simp
            have m1 : (j.mode == o.off) = true := by rw [k3]; simp
            clear k1 k2 k3 hjs hds
            have HOK : Hid (G.Ok) := Lib.hid hok
            have HTH : Hid (G.Thin) := Lib.hid hth
            clear hok hth
            have HT0 : Hid (Turn (fun _ => False) W0 W0) := Lib.hid (Turn.refl _ _)
            obtain ⟨_, _, _, _, _, _, _, _, _, _, _, _, _, _⟩ := Hp0.out _ _ HT0.out
            obtain ⟨_, _, _⟩ := Hp1.out _ _ HT0.out
            go_enter Tryz.func8, Tryz.ntmps8
            go_wp2_with fail
            rw [← hW0]
            have HW0 := Lib.hid hW0
            clear hW0
            go_wp2_with fail
            refine (shown_any _).mono ?_
            rintro e w1 ⟨rfl, hb1⟩
            have HO1 : Hid (Below W0.heap.size W0 w1) := Lib.hid (HO0.out.trans (hb1.mono HO0.out.size))
            have HT_1 : Hid (Turn (fun _ => False) W0 w1) := Lib.hid (Below.turn' HO1.out _)
            clear hb1
            obtain ⟨_, _, _, _, _, _, _, _, _, _, _, _, _, _⟩ := Hp0.out _ _ HT_1.out
            obtain ⟨_, _, _⟩ := Hp1.out _ _ HT_1.out
            go_wp2_with (go_at_call 32; refine (HF.out _ HO1.out).mono ?_; rintro y w' ⟨rfl, rfl⟩)
            go_wp2_with fail
            refine (HMD.out HLEN.out _ HO1.out).mono ?_
            rintro e w2 ⟨v2, rfl, ⟨gb, mI, mE, rfl, hG2, q1, q2, q3⟩, hb2⟩
            have HO2 : Hid (Below W0.heap.size W0 w2) := Lib.hid (HO1.out.trans (hb2.mono HO1.out.size))
            have HM : Hid (W0.heap.size ≤ mI ∧ W0.heap.size ≤ mE ∧ gb < w2.heap.size ∧ mI < w2.heap.size ∧ mE < w2.heap.size) := Lib.hid ⟨Nat.le_trans HO1.out.size q2, Nat.le_trans HO1.out.size q3, hG2.lt.1, hG2.lt.2.1, hG2.lt.2.2⟩
            have HT_2 : Hid (Turn (Maps2 mI mE) W0 w2) := Lib.hid (Below.turn' HO2.out _)
            have HG_2 : Hid (GrAt w2 gb mI mE G) := Lib.hid hG2
            clear hb2 hG2 q1 q2 q3
            obtain ⟨_, _, _, _, _, _, _, _, _, _, _, _, _, _⟩ := Hp0.out _ _ HT_2.out
            obtain ⟨_, _, _⟩ := Hp1.out _ _ HT_2.out
            go_wp2_with fail
            refine ((HG_2.out.reads HOK.out (by have := HOK.out.few; omega)).get o.ino i true w2 HI.out HS1.out (Below.refl _ _)).mono ?_
            rintro e w3 ⟨rfl, hb3⟩
            have hst3 : Turn (Maps2 mI mE) w2 w3 := Turn.trans (Turn.refl (Maps2 mI mE) _) (Below.turn' hb3 _)
            have HTp0_3 := Lib.hid (HT_2.out.trans hst3)
            have HTp1_3 := Lib.hid (HT_2.out.trans hst3)
            have HG_3 := Lib.hid ((HG_2.out.new (New.refl _)).below hb3)
            have HO3 : Hid (Below W0.heap.size W0 w3) := Lib.hid (Below.trans HO2.out (hb3.mono (by have := HO2.out.size; first | exact this | (simp only [World.size_alloc]; omega))))
            clear hst3 hb3
            obtain ⟨_, _, _, _, _, _, _, _, _, _, _, _, _, _⟩ := Hp0.out _ _ HTp0_3.out
            obtain ⟨_, _, _⟩ := Hp1.out _ _ HTp1_3.out
            have Hb2 : Hid (∀ S W, Turn S (w3.alloc (.cells #[.int .i64 i.id.t, .int .i64 i.id.r, .int .i64 i.kind, .int .i64 i.links, .int .i64 i.mode, .string i.data] 62)) W → (W.cell? ⟨w3.heap.size, 0, none⟩ = some (.int .i64 i.id.t) ∧ W.cell? ⟨w3.heap.size, 1, none⟩ = some (.int .i64 i.id.r) ∧ W.cell? ⟨w3.heap.size, 2, none⟩ = some (.int .i64 i.kind) ∧ W.cell? ⟨w3.heap.size, 3, none⟩ = some (.int .i64 i.links) ∧ W.cell? ⟨w3.heap.size, 4, none⟩ = some (.int .i64 i.mode) ∧ W.cell? ⟨w3.heap.size, 5, none⟩ = some (.string i.data) ∧ w3.heap.size < W.heap.size)) := Lib.hid fun S W hW => ⟨(hW.cell ⟨_, 0, none⟩ (by simp)).trans (cell_new _ _ rfl _ _ 0 _ rfl), (hW.cell ⟨_, 1, none⟩ (by simp)).trans (cell_new _ _ rfl _ _ 1 _ rfl), (hW.cell ⟨_, 2, none⟩ (by simp)).trans (cell_new _ _ rfl _ _ 2 _ rfl), (hW.cell ⟨_, 3, none⟩ (by simp)).trans (cell_new _ _ rfl _ _ 3 _ rfl), (hW.cell ⟨_, 4, none⟩ (by simp)).trans (cell_new _ _ rfl _ _ 4 _ rfl), (hW.cell ⟨_, 5, none⟩ (by simp)).trans (cell_new _ _ rfl _ _ 5 _ rfl), by have := hW.size; simp at this; omega⟩
            go_wp2_with fail
            refine (((HG_3.out.new ((New.refl _).alloc _)).reads HOK.out (by have := HOK.out.few; omega)).get other x c (w3.alloc (.cells #[.int .i64 i.id.t, .int .i64 i.id.r, .int .i64 i.kind, .int .i64 i.links, .int .i64 i.mode, .string i.data] 62)) HX.out HC.out (Below.refl _ _)).mono ?_
            rintro e w4 ⟨rfl, hb4⟩
            have hst4 : Turn (Maps2 mI mE) w3 w4 := Turn.trans ((((New.refl _).alloc _)).turn (Maps2 mI mE)) (Below.turn' hb4 _)
            have HTp0_4 := Lib.hid (HTp0_3.out.trans hst4)
            have HTp1_4 := Lib.hid (HTp1_3.out.trans hst4)
            have HTb2_4 := Lib.hid (Below.turn' hb4 (Maps2 mI mE))
            have HG_4 := Lib.hid ((HG_3.out.new ((New.refl _).alloc _)).below hb4)
            have HO4 : Hid (Below W0.heap.size W0 w4) := Lib.hid (Below.trans (HO3.out.alloc HO3.out.size _) (hb4.mono (by have := HO3.out.size; first | exact this | (simp only [World.size_alloc]; omega))))
            clear hst4 hb4
            obtain ⟨_, _, _, _, _, _, _, _, _, _, _, _, _, _⟩ := Hp0.out _ _ HTp0_4.out
            obtain ⟨_, _, _⟩ := Hp1.out _ _ HTp1_4.out
            obtain ⟨_, _, _, _, _, _, _⟩ := Hb2.out _ _ HTb2_4.out
            have Hb3 : Hid (∀ S W, Turn S (w4.alloc (.cells #[.int .i64 x.id.t, .int .i64 x.id.r, .int .i64 x.kind, .int .i64 x.links, .int .i64 x.mode, .string x.data] 62)) W → (W.cell? ⟨w4.heap.size, 0, none⟩ = some (.int .i64 x.id.t) ∧ W.cell? ⟨w4.heap.size, 1, none⟩ = some (.int .i64 x.id.r) ∧ W.cell? ⟨w4.heap.size, 2, none⟩ = some (.int .i64 x.kind) ∧ W.cell? ⟨w4.heap.size, 3, none⟩ = some (.int .i64 x.links) ∧ W.cell? ⟨w4.heap.size, 4, none⟩ = some (.int .i64 x.mode) ∧ W.cell? ⟨w4.heap.size, 5, none⟩ = some (.string x.data) ∧ w4.heap.size < W.heap.size)) := Lib.hid fun S W hW => ⟨(hW.cell ⟨_, 0, none⟩ (by simp)).trans (cell_new _ _ rfl _ _ 0 _ rfl), (hW.cell ⟨_, 1, none⟩ (by simp)).trans (cell_new _ _ rfl _ _ 1 _ rfl), (hW.cell ⟨_, 2, none⟩ (by simp)).trans (cell_new _ _ rfl _ _ 2 _ rfl), (hW.cell ⟨_, 3, none⟩ (by simp)).trans (cell_new _ _ rfl _ _ 3 _ rfl), (hW.cell ⟨_, 4, none⟩ (by simp)).trans (cell_new _ _ rfl _ _ 4 _ rfl), (hW.cell ⟨_, 5, none⟩ (by simp)).trans (cell_new _ _ rfl _ _ 5 _ rfl), by have := hW.size; simp at this; omega⟩
            go_wp2_with fail
            refine (apply_any gb mI mE G o (w4.alloc (.cells #[.int .i64 x.id.t, .int .i64 x.id.r, .int .i64 x.kind, .int .i64 x.links, .int .i64 x.mode, .string x.data] 62)) (HG_4.out.new ((New.refl _).alloc _)) HOK.out HTH.out HSM.out).mono ?_
            rintro e w5 ⟨rfl, hG5, hT5⟩
            rw [HWH.out]
            rw [HG'.out] at hG5
            have hst5 : Turn (Maps2 mI mE) w4 w5 := Turn.trans ((((New.refl _).alloc _)).turn (Maps2 mI mE)) hT5
            have HTp0_5 := Lib.hid (HTp0_4.out.trans hst5)
            have HTp1_5 := Lib.hid (HTp1_4.out.trans hst5)
            have HTb2_5 := Lib.hid (HTb2_4.out.trans hst5)
            have HTb3_5 := Lib.hid (hT5)
            have HG_5 := Lib.hid hG5
            have HO5 : Hid (Below W0.heap.size W0 w5) := Lib.hid (Below.trans (HO4.out.alloc HO4.out.size _) (own_below hT5 HM.out.1 HM.out.2.1 (by have := HO4.out.size; first | exact this | (simp only [World.size_alloc]; omega))))
            clear hst5 hT5 hG5
            obtain ⟨_, _, _, _, _, _, _, _, _, _, _, _, _, _⟩ := Hp0.out _ _ HTp0_5.out
            obtain ⟨_, _, _⟩ := Hp1.out _ _ HTp1_5.out
            obtain ⟨_, _, _, _, _, _, _⟩ := Hb2.out _ _ HTb2_5.out
            obtain ⟨_, _, _, _, _, _, _⟩ := Hb3.out _ _ HTb3_5.out
            go_wp2_with fail
            refine ((HG_5.out.reads HOK'.out (by have := HOK'.out.few; omega)).get o.ino j true w5 HJ.out HS2.out (Below.refl _ _)).mono ?_
            rintro e w6 ⟨rfl, hb6⟩
            have hst6 : Turn (Maps2 mI mE) w5 w6 := Turn.trans (Turn.refl (Maps2 mI mE) _) (Below.turn' hb6 _)
            have HTp0_6 := Lib.hid (HTp0_5.out.trans hst6)
            have HTp1_6 := Lib.hid (HTp1_5.out.trans hst6)
            have HTb2_6 := Lib.hid (HTb2_5.out.trans hst6)
            have HTb3_6 := Lib.hid (HTb3_5.out.trans hst6)
            have HG_6 := Lib.hid ((HG_5.out.new (New.refl _)).below hb6)
            have HO6 : Hid (Below W0.heap.size W0 w6) := Lib.hid (Below.trans HO5.out (hb6.mono (by have := HO5.out.size; first | exact this | (simp only [World.size_alloc]; omega))))
            clear hst6 hb6
            obtain ⟨_, _, _, _, _, _, _, _, _, _, _, _, _, _⟩ := Hp0.out _ _ HTp0_6.out
            obtain ⟨_, _, _⟩ := Hp1.out _ _ HTp1_6.out
            obtain ⟨_, _, _, _, _, _, _⟩ := Hb2.out _ _ HTb2_6.out
            obtain ⟨_, _, _, _, _, _, _⟩ := Hb3.out _ _ HTb3_6.out
            have Hb4 : Hid (∀ S W, Turn S (w6.alloc (.cells #[.int .i64 j.id.t, .int .i64 j.id.r, .int .i64 j.kind, .int .i64 j.links, .int .i64 j.mode, .string j.data] 62)) W → (W.cell? ⟨w6.heap.size, 0, none⟩ = some (.int .i64 j.id.t) ∧ W.cell? ⟨w6.heap.size, 1, none⟩ = some (.int .i64 j.id.r) ∧ W.cell? ⟨w6.heap.size, 2, none⟩ = some (.int .i64 j.kind) ∧ W.cell? ⟨w6.heap.size, 3, none⟩ = some (.int .i64 j.links) ∧ W.cell? ⟨w6.heap.size, 4, none⟩ = some (.int .i64 j.mode) ∧ W.cell? ⟨w6.heap.size, 5, none⟩ = some (.string j.data) ∧ w6.heap.size < W.heap.size)) := Lib.hid fun S W hW => ⟨(hW.cell ⟨_, 0, none⟩ (by simp)).trans (cell_new _ _ rfl _ _ 0 _ rfl), (hW.cell ⟨_, 1, none⟩ (by simp)).trans (cell_new _ _ rfl _ _ 1 _ rfl), (hW.cell ⟨_, 2, none⟩ (by simp)).trans (cell_new _ _ rfl _ _ 2 _ rfl), (hW.cell ⟨_, 3, none⟩ (by simp)).trans (cell_new _ _ rfl _ _ 3 _ rfl), (hW.cell ⟨_, 4, none⟩ (by simp)).trans (cell_new _ _ rfl _ _ 4 _ rfl), (hW.cell ⟨_, 5, none⟩ (by simp)).trans (cell_new _ _ rfl _ _ 5 _ rfl), by have := hW.size; simp at this; omega⟩
            go_wp2_with fail
            refine (((HG_6.out.new ((New.refl _).alloc _)).reads HOK'.out (by have := HOK'.out.few; omega)).get other y c (w6.alloc (.cells #[.int .i64 j.id.t, .int .i64 j.id.r, .int .i64 j.kind, .int .i64 j.links, .int .i64 j.mode, .string j.data] 62)) HY.out HS3.out (Below.refl _ _)).mono ?_
            rintro e w7 ⟨rfl, hb7⟩
            have hst7 : Turn (Maps2 mI mE) w6 w7 := Turn.trans ((((New.refl _).alloc _)).turn (Maps2 mI mE)) (Below.turn' hb7 _)
            have HTp0_7 := Lib.hid (HTp0_6.out.trans hst7)
            have HTp1_7 := Lib.hid (HTp1_6.out.trans hst7)
            have HTb2_7 := Lib.hid (HTb2_6.out.trans hst7)
            have HTb3_7 := Lib.hid (HTb3_6.out.trans hst7)
            have HTb4_7 := Lib.hid (Below.turn' hb7 (Maps2 mI mE))
            have HG_7 := Lib.hid ((HG_6.out.new ((New.refl _).alloc _)).below hb7)
            have HO7 : Hid (Below W0.heap.size W0 w7) := Lib.hid (Below.trans (HO6.out.alloc HO6.out.size _) (hb7.mono (by have := HO6.out.size; first | exact this | (simp only [World.size_alloc]; omega))))
            clear hst7 hb7
            obtain ⟨_, _, _, _, _, _, _, _, _, _, _, _, _, _⟩ := Hp0.out _ _ HTp0_7.out
            obtain ⟨_, _, _⟩ := Hp1.out _ _ HTp1_7.out
            obtain ⟨_, _, _, _, _, _, _⟩ := Hb2.out _ _ HTb2_7.out
            obtain ⟨_, _, _, _, _, _, _⟩ := Hb3.out _ _ HTb3_7.out
            obtain ⟨_, _, _, _, _, _, _⟩ := Hb4.out _ _ HTb4_7.out
            have Hb5 : Hid (∀ S W, Turn S (w7.alloc (.cells #[.int .i64 y.id.t, .int .i64 y.id.r, .int .i64 y.kind, .int .i64 y.links, .int .i64 y.mode, .string y.data] 62)) W → (W.cell? ⟨w7.heap.size, 0, none⟩ = some (.int .i64 y.id.t) ∧ W.cell? ⟨w7.heap.size, 1, none⟩ = some (.int .i64 y.id.r) ∧ W.cell? ⟨w7.heap.size, 2, none⟩ = some (.int .i64 y.kind) ∧ W.cell? ⟨w7.heap.size, 3, none⟩ = some (.int .i64 y.links) ∧ W.cell? ⟨w7.heap.size, 4, none⟩ = some (.int .i64 y.mode) ∧ W.cell? ⟨w7.heap.size, 5, none⟩ = some (.string y.data) ∧ w7.heap.size < W.heap.size)) := Lib.hid fun S W hW => ⟨(hW.cell ⟨_, 0, none⟩ (by simp)).trans (cell_new _ _ rfl _ _ 0 _ rfl), (hW.cell ⟨_, 1, none⟩ (by simp)).trans (cell_new _ _ rfl _ _ 1 _ rfl), (hW.cell ⟨_, 2, none⟩ (by simp)).trans (cell_new _ _ rfl _ _ 2 _ rfl), (hW.cell ⟨_, 3, none⟩ (by simp)).trans (cell_new _ _ rfl _ _ 3 _ rfl), (hW.cell ⟨_, 4, none⟩ (by simp)).trans (cell_new _ _ rfl _ _ 4 _ rfl), (hW.cell ⟨_, 5, none⟩ (by simp)).trans (cell_new _ _ rfl _ _ 5 _ rfl), by have := hW.size; simp at this; omega⟩
            go_wp2
            go_ret
            exact ⟨by simp [*], HW.out.trans ((HO7.out.alloc HO7.out.size _).mono HW.out.size)⟩
        · have qn := fun w => neq_ino_self y w
          rcases hcase with ⟨k1, k2, k3⟩ | ⟨k1, k2, k3⟩ | ⟨k1, k2, k3⟩
          · have d8 : (o.kind == 8) = true := by rw [k1]; rfl
            have ea : ((readF j.data o.off o.data.size).toList == o.data.toList) = true := by rw [k2]; simp
            have eb : decide ((readF j.data o.off o.data.size).toList = o.data.toList) = true := by rw [k2]; simp
            have ec : decide ((readF j.data o.off o.data.size) = o.data) = true := by rw [k2]; simp
            have m1 : (j.mode == i.mode) = true := by rw [k3]; simp
            have HRD : Hid (∀ w, Calls Tryz.prog 43 #[.string j.data, .int .i64 o.off, .int .i64 o.data.size] w fun e w' => e = .returned (.string (readF j.data o.off o.data.size)) ∧ Below w.heap.size w w') := Lib.hid fun w => (read_any j.data o.off o.data.size w (by unfold maxLen; omega) (by have := hds k1; omega)).mono fun e w' ⟨a, b⟩ => ⟨a, by rw [← b]; exact Below.refl _ _⟩
            clear k1 k2 k3 hjs hds
            have HOK : Hid (G.Ok) := Lib.hid hok
            have HTH : Hid (G.Thin) := Lib.hid hth
            clear hok hth
            have HT0 : Hid (Turn (fun _ => False) W0 W0) := Lib.hid (Turn.refl _ _)
            obtain ⟨_, _, _, _, _, _, _, _, _, _, _, _, _, _⟩ := Hp0.out _ _ HT0.out
            obtain ⟨_, _, _⟩ := Hp1.out _ _ HT0.out
            go_enter Tryz.func8, Tryz.ntmps8
            go_wp2_with fail
            rw [← hW0]
            have HW0 := Lib.hid hW0
            clear hW0
            go_wp2_with fail
            refine (shown_any _).mono ?_
            rintro e w1 ⟨rfl, hb1⟩
            have HO1 : Hid (Below W0.heap.size W0 w1) := Lib.hid (HO0.out.trans (hb1.mono HO0.out.size))
            have HT_1 : Hid (Turn (fun _ => False) W0 w1) := Lib.hid (Below.turn' HO1.out _)
            clear hb1
            obtain ⟨_, _, _, _, _, _, _, _, _, _, _, _, _, _⟩ := Hp0.out _ _ HT_1.out
            obtain ⟨_, _, _⟩ := Hp1.out _ _ HT_1.out
            go_wp2_with (go_at_call 32; refine (HF.out _ HO1.out).mono ?_; rintro y w' ⟨rfl, rfl⟩)
            go_wp2_with fail
            refine (HMD.out HLEN.out _ HO1.out).mono ?_
            rintro e w2 ⟨v2, rfl, ⟨gb, mI, mE, rfl, hG2, q1, q2, q3⟩, hb2⟩
            have HO2 : Hid (Below W0.heap.size W0 w2) := Lib.hid (HO1.out.trans (hb2.mono HO1.out.size))
            have HM : Hid (W0.heap.size ≤ mI ∧ W0.heap.size ≤ mE ∧ gb < w2.heap.size ∧ mI < w2.heap.size ∧ mE < w2.heap.size) := Lib.hid ⟨Nat.le_trans HO1.out.size q2, Nat.le_trans HO1.out.size q3, hG2.lt.1, hG2.lt.2.1, hG2.lt.2.2⟩
            have HT_2 : Hid (Turn (Maps2 mI mE) W0 w2) := Lib.hid (Below.turn' HO2.out _)
            have HG_2 : Hid (GrAt w2 gb mI mE G) := Lib.hid hG2
            clear hb2 hG2 q1 q2 q3
            obtain ⟨_, _, _, _, _, _, _, _, _, _, _, _, _, _⟩ := Hp0.out _ _ HT_2.out
            obtain ⟨_, _, _⟩ := Hp1.out _ _ HT_2.out
            go_wp2_with fail
            refine ((HG_2.out.reads HOK.out (by have := HOK.out.few; omega)).get o.ino i true w2 HI.out HS1.out (Below.refl _ _)).mono ?_
            rintro e w3 ⟨rfl, hb3⟩
            have hst3 : Turn (Maps2 mI mE) w2 w3 := Turn.trans (Turn.refl (Maps2 mI mE) _) (Below.turn' hb3 _)
            have HTp0_3 := Lib.hid (HT_2.out.trans hst3)
            have HTp1_3 := Lib.hid (HT_2.out.trans hst3)
            have HG_3 := Lib.hid ((HG_2.out.new (New.refl _)).below hb3)
            have HO3 : Hid (Below W0.heap.size W0 w3) := Lib.hid (Below.trans HO2.out (hb3.mono (by have := HO2.out.size; first | exact this | (simp only [World.size_alloc]; omega))))
            clear hst3 hb3
            obtain ⟨_, _, _, _, _, _, _, _, _, _, _, _, _, _⟩ := Hp0.out _ _ HTp0_3.out
            obtain ⟨_, _, _⟩ := Hp1.out _ _ HTp1_3.out
            have Hb2 : Hid (∀ S W, Turn S (w3.alloc (.cells #[.int .i64 i.id.t, .int .i64 i.id.r, .int .i64 i.kind, .int .i64 i.links, .int .i64 i.mode, .string i.data] 62)) W → (W.cell? ⟨w3.heap.size, 0, none⟩ = some (.int .i64 i.id.t) ∧ W.cell? ⟨w3.heap.size, 1, none⟩ = some (.int .i64 i.id.r) ∧ W.cell? ⟨w3.heap.size, 2, none⟩ = some (.int .i64 i.kind) ∧ W.cell? ⟨w3.heap.size, 3, none⟩ = some (.int .i64 i.links) ∧ W.cell? ⟨w3.heap.size, 4, none⟩ = some (.int .i64 i.mode) ∧ W.cell? ⟨w3.heap.size, 5, none⟩ = some (.string i.data) ∧ w3.heap.size < W.heap.size)) := Lib.hid fun S W hW => ⟨(hW.cell ⟨_, 0, none⟩ (by simp)).trans (cell_new _ _ rfl _ _ 0 _ rfl), (hW.cell ⟨_, 1, none⟩ (by simp)).trans (cell_new _ _ rfl _ _ 1 _ rfl), (hW.cell ⟨_, 2, none⟩ (by simp)).trans (cell_new _ _ rfl _ _ 2 _ rfl), (hW.cell ⟨_, 3, none⟩ (by simp)).trans (cell_new _ _ rfl _ _ 3 _ rfl), (hW.cell ⟨_, 4, none⟩ (by simp)).trans (cell_new _ _ rfl _ _ 4 _ rfl), (hW.cell ⟨_, 5, none⟩ (by simp)).trans (cell_new _ _ rfl _ _ 5 _ rfl), by have := hW.size; simp at this; omega⟩
            go_wp2_with fail
            refine (((HG_3.out.new ((New.refl _).alloc _)).reads HOK.out (by have := HOK.out.few; omega)).get other y c (w3.alloc (.cells #[.int .i64 i.id.t, .int .i64 i.id.r, .int .i64 i.kind, .int .i64 i.links, .int .i64 i.mode, .string i.data] 62)) HX.out HC.out (Below.refl _ _)).mono ?_
            rintro e w4 ⟨rfl, hb4⟩
            have hst4 : Turn (Maps2 mI mE) w3 w4 := Turn.trans ((((New.refl _).alloc _)).turn (Maps2 mI mE)) (Below.turn' hb4 _)
            have HTp0_4 := Lib.hid (HTp0_3.out.trans hst4)
            have HTp1_4 := Lib.hid (HTp1_3.out.trans hst4)
            have HTb2_4 := Lib.hid (Below.turn' hb4 (Maps2 mI mE))
            have HG_4 := Lib.hid ((HG_3.out.new ((New.refl _).alloc _)).below hb4)
            have HO4 : Hid (Below W0.heap.size W0 w4) := Lib.hid (Below.trans (HO3.out.alloc HO3.out.size _) (hb4.mono (by have := HO3.out.size; first | exact this | (simp only [World.size_alloc]; omega))))
            clear hst4 hb4
            obtain ⟨_, _, _, _, _, _, _, _, _, _, _, _, _, _⟩ := Hp0.out _ _ HTp0_4.out
            obtain ⟨_, _, _⟩ := Hp1.out _ _ HTp1_4.out
            obtain ⟨_, _, _, _, _, _, _⟩ := Hb2.out _ _ HTb2_4.out
            have Hb3 : Hid (∀ S W, Turn S (w4.alloc (.cells #[.int .i64 y.id.t, .int .i64 y.id.r, .int .i64 y.kind, .int .i64 y.links, .int .i64 y.mode, .string y.data] 62)) W → (W.cell? ⟨w4.heap.size, 0, none⟩ = some (.int .i64 y.id.t) ∧ W.cell? ⟨w4.heap.size, 1, none⟩ = some (.int .i64 y.id.r) ∧ W.cell? ⟨w4.heap.size, 2, none⟩ = some (.int .i64 y.kind) ∧ W.cell? ⟨w4.heap.size, 3, none⟩ = some (.int .i64 y.links) ∧ W.cell? ⟨w4.heap.size, 4, none⟩ = some (.int .i64 y.mode) ∧ W.cell? ⟨w4.heap.size, 5, none⟩ = some (.string y.data) ∧ w4.heap.size < W.heap.size)) := Lib.hid fun S W hW => ⟨(hW.cell ⟨_, 0, none⟩ (by simp)).trans (cell_new _ _ rfl _ _ 0 _ rfl), (hW.cell ⟨_, 1, none⟩ (by simp)).trans (cell_new _ _ rfl _ _ 1 _ rfl), (hW.cell ⟨_, 2, none⟩ (by simp)).trans (cell_new _ _ rfl _ _ 2 _ rfl), (hW.cell ⟨_, 3, none⟩ (by simp)).trans (cell_new _ _ rfl _ _ 3 _ rfl), (hW.cell ⟨_, 4, none⟩ (by simp)).trans (cell_new _ _ rfl _ _ 4 _ rfl), (hW.cell ⟨_, 5, none⟩ (by simp)).trans (cell_new _ _ rfl _ _ 5 _ rfl), by have := hW.size; simp at this; omega⟩
            go_wp2_with fail
            refine (apply_any gb mI mE G o (w4.alloc (.cells #[.int .i64 y.id.t, .int .i64 y.id.r, .int .i64 y.kind, .int .i64 y.links, .int .i64 y.mode, .string y.data] 62)) (HG_4.out.new ((New.refl _).alloc _)) HOK.out HTH.out HSM.out).mono ?_
            rintro e w5 ⟨rfl, hG5, hT5⟩
            rw [HWH.out]
            rw [HG'.out] at hG5
            have hst5 : Turn (Maps2 mI mE) w4 w5 := Turn.trans ((((New.refl _).alloc _)).turn (Maps2 mI mE)) hT5
            have HTp0_5 := Lib.hid (HTp0_4.out.trans hst5)
            have HTp1_5 := Lib.hid (HTp1_4.out.trans hst5)
            have HTb2_5 := Lib.hid (HTb2_4.out.trans hst5)
            have HTb3_5 := Lib.hid (hT5)
            have HG_5 := Lib.hid hG5
            have HO5 : Hid (Below W0.heap.size W0 w5) := Lib.hid (Below.trans (HO4.out.alloc HO4.out.size _) (own_below hT5 HM.out.1 HM.out.2.1 (by have := HO4.out.size; first | exact this | (simp only [World.size_alloc]; omega))))
            clear hst5 hT5 hG5
            obtain ⟨_, _, _, _, _, _, _, _, _, _, _, _, _, _⟩ := Hp0.out _ _ HTp0_5.out
            obtain ⟨_, _, _⟩ := Hp1.out _ _ HTp1_5.out
            obtain ⟨_, _, _, _, _, _, _⟩ := Hb2.out _ _ HTb2_5.out
            obtain ⟨_, _, _, _, _, _, _⟩ := Hb3.out _ _ HTb3_5.out
            go_wp2_with fail
            refine ((HG_5.out.reads HOK'.out (by have := HOK'.out.few; omega)).get o.ino j true w5 HJ.out HS2.out (Below.refl _ _)).mono ?_
            rintro e w6 ⟨rfl, hb6⟩
            have hst6 : Turn (Maps2 mI mE) w5 w6 := Turn.trans (Turn.refl (Maps2 mI mE) _) (Below.turn' hb6 _)
            have HTp0_6 := Lib.hid (HTp0_5.out.trans hst6)
            have HTp1_6 := Lib.hid (HTp1_5.out.trans hst6)
            have HTb2_6 := Lib.hid (HTb2_5.out.trans hst6)
            have HTb3_6 := Lib.hid (HTb3_5.out.trans hst6)
            have HG_6 := Lib.hid ((HG_5.out.new (New.refl _)).below hb6)
            have HO6 : Hid (Below W0.heap.size W0 w6) := Lib.hid (Below.trans HO5.out (hb6.mono (by have := HO5.out.size; first | exact this | (simp only [World.size_alloc]; omega))))
            clear hst6 hb6
            obtain ⟨_, _, _, _, _, _, _, _, _, _, _, _, _, _⟩ := Hp0.out _ _ HTp0_6.out
            obtain ⟨_, _, _⟩ := Hp1.out _ _ HTp1_6.out
            obtain ⟨_, _, _, _, _, _, _⟩ := Hb2.out _ _ HTb2_6.out
            obtain ⟨_, _, _, _, _, _, _⟩ := Hb3.out _ _ HTb3_6.out
            have Hb4 : Hid (∀ S W, Turn S (w6.alloc (.cells #[.int .i64 j.id.t, .int .i64 j.id.r, .int .i64 j.kind, .int .i64 j.links, .int .i64 j.mode, .string j.data] 62)) W → (W.cell? ⟨w6.heap.size, 0, none⟩ = some (.int .i64 j.id.t) ∧ W.cell? ⟨w6.heap.size, 1, none⟩ = some (.int .i64 j.id.r) ∧ W.cell? ⟨w6.heap.size, 2, none⟩ = some (.int .i64 j.kind) ∧ W.cell? ⟨w6.heap.size, 3, none⟩ = some (.int .i64 j.links) ∧ W.cell? ⟨w6.heap.size, 4, none⟩ = some (.int .i64 j.mode) ∧ W.cell? ⟨w6.heap.size, 5, none⟩ = some (.string j.data) ∧ w6.heap.size < W.heap.size)) := Lib.hid fun S W hW => ⟨(hW.cell ⟨_, 0, none⟩ (by simp)).trans (cell_new _ _ rfl _ _ 0 _ rfl), (hW.cell ⟨_, 1, none⟩ (by simp)).trans (cell_new _ _ rfl _ _ 1 _ rfl), (hW.cell ⟨_, 2, none⟩ (by simp)).trans (cell_new _ _ rfl _ _ 2 _ rfl), (hW.cell ⟨_, 3, none⟩ (by simp)).trans (cell_new _ _ rfl _ _ 3 _ rfl), (hW.cell ⟨_, 4, none⟩ (by simp)).trans (cell_new _ _ rfl _ _ 4 _ rfl), (hW.cell ⟨_, 5, none⟩ (by simp)).trans (cell_new _ _ rfl _ _ 5 _ rfl), by have := hW.size; simp at this; omega⟩
            go_wp2_with fail
            refine (((HG_6.out.new ((New.refl _).alloc _)).reads HOK'.out (by have := HOK'.out.few; omega)).get other y c (w6.alloc (.cells #[.int .i64 j.id.t, .int .i64 j.id.r, .int .i64 j.kind, .int .i64 j.links, .int .i64 j.mode, .string j.data] 62)) HY.out HS3.out (Below.refl _ _)).mono ?_
            rintro e w7 ⟨rfl, hb7⟩
            have hst7 : Turn (Maps2 mI mE) w6 w7 := Turn.trans ((((New.refl _).alloc _)).turn (Maps2 mI mE)) (Below.turn' hb7 _)
            have HTp0_7 := Lib.hid (HTp0_6.out.trans hst7)
            have HTp1_7 := Lib.hid (HTp1_6.out.trans hst7)
            have HTb2_7 := Lib.hid (HTb2_6.out.trans hst7)
            have HTb3_7 := Lib.hid (HTb3_6.out.trans hst7)
            have HTb4_7 := Lib.hid (Below.turn' hb7 (Maps2 mI mE))
            have HG_7 := Lib.hid ((HG_6.out.new ((New.refl _).alloc _)).below hb7)
            have HO7 : Hid (Below W0.heap.size W0 w7) := Lib.hid (Below.trans (HO6.out.alloc HO6.out.size _) (hb7.mono (by have := HO6.out.size; first | exact this | (simp only [World.size_alloc]; omega))))
            clear hst7 hb7
            obtain ⟨_, _, _, _, _, _, _, _, _, _, _, _, _, _⟩ := Hp0.out _ _ HTp0_7.out
            obtain ⟨_, _, _⟩ := Hp1.out _ _ HTp1_7.out
            obtain ⟨_, _, _, _, _, _, _⟩ := Hb2.out _ _ HTb2_7.out
            obtain ⟨_, _, _, _, _, _, _⟩ := Hb3.out _ _ HTb3_7.out
            obtain ⟨_, _, _, _, _, _, _⟩ := Hb4.out _ _ HTb4_7.out
            have Hb5 : Hid (∀ S W, Turn S (w7.alloc (.cells #[.int .i64 y.id.t, .int .i64 y.id.r, .int .i64 y.kind, .int .i64 y.links, .int .i64 y.mode, .string y.data] 62)) W → (W.cell? ⟨w7.heap.size, 0, none⟩ = some (.int .i64 y.id.t) ∧ W.cell? ⟨w7.heap.size, 1, none⟩ = some (.int .i64 y.id.r) ∧ W.cell? ⟨w7.heap.size, 2, none⟩ = some (.int .i64 y.kind) ∧ W.cell? ⟨w7.heap.size, 3, none⟩ = some (.int .i64 y.links) ∧ W.cell? ⟨w7.heap.size, 4, none⟩ = some (.int .i64 y.mode) ∧ W.cell? ⟨w7.heap.size, 5, none⟩ = some (.string y.data) ∧ w7.heap.size < W.heap.size)) := Lib.hid fun S W hW => ⟨(hW.cell ⟨_, 0, none⟩ (by simp)).trans (cell_new _ _ rfl _ _ 0 _ rfl), (hW.cell ⟨_, 1, none⟩ (by simp)).trans (cell_new _ _ rfl _ _ 1 _ rfl), (hW.cell ⟨_, 2, none⟩ (by simp)).trans (cell_new _ _ rfl _ _ 2 _ rfl), (hW.cell ⟨_, 3, none⟩ (by simp)).trans (cell_new _ _ rfl _ _ 3 _ rfl), (hW.cell ⟨_, 4, none⟩ (by simp)).trans (cell_new _ _ rfl _ _ 4 _ rfl), (hW.cell ⟨_, 5, none⟩ (by simp)).trans (cell_new _ _ rfl _ _ 5 _ rfl), by have := hW.size; simp at this; omega⟩
            go_wp2_with fail
            obtain ⟨w8, hw8⟩ : ∃ w8, w8 = (w7.alloc (.cells #[.int .i64 y.id.t, .int .i64 y.id.r, .int .i64 y.kind, .int .i64 y.links, .int .i64 y.mode, .string y.data] 62)) := ⟨_, rfl⟩
            rw [← hw8]
            have hst8 : Turn (Maps2 mI mE) w7 w8 := by rw [hw8]; exact (((New.refl _).alloc _)).turn (Maps2 mI mE)
            have HTp0_8 := Lib.hid (HTp0_7.out.trans hst8)
            have HTp1_8 := Lib.hid (HTp1_7.out.trans hst8)
            have HTb2_8 := Lib.hid (HTb2_7.out.trans hst8)
            have HTb3_8 := Lib.hid (HTb3_7.out.trans hst8)
            have HTb4_8 := Lib.hid (HTb4_7.out.trans hst8)
            have HTb5_8 : Hid (Turn (Maps2 mI mE) (w7.alloc (.cells #[.int .i64 y.id.t, .int .i64 y.id.r, .int .i64 y.kind, .int .i64 y.links, .int .i64 y.mode, .string y.data] 62)) w8) := Lib.hid (by rw [hw8]; exact Turn.refl _ _)
            have HG_8 := Lib.hid (by rw [hw8]; exact HG_7.out.new ((New.refl _).alloc _) : GrAt w8 _ _ _ _)
            have HO8 : Hid (Below W0.heap.size W0 w8) := Lib.hid (by rw [hw8]; exact (HO7.out.alloc HO7.out.size _))
            have HHW8 := Lib.hid hw8
            clear hst8 hw8
            obtain ⟨_, _, _, _, _, _, _, _, _, _, _, _, _, _⟩ := Hp0.out _ _ HTp0_8.out
            obtain ⟨_, _, _⟩ := Hp1.out _ _ HTp1_8.out
            obtain ⟨_, _, _, _, _, _, _⟩ := Hb2.out _ _ HTb2_8.out
            obtain ⟨_, _, _, _, _, _, _⟩ := Hb3.out _ _ HTb3_8.out
            obtain ⟨_, _, _, _, _, _, _⟩ := Hb4.out _ _ HTb4_8.out
            obtain ⟨_, _, _, _, _, _, _⟩ := Hb5.out _ _ HTb5_8.out
            have HKP : Hid (∀ W, Below w8.heap.size w8 W → (W.cell? ⟨w.heap.size, 0, none⟩ = some (.int .i64 o.stamp.t) ∧ W.cell? ⟨w.heap.size, 1, none⟩ = some (.int .i64 o.stamp.r) ∧ W.cell? ⟨w.heap.size, 2, none⟩ = some (.int .i64 o.kind) ∧ W.cell? ⟨w.heap.size, 3, none⟩ = some (.int .i64 o.at_.t) ∧ W.cell? ⟨w.heap.size, 4, none⟩ = some (.int .i64 o.at_.r) ∧ W.cell? ⟨w.heap.size, 5, none⟩ = some (.int .i64 o.ino.t) ∧ W.cell? ⟨w.heap.size, 6, none⟩ = some (.int .i64 o.ino.r) ∧ W.cell? ⟨w.heap.size, 7, none⟩ = some (.int .i64 o.to.t) ∧ W.cell? ⟨w.heap.size, 8, none⟩ = some (.int .i64 o.to.r) ∧ W.cell? ⟨w.heap.size, 9, none⟩ = some (.string o.name) ∧ W.cell? ⟨w.heap.size, 10, none⟩ = some (.string o.new) ∧ W.cell? ⟨w.heap.size, 11, none⟩ = some (.int .i64 o.off) ∧ W.cell? ⟨w.heap.size, 12, none⟩ = some (.string o.data) ∧ w.heap.size < W.heap.size) ∧ (W.cell? ⟨w3.heap.size, 0, none⟩ = some (.int .i64 i.id.t) ∧ W.cell? ⟨w3.heap.size, 1, none⟩ = some (.int .i64 i.id.r) ∧ W.cell? ⟨w3.heap.size, 2, none⟩ = some (.int .i64 i.kind) ∧ W.cell? ⟨w3.heap.size, 3, none⟩ = some (.int .i64 i.links) ∧ W.cell? ⟨w3.heap.size, 4, none⟩ = some (.int .i64 i.mode) ∧ W.cell? ⟨w3.heap.size, 5, none⟩ = some (.string i.data) ∧ w3.heap.size < W.heap.size) ∧ (W.cell? ⟨w6.heap.size, 0, none⟩ = some (.int .i64 j.id.t) ∧ W.cell? ⟨w6.heap.size, 1, none⟩ = some (.int .i64 j.id.r) ∧ W.cell? ⟨w6.heap.size, 2, none⟩ = some (.int .i64 j.kind) ∧ W.cell? ⟨w6.heap.size, 3, none⟩ = some (.int .i64 j.links) ∧ W.cell? ⟨w6.heap.size, 4, none⟩ = some (.int .i64 j.mode) ∧ W.cell? ⟨w6.heap.size, 5, none⟩ = some (.string j.data) ∧ w6.heap.size < W.heap.size)) := Lib.hid fun W hW => ⟨Hp0.out _ _ (HTp0_8.out.trans (Below.turn' hW _)), Hb2.out _ _ (HTb2_8.out.trans (Below.turn' hW _)), Hb4.out _ _ (HTb4_8.out.trans (Below.turn' hW _))⟩
            have HBc0 : Hid (Below w8.heap.size w8 w8) := Lib.hid (Below.refl _ _)
            go_wp2_with fail
            go_region_held3 (fun W => (W.cell? ⟨w.heap.size, 0, none⟩ = some (.int .i64 o.stamp.t) ∧ W.cell? ⟨w.heap.size, 1, none⟩ = some (.int .i64 o.stamp.r) ∧ W.cell? ⟨w.heap.size, 2, none⟩ = some (.int .i64 o.kind) ∧ W.cell? ⟨w.heap.size, 3, none⟩ = some (.int .i64 o.at_.t) ∧ W.cell? ⟨w.heap.size, 4, none⟩ = some (.int .i64 o.at_.r) ∧ W.cell? ⟨w.heap.size, 5, none⟩ = some (.int .i64 o.ino.t) ∧ W.cell? ⟨w.heap.size, 6, none⟩ = some (.int .i64 o.ino.r) ∧ W.cell? ⟨w.heap.size, 7, none⟩ = some (.int .i64 o.to.t) ∧ W.cell? ⟨w.heap.size, 8, none⟩ = some (.int .i64 o.to.r) ∧ W.cell? ⟨w.heap.size, 9, none⟩ = some (.string o.name) ∧ W.cell? ⟨w.heap.size, 10, none⟩ = some (.string o.new) ∧ W.cell? ⟨w.heap.size, 11, none⟩ = some (.int .i64 o.off) ∧ W.cell? ⟨w.heap.size, 12, none⟩ = some (.string o.data) ∧ w.heap.size < W.heap.size) ∧ (W.cell? ⟨w3.heap.size, 0, none⟩ = some (.int .i64 i.id.t) ∧ W.cell? ⟨w3.heap.size, 1, none⟩ = some (.int .i64 i.id.r) ∧ W.cell? ⟨w3.heap.size, 2, none⟩ = some (.int .i64 i.kind) ∧ W.cell? ⟨w3.heap.size, 3, none⟩ = some (.int .i64 i.links) ∧ W.cell? ⟨w3.heap.size, 4, none⟩ = some (.int .i64 i.mode) ∧ W.cell? ⟨w3.heap.size, 5, none⟩ = some (.string i.data) ∧ w3.heap.size < W.heap.size) ∧ (W.cell? ⟨w6.heap.size, 0, none⟩ = some (.int .i64 j.id.t) ∧ W.cell? ⟨w6.heap.size, 1, none⟩ = some (.int .i64 j.id.r) ∧ W.cell? ⟨w6.heap.size, 2, none⟩ = some (.int .i64 j.kind) ∧ W.cell? ⟨w6.heap.size, 3, none⟩ = some (.int .i64 j.links) ∧ W.cell? ⟨w6.heap.size, 4, none⟩ = some (.int .i64 j.mode) ∧ W.cell? ⟨w6.heap.size, 5, none⟩ = some (.string j.data) ∧ w6.heap.size < W.heap.size)) (first | exact HKP.out _ (by first | exact HBc1.out | exact HBc1.out.alloc HBc1.out.size _ | exact (HBc1.out.alloc HBc1.out.size _).alloc (le_al HBc1.out.size) _ | exact ((HBc1.out.alloc HBc1.out.size _).alloc (le_al HBc1.out.size) _).alloc (le_al (le_al HBc1.out.size)) _ | exact HBc1.out.drew | exact (HBc1.out.alloc HBc1.out.size _).drew | exact ((HBc1.out.alloc HBc1.out.size _).alloc (le_al HBc1.out.size) _).drew | exact HBc0.out | exact HBc0.out.alloc HBc0.out.size _ | exact (HBc0.out.alloc HBc0.out.size _).alloc (le_al HBc0.out.size) _ | exact ((HBc0.out.alloc HBc0.out.size _).alloc (le_al HBc0.out.size) _).alloc (le_al (le_al HBc0.out.size)) _ | exact HBc0.out.drew | exact (HBc0.out.alloc HBc0.out.size _).drew | exact ((HBc0.out.alloc HBc0.out.size _).alloc (le_al HBc0.out.size) _).drew) | go_keep) (first
                | (go_at_call 43; (with_reducible refine (HRD.out _).mono ?_); rintro e c1 ⟨rfl, hbc1⟩; obtain ⟨hcc1, hfc1⟩ := bcell hbc1; have hsc1 := hbc1.size; (try simp only [size_drew] at hsc1); (try simp only [World.size_alloc] at hsc1); (try simp only [size_setCell'] at hsc1); (try have lec1_0 : w8.heap.size ≤ c1.heap.size := (by omega)); (try have ltc1_0 : w8.heap.size < c1.heap.size := (by omega)); have HBc1 : Hid (Below w8.heap.size w8 c1) := Lib.hid (Below.trans (by first | exact HBc0.out | exact HBc0.out.alloc HBc0.out.size _ | exact (HBc0.out.alloc HBc0.out.size _).alloc (le_al HBc0.out.size) _ | exact ((HBc0.out.alloc HBc0.out.size _).alloc (le_al HBc0.out.size) _).alloc (le_al (le_al HBc0.out.size)) _ | exact HBc0.out.drew | exact (HBc0.out.alloc HBc0.out.size _).drew | exact ((HBc0.out.alloc HBc0.out.size _).alloc (le_al HBc0.out.size) _).drew) (hbc1.mono (by (try simp only [size_drew]); (try simp only [World.size_alloc]); (try simp only [size_setCell']); omega))); have HNc1 := Lib.hid hbc1; clear hbc1 hsc1))
            go_wp2
            go_ret
            exact ⟨by simp [*], HW.out.trans ((HO8.out.trans ((show Below w8.heap.size w8 _ from (by first | exact HBc1.out | exact HBc1.out.alloc HBc1.out.size _ | exact (HBc1.out.alloc HBc1.out.size _).alloc (le_al HBc1.out.size) _ | exact ((HBc1.out.alloc HBc1.out.size _).alloc (le_al HBc1.out.size) _).alloc (le_al (le_al HBc1.out.size)) _ | exact HBc1.out.drew | exact (HBc1.out.alloc HBc1.out.size _).drew | exact ((HBc1.out.alloc HBc1.out.size _).alloc (le_al HBc1.out.size) _).drew)).mono HO8.out.size)).mono HW.out.size)⟩
          · have d8 : (o.kind == 8) = false := by rw [k1]; rfl
            have d9 : (o.kind == 9) = true := by rw [k1]; rfl
            have m2 : ((j.data.size : Int) == o.off) = true := by rw [k2]; simp
            have m1 : (j.mode == i.mode) = true := by rw [k3]; simp
            clear k1 k2 k3 hjs hds
            have HOK : Hid (G.Ok) := Lib.hid hok
            have HTH : Hid (G.Thin) := Lib.hid hth
            clear hok hth
            have HT0 : Hid (Turn (fun _ => False) W0 W0) := Lib.hid (Turn.refl _ _)
            obtain ⟨_, _, _, _, _, _, _, _, _, _, _, _, _, _⟩ := Hp0.out _ _ HT0.out
            obtain ⟨_, _, _⟩ := Hp1.out _ _ HT0.out
            go_enter Tryz.func8, Tryz.ntmps8
            go_wp2_with fail
            rw [← hW0]
            have HW0 := Lib.hid hW0
            clear hW0
            go_wp2_with fail
            refine (shown_any _).mono ?_
            rintro e w1 ⟨rfl, hb1⟩
            have HO1 : Hid (Below W0.heap.size W0 w1) := Lib.hid (HO0.out.trans (hb1.mono HO0.out.size))
            have HT_1 : Hid (Turn (fun _ => False) W0 w1) := Lib.hid (Below.turn' HO1.out _)
            clear hb1
            obtain ⟨_, _, _, _, _, _, _, _, _, _, _, _, _, _⟩ := Hp0.out _ _ HT_1.out
            obtain ⟨_, _, _⟩ := Hp1.out _ _ HT_1.out
            go_wp2_with (go_at_call 32; refine (HF.out _ HO1.out).mono ?_; rintro y w' ⟨rfl, rfl⟩)
            go_wp2_with fail
            refine (HMD.out HLEN.out _ HO1.out).mono ?_
            rintro e w2 ⟨v2, rfl, ⟨gb, mI, mE, rfl, hG2, q1, q2, q3⟩, hb2⟩
            have HO2 : Hid (Below W0.heap.size W0 w2) := Lib.hid (HO1.out.trans (hb2.mono HO1.out.size))
            have HM : Hid (W0.heap.size ≤ mI ∧ W0.heap.size ≤ mE ∧ gb < w2.heap.size ∧ mI < w2.heap.size ∧ mE < w2.heap.size) := Lib.hid ⟨Nat.le_trans HO1.out.size q2, Nat.le_trans HO1.out.size q3, hG2.lt.1, hG2.lt.2.1, hG2.lt.2.2⟩
            have HT_2 : Hid (Turn (Maps2 mI mE) W0 w2) := Lib.hid (Below.turn' HO2.out _)
            have HG_2 : Hid (GrAt w2 gb mI mE G) := Lib.hid hG2
            clear hb2 hG2 q1 q2 q3
            obtain ⟨_, _, _, _, _, _, _, _, _, _, _, _, _, _⟩ := Hp0.out _ _ HT_2.out
            obtain ⟨_, _, _⟩ := Hp1.out _ _ HT_2.out
            go_wp2_with fail
            refine ((HG_2.out.reads HOK.out (by have := HOK.out.few; omega)).get o.ino i true w2 HI.out HS1.out (Below.refl _ _)).mono ?_
            rintro e w3 ⟨rfl, hb3⟩
            have hst3 : Turn (Maps2 mI mE) w2 w3 := Turn.trans (Turn.refl (Maps2 mI mE) _) (Below.turn' hb3 _)
            have HTp0_3 := Lib.hid (HT_2.out.trans hst3)
            have HTp1_3 := Lib.hid (HT_2.out.trans hst3)
            have HG_3 := Lib.hid ((HG_2.out.new (New.refl _)).below hb3)
            have HO3 : Hid (Below W0.heap.size W0 w3) := Lib.hid (Below.trans HO2.out (hb3.mono (by have := HO2.out.size; first | exact this | (simp only [World.size_alloc]; omega))))
            clear hst3 hb3
            obtain ⟨_, _, _, _, _, _, _, _, _, _, _, _, _, _⟩ := Hp0.out _ _ HTp0_3.out
            obtain ⟨_, _, _⟩ := Hp1.out _ _ HTp1_3.out
            have Hb2 : Hid (∀ S W, Turn S (w3.alloc (.cells #[.int .i64 i.id.t, .int .i64 i.id.r, .int .i64 i.kind, .int .i64 i.links, .int .i64 i.mode, .string i.data] 62)) W → (W.cell? ⟨w3.heap.size, 0, none⟩ = some (.int .i64 i.id.t) ∧ W.cell? ⟨w3.heap.size, 1, none⟩ = some (.int .i64 i.id.r) ∧ W.cell? ⟨w3.heap.size, 2, none⟩ = some (.int .i64 i.kind) ∧ W.cell? ⟨w3.heap.size, 3, none⟩ = some (.int .i64 i.links) ∧ W.cell? ⟨w3.heap.size, 4, none⟩ = some (.int .i64 i.mode) ∧ W.cell? ⟨w3.heap.size, 5, none⟩ = some (.string i.data) ∧ w3.heap.size < W.heap.size)) := Lib.hid fun S W hW => ⟨(hW.cell ⟨_, 0, none⟩ (by simp)).trans (cell_new _ _ rfl _ _ 0 _ rfl), (hW.cell ⟨_, 1, none⟩ (by simp)).trans (cell_new _ _ rfl _ _ 1 _ rfl), (hW.cell ⟨_, 2, none⟩ (by simp)).trans (cell_new _ _ rfl _ _ 2 _ rfl), (hW.cell ⟨_, 3, none⟩ (by simp)).trans (cell_new _ _ rfl _ _ 3 _ rfl), (hW.cell ⟨_, 4, none⟩ (by simp)).trans (cell_new _ _ rfl _ _ 4 _ rfl), (hW.cell ⟨_, 5, none⟩ (by simp)).trans (cell_new _ _ rfl _ _ 5 _ rfl), by have := hW.size; simp at this; omega⟩
            go_wp2_with fail
            refine (((HG_3.out.new ((New.refl _).alloc _)).reads HOK.out (by have := HOK.out.few; omega)).get other y c (w3.alloc (.cells #[.int .i64 i.id.t, .int .i64 i.id.r, .int .i64 i.kind, .int .i64 i.links, .int .i64 i.mode, .string i.data] 62)) HX.out HC.out (Below.refl _ _)).mono ?_
            rintro e w4 ⟨rfl, hb4⟩
            have hst4 : Turn (Maps2 mI mE) w3 w4 := Turn.trans ((((New.refl _).alloc _)).turn (Maps2 mI mE)) (Below.turn' hb4 _)
            have HTp0_4 := Lib.hid (HTp0_3.out.trans hst4)
            have HTp1_4 := Lib.hid (HTp1_3.out.trans hst4)
            have HTb2_4 := Lib.hid (Below.turn' hb4 (Maps2 mI mE))
            have HG_4 := Lib.hid ((HG_3.out.new ((New.refl _).alloc _)).below hb4)
            have HO4 : Hid (Below W0.heap.size W0 w4) := Lib.hid (Below.trans (HO3.out.alloc HO3.out.size _) (hb4.mono (by have := HO3.out.size; first | exact this | (simp only [World.size_alloc]; omega))))
            clear hst4 hb4
            obtain ⟨_, _, _, _, _, _, _, _, _, _, _, _, _, _⟩ := Hp0.out _ _ HTp0_4.out
            obtain ⟨_, _, _⟩ := Hp1.out _ _ HTp1_4.out
            obtain ⟨_, _, _, _, _, _, _⟩ := Hb2.out _ _ HTb2_4.out
            have Hb3 : Hid (∀ S W, Turn S (w4.alloc (.cells #[.int .i64 y.id.t, .int .i64 y.id.r, .int .i64 y.kind, .int .i64 y.links, .int .i64 y.mode, .string y.data] 62)) W → (W.cell? ⟨w4.heap.size, 0, none⟩ = some (.int .i64 y.id.t) ∧ W.cell? ⟨w4.heap.size, 1, none⟩ = some (.int .i64 y.id.r) ∧ W.cell? ⟨w4.heap.size, 2, none⟩ = some (.int .i64 y.kind) ∧ W.cell? ⟨w4.heap.size, 3, none⟩ = some (.int .i64 y.links) ∧ W.cell? ⟨w4.heap.size, 4, none⟩ = some (.int .i64 y.mode) ∧ W.cell? ⟨w4.heap.size, 5, none⟩ = some (.string y.data) ∧ w4.heap.size < W.heap.size)) := Lib.hid fun S W hW => ⟨(hW.cell ⟨_, 0, none⟩ (by simp)).trans (cell_new _ _ rfl _ _ 0 _ rfl), (hW.cell ⟨_, 1, none⟩ (by simp)).trans (cell_new _ _ rfl _ _ 1 _ rfl), (hW.cell ⟨_, 2, none⟩ (by simp)).trans (cell_new _ _ rfl _ _ 2 _ rfl), (hW.cell ⟨_, 3, none⟩ (by simp)).trans (cell_new _ _ rfl _ _ 3 _ rfl), (hW.cell ⟨_, 4, none⟩ (by simp)).trans (cell_new _ _ rfl _ _ 4 _ rfl), (hW.cell ⟨_, 5, none⟩ (by simp)).trans (cell_new _ _ rfl _ _ 5 _ rfl), by have := hW.size; simp at this; omega⟩
            go_wp2_with fail
            refine (apply_any gb mI mE G o (w4.alloc (.cells #[.int .i64 y.id.t, .int .i64 y.id.r, .int .i64 y.kind, .int .i64 y.links, .int .i64 y.mode, .string y.data] 62)) (HG_4.out.new ((New.refl _).alloc _)) HOK.out HTH.out HSM.out).mono ?_
            rintro e w5 ⟨rfl, hG5, hT5⟩
            rw [HWH.out]
            rw [HG'.out] at hG5
            have hst5 : Turn (Maps2 mI mE) w4 w5 := Turn.trans ((((New.refl _).alloc _)).turn (Maps2 mI mE)) hT5
            have HTp0_5 := Lib.hid (HTp0_4.out.trans hst5)
            have HTp1_5 := Lib.hid (HTp1_4.out.trans hst5)
            have HTb2_5 := Lib.hid (HTb2_4.out.trans hst5)
            have HTb3_5 := Lib.hid (hT5)
            have HG_5 := Lib.hid hG5
            have HO5 : Hid (Below W0.heap.size W0 w5) := Lib.hid (Below.trans (HO4.out.alloc HO4.out.size _) (own_below hT5 HM.out.1 HM.out.2.1 (by have := HO4.out.size; first | exact this | (simp only [World.size_alloc]; omega))))
            clear hst5 hT5 hG5
            obtain ⟨_, _, _, _, _, _, _, _, _, _, _, _, _, _⟩ := Hp0.out _ _ HTp0_5.out
            obtain ⟨_, _, _⟩ := Hp1.out _ _ HTp1_5.out
            obtain ⟨_, _, _, _, _, _, _⟩ := Hb2.out _ _ HTb2_5.out
            obtain ⟨_, _, _, _, _, _, _⟩ := Hb3.out _ _ HTb3_5.out
            go_wp2_with fail
            refine ((HG_5.out.reads HOK'.out (by have := HOK'.out.few; omega)).get o.ino j true w5 HJ.out HS2.out (Below.refl _ _)).mono ?_
            rintro e w6 ⟨rfl, hb6⟩
            have hst6 : Turn (Maps2 mI mE) w5 w6 := Turn.trans (Turn.refl (Maps2 mI mE) _) (Below.turn' hb6 _)
            have HTp0_6 := Lib.hid (HTp0_5.out.trans hst6)
            have HTp1_6 := Lib.hid (HTp1_5.out.trans hst6)
            have HTb2_6 := Lib.hid (HTb2_5.out.trans hst6)
            have HTb3_6 := Lib.hid (HTb3_5.out.trans hst6)
            have HG_6 := Lib.hid ((HG_5.out.new (New.refl _)).below hb6)
            have HO6 : Hid (Below W0.heap.size W0 w6) := Lib.hid (Below.trans HO5.out (hb6.mono (by have := HO5.out.size; first | exact this | (simp only [World.size_alloc]; omega))))
            clear hst6 hb6
            obtain ⟨_, _, _, _, _, _, _, _, _, _, _, _, _, _⟩ := Hp0.out _ _ HTp0_6.out
            obtain ⟨_, _, _⟩ := Hp1.out _ _ HTp1_6.out
            obtain ⟨_, _, _, _, _, _, _⟩ := Hb2.out _ _ HTb2_6.out
            obtain ⟨_, _, _, _, _, _, _⟩ := Hb3.out _ _ HTb3_6.out
            have Hb4 : Hid (∀ S W, Turn S (w6.alloc (.cells #[.int .i64 j.id.t, .int .i64 j.id.r, .int .i64 j.kind, .int .i64 j.links, .int .i64 j.mode, .string j.data] 62)) W → (W.cell? ⟨w6.heap.size, 0, none⟩ = some (.int .i64 j.id.t) ∧ W.cell? ⟨w6.heap.size, 1, none⟩ = some (.int .i64 j.id.r) ∧ W.cell? ⟨w6.heap.size, 2, none⟩ = some (.int .i64 j.kind) ∧ W.cell? ⟨w6.heap.size, 3, none⟩ = some (.int .i64 j.links) ∧ W.cell? ⟨w6.heap.size, 4, none⟩ = some (.int .i64 j.mode) ∧ W.cell? ⟨w6.heap.size, 5, none⟩ = some (.string j.data) ∧ w6.heap.size < W.heap.size)) := Lib.hid fun S W hW => ⟨(hW.cell ⟨_, 0, none⟩ (by simp)).trans (cell_new _ _ rfl _ _ 0 _ rfl), (hW.cell ⟨_, 1, none⟩ (by simp)).trans (cell_new _ _ rfl _ _ 1 _ rfl), (hW.cell ⟨_, 2, none⟩ (by simp)).trans (cell_new _ _ rfl _ _ 2 _ rfl), (hW.cell ⟨_, 3, none⟩ (by simp)).trans (cell_new _ _ rfl _ _ 3 _ rfl), (hW.cell ⟨_, 4, none⟩ (by simp)).trans (cell_new _ _ rfl _ _ 4 _ rfl), (hW.cell ⟨_, 5, none⟩ (by simp)).trans (cell_new _ _ rfl _ _ 5 _ rfl), by have := hW.size; simp at this; omega⟩
            go_wp2_with fail
            refine (((HG_6.out.new ((New.refl _).alloc _)).reads HOK'.out (by have := HOK'.out.few; omega)).get other y c (w6.alloc (.cells #[.int .i64 j.id.t, .int .i64 j.id.r, .int .i64 j.kind, .int .i64 j.links, .int .i64 j.mode, .string j.data] 62)) HY.out HS3.out (Below.refl _ _)).mono ?_
            rintro e w7 ⟨rfl, hb7⟩
            have hst7 : Turn (Maps2 mI mE) w6 w7 := Turn.trans ((((New.refl _).alloc _)).turn (Maps2 mI mE)) (Below.turn' hb7 _)
            have HTp0_7 := Lib.hid (HTp0_6.out.trans hst7)
            have HTp1_7 := Lib.hid (HTp1_6.out.trans hst7)
            have HTb2_7 := Lib.hid (HTb2_6.out.trans hst7)
            have HTb3_7 := Lib.hid (HTb3_6.out.trans hst7)
            have HTb4_7 := Lib.hid (Below.turn' hb7 (Maps2 mI mE))
            have HG_7 := Lib.hid ((HG_6.out.new ((New.refl _).alloc _)).below hb7)
            have HO7 : Hid (Below W0.heap.size W0 w7) := Lib.hid (Below.trans (HO6.out.alloc HO6.out.size _) (hb7.mono (by have := HO6.out.size; first | exact this | (simp only [World.size_alloc]; omega))))
            clear hst7 hb7
            obtain ⟨_, _, _, _, _, _, _, _, _, _, _, _, _, _⟩ := Hp0.out _ _ HTp0_7.out
            obtain ⟨_, _, _⟩ := Hp1.out _ _ HTp1_7.out
            obtain ⟨_, _, _, _, _, _, _⟩ := Hb2.out _ _ HTb2_7.out
            obtain ⟨_, _, _, _, _, _, _⟩ := Hb3.out _ _ HTb3_7.out
            obtain ⟨_, _, _, _, _, _, _⟩ := Hb4.out _ _ HTb4_7.out
            have Hb5 : Hid (∀ S W, Turn S (w7.alloc (.cells #[.int .i64 y.id.t, .int .i64 y.id.r, .int .i64 y.kind, .int .i64 y.links, .int .i64 y.mode, .string y.data] 62)) W → (W.cell? ⟨w7.heap.size, 0, none⟩ = some (.int .i64 y.id.t) ∧ W.cell? ⟨w7.heap.size, 1, none⟩ = some (.int .i64 y.id.r) ∧ W.cell? ⟨w7.heap.size, 2, none⟩ = some (.int .i64 y.kind) ∧ W.cell? ⟨w7.heap.size, 3, none⟩ = some (.int .i64 y.links) ∧ W.cell? ⟨w7.heap.size, 4, none⟩ = some (.int .i64 y.mode) ∧ W.cell? ⟨w7.heap.size, 5, none⟩ = some (.string y.data) ∧ w7.heap.size < W.heap.size)) := Lib.hid fun S W hW => ⟨(hW.cell ⟨_, 0, none⟩ (by simp)).trans (cell_new _ _ rfl _ _ 0 _ rfl), (hW.cell ⟨_, 1, none⟩ (by simp)).trans (cell_new _ _ rfl _ _ 1 _ rfl), (hW.cell ⟨_, 2, none⟩ (by simp)).trans (cell_new _ _ rfl _ _ 2 _ rfl), (hW.cell ⟨_, 3, none⟩ (by simp)).trans (cell_new _ _ rfl _ _ 3 _ rfl), (hW.cell ⟨_, 4, none⟩ (by simp)).trans (cell_new _ _ rfl _ _ 4 _ rfl), (hW.cell ⟨_, 5, none⟩ (by simp)).trans (cell_new _ _ rfl _ _ 5 _ rfl), by have := hW.size; simp at this; omega⟩
            go_wp2
            go_ret
            exact ⟨by simp [*], HW.out.trans ((HO7.out.alloc HO7.out.size _).mono HW.out.size)⟩
          · have d8 : (o.kind == 8) = false := by rw [k1]; rfl
            have d9 : (o.kind == 9) = false := by rw [k1]; rfl
            have ea : (j.data.toList == i.data.toList) = true := by rw [k2]; simp
            have eb : decide (j.data.toList = i.data.toList) = true := by rw [k2]; simp
            have ec : decide (j.data = i.data) = true := by rw [k2]; simp
            have m1 : (j.mode == o.off) = true := by rw [k3]; simp
            clear k1 k2 k3 hjs hds
            have HOK : Hid (G.Ok) := Lib.hid hok
            have HTH : Hid (G.Thin) := Lib.hid hth
            clear hok hth
            have HT0 : Hid (Turn (fun _ => False) W0 W0) := Lib.hid (Turn.refl _ _)
            obtain ⟨_, _, _, _, _, _, _, _, _, _, _, _, _, _⟩ := Hp0.out _ _ HT0.out
            obtain ⟨_, _, _⟩ := Hp1.out _ _ HT0.out
            go_enter Tryz.func8, Tryz.ntmps8
            go_wp2_with fail
            rw [← hW0]
            have HW0 := Lib.hid hW0
            clear hW0
            go_wp2_with fail
            refine (shown_any _).mono ?_
            rintro e w1 ⟨rfl, hb1⟩
            have HO1 : Hid (Below W0.heap.size W0 w1) := Lib.hid (HO0.out.trans (hb1.mono HO0.out.size))
            have HT_1 : Hid (Turn (fun _ => False) W0 w1) := Lib.hid (Below.turn' HO1.out _)
            clear hb1
            obtain ⟨_, _, _, _, _, _, _, _, _, _, _, _, _, _⟩ := Hp0.out _ _ HT_1.out
            obtain ⟨_, _, _⟩ := Hp1.out _ _ HT_1.out
            go_wp2_with (go_at_call 32; refine (HF.out _ HO1.out).mono ?_; rintro y w' ⟨rfl, rfl⟩)
            go_wp2_with fail
            refine (HMD.out HLEN.out _ HO1.out).mono ?_
            rintro e w2 ⟨v2, rfl, ⟨gb, mI, mE, rfl, hG2, q1, q2, q3⟩, hb2⟩
            have HO2 : Hid (Below W0.heap.size W0 w2) := Lib.hid (HO1.out.trans (hb2.mono HO1.out.size))
            have HM : Hid (W0.heap.size ≤ mI ∧ W0.heap.size ≤ mE ∧ gb < w2.heap.size ∧ mI < w2.heap.size ∧ mE < w2.heap.size) := Lib.hid ⟨Nat.le_trans HO1.out.size q2, Nat.le_trans HO1.out.size q3, hG2.lt.1, hG2.lt.2.1, hG2.lt.2.2⟩
            have HT_2 : Hid (Turn (Maps2 mI mE) W0 w2) := Lib.hid (Below.turn' HO2.out _)
            have HG_2 : Hid (GrAt w2 gb mI mE G) := Lib.hid hG2
            clear hb2 hG2 q1 q2 q3
            obtain ⟨_, _, _, _, _, _, _, _, _, _, _, _, _, _⟩ := Hp0.out _ _ HT_2.out
            obtain ⟨_, _, _⟩ := Hp1.out _ _ HT_2.out
            go_wp2_with fail
            refine ((HG_2.out.reads HOK.out (by have := HOK.out.few; omega)).get o.ino i true w2 HI.out HS1.out (Below.refl _ _)).mono ?_
            rintro e w3 ⟨rfl, hb3⟩
            have hst3 : Turn (Maps2 mI mE) w2 w3 := Turn.trans (Turn.refl (Maps2 mI mE) _) (Below.turn' hb3 _)
            have HTp0_3 := Lib.hid (HT_2.out.trans hst3)
            have HTp1_3 := Lib.hid (HT_2.out.trans hst3)
            have HG_3 := Lib.hid ((HG_2.out.new (New.refl _)).below hb3)
            have HO3 : Hid (Below W0.heap.size W0 w3) := Lib.hid (Below.trans HO2.out (hb3.mono (by have := HO2.out.size; first | exact this | (simp only [World.size_alloc]; omega))))
            clear hst3 hb3
            obtain ⟨_, _, _, _, _, _, _, _, _, _, _, _, _, _⟩ := Hp0.out _ _ HTp0_3.out
            obtain ⟨_, _, _⟩ := Hp1.out _ _ HTp1_3.out
            have Hb2 : Hid (∀ S W, Turn S (w3.alloc (.cells #[.int .i64 i.id.t, .int .i64 i.id.r, .int .i64 i.kind, .int .i64 i.links, .int .i64 i.mode, .string i.data] 62)) W → (W.cell? ⟨w3.heap.size, 0, none⟩ = some (.int .i64 i.id.t) ∧ W.cell? ⟨w3.heap.size, 1, none⟩ = some (.int .i64 i.id.r) ∧ W.cell? ⟨w3.heap.size, 2, none⟩ = some (.int .i64 i.kind) ∧ W.cell? ⟨w3.heap.size, 3, none⟩ = some (.int .i64 i.links) ∧ W.cell? ⟨w3.heap.size, 4, none⟩ = some (.int .i64 i.mode) ∧ W.cell? ⟨w3.heap.size, 5, none⟩ = some (.string i.data) ∧ w3.heap.size < W.heap.size)) := Lib.hid fun S W hW => ⟨(hW.cell ⟨_, 0, none⟩ (by simp)).trans (cell_new _ _ rfl _ _ 0 _ rfl), (hW.cell ⟨_, 1, none⟩ (by simp)).trans (cell_new _ _ rfl _ _ 1 _ rfl), (hW.cell ⟨_, 2, none⟩ (by simp)).trans (cell_new _ _ rfl _ _ 2 _ rfl), (hW.cell ⟨_, 3, none⟩ (by simp)).trans (cell_new _ _ rfl _ _ 3 _ rfl), (hW.cell ⟨_, 4, none⟩ (by simp)).trans (cell_new _ _ rfl _ _ 4 _ rfl), (hW.cell ⟨_, 5, none⟩ (by simp)).trans (cell_new _ _ rfl _ _ 5 _ rfl), by have := hW.size; simp at this; omega⟩
            go_wp2_with fail
            refine (((HG_3.out.new ((New.refl _).alloc _)).reads HOK.out (by have := HOK.out.few; omega)).get other y c (w3.alloc (.cells #[.int .i64 i.id.t, .int .i64 i.id.r, .int .i64 i.kind, .int .i64 i.links, .int .i64 i.mode, .string i.data] 62)) HX.out HC.out (Below.refl _ _)).mono ?_
            rintro e w4 ⟨rfl, hb4⟩
            have hst4 : Turn (Maps2 mI mE) w3 w4 := Turn.trans ((((New.refl _).alloc _)).turn (Maps2 mI mE)) (Below.turn' hb4 _)
            have HTp0_4 := Lib.hid (HTp0_3.out.trans hst4)
            have HTp1_4 := Lib.hid (HTp1_3.out.trans hst4)
            have HTb2_4 := Lib.hid (Below.turn' hb4 (Maps2 mI mE))
            have HG_4 := Lib.hid ((HG_3.out.new ((New.refl _).alloc _)).below hb4)
            have HO4 : Hid (Below W0.heap.size W0 w4) := Lib.hid (Below.trans (HO3.out.alloc HO3.out.size _) (hb4.mono (by have := HO3.out.size; first | exact this | (simp only [World.size_alloc]; omega))))
            clear hst4 hb4
            obtain ⟨_, _, _, _, _, _, _, _, _, _, _, _, _, _⟩ := Hp0.out _ _ HTp0_4.out
            obtain ⟨_, _, _⟩ := Hp1.out _ _ HTp1_4.out
            obtain ⟨_, _, _, _, _, _, _⟩ := Hb2.out _ _ HTb2_4.out
            have Hb3 : Hid (∀ S W, Turn S (w4.alloc (.cells #[.int .i64 y.id.t, .int .i64 y.id.r, .int .i64 y.kind, .int .i64 y.links, .int .i64 y.mode, .string y.data] 62)) W → (W.cell? ⟨w4.heap.size, 0, none⟩ = some (.int .i64 y.id.t) ∧ W.cell? ⟨w4.heap.size, 1, none⟩ = some (.int .i64 y.id.r) ∧ W.cell? ⟨w4.heap.size, 2, none⟩ = some (.int .i64 y.kind) ∧ W.cell? ⟨w4.heap.size, 3, none⟩ = some (.int .i64 y.links) ∧ W.cell? ⟨w4.heap.size, 4, none⟩ = some (.int .i64 y.mode) ∧ W.cell? ⟨w4.heap.size, 5, none⟩ = some (.string y.data) ∧ w4.heap.size < W.heap.size)) := Lib.hid fun S W hW => ⟨(hW.cell ⟨_, 0, none⟩ (by simp)).trans (cell_new _ _ rfl _ _ 0 _ rfl), (hW.cell ⟨_, 1, none⟩ (by simp)).trans (cell_new _ _ rfl _ _ 1 _ rfl), (hW.cell ⟨_, 2, none⟩ (by simp)).trans (cell_new _ _ rfl _ _ 2 _ rfl), (hW.cell ⟨_, 3, none⟩ (by simp)).trans (cell_new _ _ rfl _ _ 3 _ rfl), (hW.cell ⟨_, 4, none⟩ (by simp)).trans (cell_new _ _ rfl _ _ 4 _ rfl), (hW.cell ⟨_, 5, none⟩ (by simp)).trans (cell_new _ _ rfl _ _ 5 _ rfl), by have := hW.size; simp at this; omega⟩
            go_wp2_with fail
            refine (apply_any gb mI mE G o (w4.alloc (.cells #[.int .i64 y.id.t, .int .i64 y.id.r, .int .i64 y.kind, .int .i64 y.links, .int .i64 y.mode, .string y.data] 62)) (HG_4.out.new ((New.refl _).alloc _)) HOK.out HTH.out HSM.out).mono ?_
            rintro e w5 ⟨rfl, hG5, hT5⟩
            rw [HWH.out]
            rw [HG'.out] at hG5
            have hst5 : Turn (Maps2 mI mE) w4 w5 := Turn.trans ((((New.refl _).alloc _)).turn (Maps2 mI mE)) hT5
            have HTp0_5 := Lib.hid (HTp0_4.out.trans hst5)
            have HTp1_5 := Lib.hid (HTp1_4.out.trans hst5)
            have HTb2_5 := Lib.hid (HTb2_4.out.trans hst5)
            have HTb3_5 := Lib.hid (hT5)
            have HG_5 := Lib.hid hG5
            have HO5 : Hid (Below W0.heap.size W0 w5) := Lib.hid (Below.trans (HO4.out.alloc HO4.out.size _) (own_below hT5 HM.out.1 HM.out.2.1 (by have := HO4.out.size; first | exact this | (simp only [World.size_alloc]; omega))))
            clear hst5 hT5 hG5
            obtain ⟨_, _, _, _, _, _, _, _, _, _, _, _, _, _⟩ := Hp0.out _ _ HTp0_5.out
            obtain ⟨_, _, _⟩ := Hp1.out _ _ HTp1_5.out
            obtain ⟨_, _, _, _, _, _, _⟩ := Hb2.out _ _ HTb2_5.out
            obtain ⟨_, _, _, _, _, _, _⟩ := Hb3.out _ _ HTb3_5.out
            go_wp2_with fail
            refine ((HG_5.out.reads HOK'.out (by have := HOK'.out.few; omega)).get o.ino j true w5 HJ.out HS2.out (Below.refl _ _)).mono ?_
            rintro e w6 ⟨rfl, hb6⟩
            have hst6 : Turn (Maps2 mI mE) w5 w6 := Turn.trans (Turn.refl (Maps2 mI mE) _) (Below.turn' hb6 _)
            have HTp0_6 := Lib.hid (HTp0_5.out.trans hst6)
            have HTp1_6 := Lib.hid (HTp1_5.out.trans hst6)
            have HTb2_6 := Lib.hid (HTb2_5.out.trans hst6)
            have HTb3_6 := Lib.hid (HTb3_5.out.trans hst6)
            have HG_6 := Lib.hid ((HG_5.out.new (New.refl _)).below hb6)
            have HO6 : Hid (Below W0.heap.size W0 w6) := Lib.hid (Below.trans HO5.out (hb6.mono (by have := HO5.out.size; first | exact this | (simp only [World.size_alloc]; omega))))
            clear hst6 hb6
            obtain ⟨_, _, _, _, _, _, _, _, _, _, _, _, _, _⟩ := Hp0.out _ _ HTp0_6.out
            obtain ⟨_, _, _⟩ := Hp1.out _ _ HTp1_6.out
            obtain ⟨_, _, _, _, _, _, _⟩ := Hb2.out _ _ HTb2_6.out
            obtain ⟨_, _, _, _, _, _, _⟩ := Hb3.out _ _ HTb3_6.out
            have Hb4 : Hid (∀ S W, Turn S (w6.alloc (.cells #[.int .i64 j.id.t, .int .i64 j.id.r, .int .i64 j.kind, .int .i64 j.links, .int .i64 j.mode, .string j.data] 62)) W → (W.cell? ⟨w6.heap.size, 0, none⟩ = some (.int .i64 j.id.t) ∧ W.cell? ⟨w6.heap.size, 1, none⟩ = some (.int .i64 j.id.r) ∧ W.cell? ⟨w6.heap.size, 2, none⟩ = some (.int .i64 j.kind) ∧ W.cell? ⟨w6.heap.size, 3, none⟩ = some (.int .i64 j.links) ∧ W.cell? ⟨w6.heap.size, 4, none⟩ = some (.int .i64 j.mode) ∧ W.cell? ⟨w6.heap.size, 5, none⟩ = some (.string j.data) ∧ w6.heap.size < W.heap.size)) := Lib.hid fun S W hW => ⟨(hW.cell ⟨_, 0, none⟩ (by simp)).trans (cell_new _ _ rfl _ _ 0 _ rfl), (hW.cell ⟨_, 1, none⟩ (by simp)).trans (cell_new _ _ rfl _ _ 1 _ rfl), (hW.cell ⟨_, 2, none⟩ (by simp)).trans (cell_new _ _ rfl _ _ 2 _ rfl), (hW.cell ⟨_, 3, none⟩ (by simp)).trans (cell_new _ _ rfl _ _ 3 _ rfl), (hW.cell ⟨_, 4, none⟩ (by simp)).trans (cell_new _ _ rfl _ _ 4 _ rfl), (hW.cell ⟨_, 5, none⟩ (by simp)).trans (cell_new _ _ rfl _ _ 5 _ rfl), by have := hW.size; simp at this; omega⟩
            go_wp2_with fail
            refine (((HG_6.out.new ((New.refl _).alloc _)).reads HOK'.out (by have := HOK'.out.few; omega)).get other y c (w6.alloc (.cells #[.int .i64 j.id.t, .int .i64 j.id.r, .int .i64 j.kind, .int .i64 j.links, .int .i64 j.mode, .string j.data] 62)) HY.out HS3.out (Below.refl _ _)).mono ?_
            rintro e w7 ⟨rfl, hb7⟩
            have hst7 : Turn (Maps2 mI mE) w6 w7 := Turn.trans ((((New.refl _).alloc _)).turn (Maps2 mI mE)) (Below.turn' hb7 _)
            have HTp0_7 := Lib.hid (HTp0_6.out.trans hst7)
            have HTp1_7 := Lib.hid (HTp1_6.out.trans hst7)
            have HTb2_7 := Lib.hid (HTb2_6.out.trans hst7)
            have HTb3_7 := Lib.hid (HTb3_6.out.trans hst7)
            have HTb4_7 := Lib.hid (Below.turn' hb7 (Maps2 mI mE))
            have HG_7 := Lib.hid ((HG_6.out.new ((New.refl _).alloc _)).below hb7)
            have HO7 : Hid (Below W0.heap.size W0 w7) := Lib.hid (Below.trans (HO6.out.alloc HO6.out.size _) (hb7.mono (by have := HO6.out.size; first | exact this | (simp only [World.size_alloc]; omega))))
            clear hst7 hb7
            obtain ⟨_, _, _, _, _, _, _, _, _, _, _, _, _, _⟩ := Hp0.out _ _ HTp0_7.out
            obtain ⟨_, _, _⟩ := Hp1.out _ _ HTp1_7.out
            obtain ⟨_, _, _, _, _, _, _⟩ := Hb2.out _ _ HTb2_7.out
            obtain ⟨_, _, _, _, _, _, _⟩ := Hb3.out _ _ HTb3_7.out
            obtain ⟨_, _, _, _, _, _, _⟩ := Hb4.out _ _ HTb4_7.out
            have Hb5 : Hid (∀ S W, Turn S (w7.alloc (.cells #[.int .i64 y.id.t, .int .i64 y.id.r, .int .i64 y.kind, .int .i64 y.links, .int .i64 y.mode, .string y.data] 62)) W → (W.cell? ⟨w7.heap.size, 0, none⟩ = some (.int .i64 y.id.t) ∧ W.cell? ⟨w7.heap.size, 1, none⟩ = some (.int .i64 y.id.r) ∧ W.cell? ⟨w7.heap.size, 2, none⟩ = some (.int .i64 y.kind) ∧ W.cell? ⟨w7.heap.size, 3, none⟩ = some (.int .i64 y.links) ∧ W.cell? ⟨w7.heap.size, 4, none⟩ = some (.int .i64 y.mode) ∧ W.cell? ⟨w7.heap.size, 5, none⟩ = some (.string y.data) ∧ w7.heap.size < W.heap.size)) := Lib.hid fun S W hW => ⟨(hW.cell ⟨_, 0, none⟩ (by simp)).trans (cell_new _ _ rfl _ _ 0 _ rfl), (hW.cell ⟨_, 1, none⟩ (by simp)).trans (cell_new _ _ rfl _ _ 1 _ rfl), (hW.cell ⟨_, 2, none⟩ (by simp)).trans (cell_new _ _ rfl _ _ 2 _ rfl), (hW.cell ⟨_, 3, none⟩ (by simp)).trans (cell_new _ _ rfl _ _ 3 _ rfl), (hW.cell ⟨_, 4, none⟩ (by simp)).trans (cell_new _ _ rfl _ _ 4 _ rfl), (hW.cell ⟨_, 5, none⟩ (by simp)).trans (cell_new _ _ rfl _ _ 5 _ rfl), by have := hW.size; simp at this; omega⟩
            go_wp2
            go_ret
            exact ⟨by simp [*], HW.out.trans ((HO7.out.alloc HO7.out.size _).mono HW.out.size)⟩
      · have HWB : Hid ((ran l).opWhy o ≠ 0) := Lib.hid hw
        have hwb : ((ran l).opWhy o != 0) = true := by simpa using hw
        clear hk h_o
        obtain ⟨r, hr⟩ : ∃ r, r = (ran l).opWhy o := ⟨_, rfl⟩
        have HR := Lib.hid hr
        rw [← hr] at hwb
        clear hr hw
        generalize ran l = G at *
        have HOK : Hid (G.Ok) := Lib.hid hok
        have HTH : Hid (G.Thin) := Lib.hid hth
        clear hok hth
        have HT0 : Hid (Turn (fun _ => False) W0 W0) := Lib.hid (Turn.refl _ _)
        obtain ⟨_, _, _, _, _, _, _, _, _, _, _, _, _, _⟩ := Hp0.out _ _ HT0.out
        obtain ⟨_, _, _⟩ := Hp1.out _ _ HT0.out
        go_enter Tryz.func8, Tryz.ntmps8
        go_wp2_with fail
        rw [← hW0]
        have HW0 := Lib.hid hW0
        clear hW0
        go_wp2_with fail
        refine (shown_any _).mono ?_
        rintro e w1 ⟨rfl, hb1⟩
        have HO1 : Hid (Below W0.heap.size W0 w1) := Lib.hid (HO0.out.trans (hb1.mono HO0.out.size))
        have HT_1 : Hid (Turn (fun _ => False) W0 w1) := Lib.hid (Below.turn' HO1.out _)
        clear hb1
        obtain ⟨_, _, _, _, _, _, _, _, _, _, _, _, _, _⟩ := Hp0.out _ _ HT_1.out
        obtain ⟨_, _, _⟩ := Hp1.out _ _ HT_1.out
        go_wp2_with (go_at_call 32; refine (HF.out _ HO1.out).mono ?_; rintro y w' ⟨rfl, rfl⟩)
        go_wp2_with fail
        refine (HMD.out HLEN.out _ HO1.out).mono ?_
        rintro e w2 ⟨v2, rfl, ⟨gb, mI, mE, rfl, hG2, q1, q2, q3⟩, hb2⟩
        have HO2 : Hid (Below W0.heap.size W0 w2) := Lib.hid (HO1.out.trans (hb2.mono HO1.out.size))
        have HM : Hid (W0.heap.size ≤ mI ∧ W0.heap.size ≤ mE ∧ gb < w2.heap.size ∧ mI < w2.heap.size ∧ mE < w2.heap.size) := Lib.hid ⟨Nat.le_trans HO1.out.size q2, Nat.le_trans HO1.out.size q3, hG2.lt.1, hG2.lt.2.1, hG2.lt.2.2⟩
        have HT_2 : Hid (Turn (Maps2 mI mE) W0 w2) := Lib.hid (Below.turn' HO2.out _)
        have HG_2 : Hid (GrAt w2 gb mI mE G) := Lib.hid hG2
        clear hb2 hG2 q1 q2 q3
        obtain ⟨_, _, _, _, _, _, _, _, _, _, _, _, _, _⟩ := Hp0.out _ _ HT_2.out
        obtain ⟨_, _, _⟩ := Hp1.out _ _ HT_2.out
        have HIG : Hid (∀ (x : St) W, GrAt W gb mI mE G → Calls Tryz.prog 40 #[.pointer (some ⟨gb, 0, none⟩), (.agg #[.int .i64 x.t, .int .i64 x.r])] W fun y w' => ∃ (i : Ino) (b : Bool), y = .returned (.tuple #[(.agg #[.int .i64 i.id.t, .int .i64 i.id.r, .int .i64 i.kind, .int .i64 i.links, .int .i64 i.mode, .string i.data]), .bool b]) ∧ Below W.heap.size W w') := Lib.hid fun x W hW => ((hW.reads HOK.out (by have := HOK.out.few; omega)).get x _ _ W rfl rfl (Below.refl _ _)).mono fun y w' ⟨a, c⟩ => ⟨_, _, a, c⟩
        go_wp2_with fail
        refine (HIG.out o.ino w2 HG_2.out).mono ?_
        rintro e w3 ⟨i, b1, rfl, hb3⟩
        have hst3 : Turn (Maps2 mI mE) w2 w3 := Turn.trans (Turn.refl (Maps2 mI mE) _) (Below.turn' hb3 _)
        have HTp0_3 := Lib.hid (HT_2.out.trans hst3)
        have HTp1_3 := Lib.hid (HT_2.out.trans hst3)
        have HG_3 := Lib.hid ((HG_2.out.new (New.refl _)).below hb3)
        have HO3 : Hid (Below W0.heap.size W0 w3) := Lib.hid (Below.trans HO2.out (hb3.mono (by have := HO2.out.size; first | exact this | (simp only [World.size_alloc]; omega))))
        clear hst3 hb3
        obtain ⟨_, _, _, _, _, _, _, _, _, _, _, _, _, _⟩ := Hp0.out _ _ HTp0_3.out
        obtain ⟨_, _, _⟩ := Hp1.out _ _ HTp1_3.out
        have Hb2 : Hid (∀ S W, Turn S (w3.alloc (.cells #[.int .i64 i.id.t, .int .i64 i.id.r, .int .i64 i.kind, .int .i64 i.links, .int .i64 i.mode, .string i.data] 62)) W → (W.cell? ⟨w3.heap.size, 0, none⟩ = some (.int .i64 i.id.t) ∧ W.cell? ⟨w3.heap.size, 1, none⟩ = some (.int .i64 i.id.r) ∧ W.cell? ⟨w3.heap.size, 2, none⟩ = some (.int .i64 i.kind) ∧ W.cell? ⟨w3.heap.size, 3, none⟩ = some (.int .i64 i.links) ∧ W.cell? ⟨w3.heap.size, 4, none⟩ = some (.int .i64 i.mode) ∧ W.cell? ⟨w3.heap.size, 5, none⟩ = some (.string i.data) ∧ w3.heap.size < W.heap.size)) := Lib.hid fun S W hW => ⟨(hW.cell ⟨_, 0, none⟩ (by simp)).trans (cell_new _ _ rfl _ _ 0 _ rfl), (hW.cell ⟨_, 1, none⟩ (by simp)).trans (cell_new _ _ rfl _ _ 1 _ rfl), (hW.cell ⟨_, 2, none⟩ (by simp)).trans (cell_new _ _ rfl _ _ 2 _ rfl), (hW.cell ⟨_, 3, none⟩ (by simp)).trans (cell_new _ _ rfl _ _ 3 _ rfl), (hW.cell ⟨_, 4, none⟩ (by simp)).trans (cell_new _ _ rfl _ _ 4 _ rfl), (hW.cell ⟨_, 5, none⟩ (by simp)).trans (cell_new _ _ rfl _ _ 5 _ rfl), by have := hW.size; simp at this; omega⟩
        go_wp2_with fail
        refine (HIG.out other (w3.alloc (.cells #[.int .i64 i.id.t, .int .i64 i.id.r, .int .i64 i.kind, .int .i64 i.links, .int .i64 i.mode, .string i.data] 62)) (HG_3.out.new ((New.refl _).alloc _))).mono ?_
        rintro e w4 ⟨x, b2, rfl, hb4⟩
        have hst4 : Turn (Maps2 mI mE) w3 w4 := Turn.trans ((((New.refl _).alloc _)).turn (Maps2 mI mE)) (Below.turn' hb4 _)
        have HTp0_4 := Lib.hid (HTp0_3.out.trans hst4)
        have HTp1_4 := Lib.hid (HTp1_3.out.trans hst4)
        have HTb2_4 := Lib.hid (Below.turn' hb4 (Maps2 mI mE))
        have HG_4 := Lib.hid ((HG_3.out.new ((New.refl _).alloc _)).below hb4)
        have HO4 : Hid (Below W0.heap.size W0 w4) := Lib.hid (Below.trans (HO3.out.alloc HO3.out.size _) (hb4.mono (by have := HO3.out.size; first | exact this | (simp only [World.size_alloc]; omega))))
        clear hst4 hb4
        obtain ⟨_, _, _, _, _, _, _, _, _, _, _, _, _, _⟩ := Hp0.out _ _ HTp0_4.out
        obtain ⟨_, _, _⟩ := Hp1.out _ _ HTp1_4.out
        obtain ⟨_, _, _, _, _, _, _⟩ := Hb2.out _ _ HTb2_4.out
        have Hb3 : Hid (∀ S W, Turn S (w4.alloc (.cells #[.int .i64 x.id.t, .int .i64 x.id.r, .int .i64 x.kind, .int .i64 x.links, .int .i64 x.mode, .string x.data] 62)) W → (W.cell? ⟨w4.heap.size, 0, none⟩ = some (.int .i64 x.id.t) ∧ W.cell? ⟨w4.heap.size, 1, none⟩ = some (.int .i64 x.id.r) ∧ W.cell? ⟨w4.heap.size, 2, none⟩ = some (.int .i64 x.kind) ∧ W.cell? ⟨w4.heap.size, 3, none⟩ = some (.int .i64 x.links) ∧ W.cell? ⟨w4.heap.size, 4, none⟩ = some (.int .i64 x.mode) ∧ W.cell? ⟨w4.heap.size, 5, none⟩ = some (.string x.data) ∧ w4.heap.size < W.heap.size)) := Lib.hid fun S W hW => ⟨(hW.cell ⟨_, 0, none⟩ (by simp)).trans (cell_new _ _ rfl _ _ 0 _ rfl), (hW.cell ⟨_, 1, none⟩ (by simp)).trans (cell_new _ _ rfl _ _ 1 _ rfl), (hW.cell ⟨_, 2, none⟩ (by simp)).trans (cell_new _ _ rfl _ _ 2 _ rfl), (hW.cell ⟨_, 3, none⟩ (by simp)).trans (cell_new _ _ rfl _ _ 3 _ rfl), (hW.cell ⟨_, 4, none⟩ (by simp)).trans (cell_new _ _ rfl _ _ 4 _ rfl), (hW.cell ⟨_, 5, none⟩ (by simp)).trans (cell_new _ _ rfl _ _ 5 _ rfl), by have := hW.size; simp at this; omega⟩
        go_wp2_with fail
        refine (apply_any gb mI mE G o (w4.alloc (.cells #[.int .i64 x.id.t, .int .i64 x.id.r, .int .i64 x.kind, .int .i64 x.links, .int .i64 x.mode, .string x.data] 62)) (HG_4.out.new ((New.refl _).alloc _)) HOK.out HTH.out HSM.out).mono ?_
        rintro e w5 ⟨rfl, hG5, hT5⟩
        rw [← HR.out]
        have hst5 : Turn (Maps2 mI mE) w4 w5 := Turn.trans ((((New.refl _).alloc _)).turn (Maps2 mI mE)) hT5
        have HTp0_5 := Lib.hid (HTp0_4.out.trans hst5)
        have HTp1_5 := Lib.hid (HTp1_4.out.trans hst5)
        have HTb2_5 := Lib.hid (HTb2_4.out.trans hst5)
        have HTb3_5 := Lib.hid (hT5)
        have HG_5 := Lib.hid hG5
        have HO5 : Hid (Below W0.heap.size W0 w5) := Lib.hid (Below.trans (HO4.out.alloc HO4.out.size _) (own_below hT5 HM.out.1 HM.out.2.1 (by have := HO4.out.size; first | exact this | (simp only [World.size_alloc]; omega))))
        clear hst5 hT5 hG5
        obtain ⟨_, _, _, _, _, _, _, _, _, _, _, _, _, _⟩ := Hp0.out _ _ HTp0_5.out
        obtain ⟨_, _, _⟩ := Hp1.out _ _ HTp1_5.out
        obtain ⟨_, _, _, _, _, _, _⟩ := Hb2.out _ _ HTb2_5.out
        obtain ⟨_, _, _, _, _, _, _⟩ := Hb3.out _ _ HTb3_5.out
        go_wp2
        go_ret
        exact ⟨rfl, HW.out.trans (HO5.out.mono HW.out.size)⟩
    · have hk7 : decide (o.kind < 8) = true := by rw [decide_eq_true_eq]; omega
      clear hk hok hth h_o
      have HT0 : Hid (Turn (fun _ => False) W0 W0) := Lib.hid (Turn.refl _ _)
      obtain ⟨_, _, _, _, _, _, _, _, _, _, _, _, _, _⟩ := Hp0.out _ _ HT0.out
      obtain ⟨_, _, _⟩ := Hp1.out _ _ HT0.out
      go_enter Tryz.func8, Tryz.ntmps8
      go_wp2_with fail
      rw [← hW0]
      have HW0 := Lib.hid hW0
      clear hW0
      go_wp2_with fail
      refine (shown_any _).mono ?_
      rintro e w1 ⟨rfl, hb1⟩
      have HO1 : Hid (Below W0.heap.size W0 w1) := Lib.hid (HO0.out.trans (hb1.mono HO0.out.size))
      have HT_1 : Hid (Turn (fun _ => False) W0 w1) := Lib.hid (Below.turn' HO1.out _)
      clear hb1
      obtain ⟨_, _, _, _, _, _, _, _, _, _, _, _, _, _⟩ := Hp0.out _ _ HT_1.out
      obtain ⟨_, _, _⟩ := Hp1.out _ _ HT_1.out
      go_wp2_with (go_at_call 32; refine (HF.out _ HO1.out).mono ?_; rintro y w' ⟨rfl, rfl⟩)
      go_ret
      exact ⟨rfl, HW.out.trans (HO1.out.mono HW.out.size)⟩
end Go.Proofs.YtmnkaohhjhjciaaGreat.L11
