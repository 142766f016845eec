/-
  thimblelaw11.ApplyGone: who goes when the last name goes; no condition but the texts' reach.
-/
import Derived.Test.YtmnkaohhjhjciaaGreatQL11
namespace Go.Proofs.YtmnkaohhjhjciaaGreat.L11
open Go.RowKit Go.Shelf Go.Proofs

set_option maxRecDepth 100000 in
set_option maxHeartbeats 8000000 in
theorem gone_walk (v : Value) (l : List Op) (o : Op) (w : World) (hs : SlAt w 13 Op.cells v l) (hn : ∀ o ∈ l, o.Small) (h_o : o.Small) :
    Calls Tryz.prog 7 #[v, o.v] w fun y w' => y = .returned (.bool true) ∧ Below w.heap.size w w' := by
  obtain ⟨W0, hW0⟩ : ∃ W0, W0 = (w.alloc (.cells #[.int .i64 o.stamp.t, .int .i64 o.stamp.r, .int .i64 o.kind, .int .i64 o.at_.t, .int .i64 o.at_.r, .int .i64 o.ino.t, .int .i64 o.ino.r, .int .i64 o.to.t, .int .i64 o.to.r, .string o.name, .string o.new, .int .i64 o.off, .string o.data] 55)) := ⟨_, rfl⟩
  have HW : Hid (Below w.heap.size w W0) := Lib.hid (by rw [hW0]; exact ((New.refl w).alloc _).below)
  have HO0 : Hid (Below W0.heap.size W0 W0) := Lib.hid (Below.refl _ _)
  have Hp0 : Hid (∀ S W, Turn S W0 W → (W.cell? ⟨w.heap.size, 0, none⟩ = some (.int .i64 o.stamp.t) ∧ W.cell? ⟨w.heap.size, 1, none⟩ = some (.int .i64 o.stamp.r) ∧ W.cell? ⟨w.heap.size, 2, none⟩ = some (.int .i64 o.kind) ∧ W.cell? ⟨w.heap.size, 3, none⟩ = some (.int .i64 o.at_.t) ∧ W.cell? ⟨w.heap.size, 4, none⟩ = some (.int .i64 o.at_.r) ∧ W.cell? ⟨w.heap.size, 5, none⟩ = some (.int .i64 o.ino.t) ∧ W.cell? ⟨w.heap.size, 6, none⟩ = some (.int .i64 o.ino.r) ∧ W.cell? ⟨w.heap.size, 7, none⟩ = some (.int .i64 o.to.t) ∧ W.cell? ⟨w.heap.size, 8, none⟩ = some (.int .i64 o.to.r) ∧ W.cell? ⟨w.heap.size, 9, none⟩ = some (.string o.name) ∧ W.cell? ⟨w.heap.size, 10, none⟩ = some (.string o.new) ∧ W.cell? ⟨w.heap.size, 11, none⟩ = some (.int .i64 o.off) ∧ W.cell? ⟨w.heap.size, 12, none⟩ = some (.string o.data) ∧ w.heap.size < W.heap.size)) := Lib.hid (by rw [hW0]; exact fun S W hW => ⟨(hW.cell ⟨_, 0, none⟩ (by simp only [World.size_alloc]; omega)).trans (cell_new w _ rfl _ _ 0 _ rfl), (hW.cell ⟨_, 1, none⟩ (by simp only [World.size_alloc]; omega)).trans (cell_new w _ rfl _ _ 1 _ rfl), (hW.cell ⟨_, 2, none⟩ (by simp only [World.size_alloc]; omega)).trans (cell_new w _ rfl _ _ 2 _ rfl), (hW.cell ⟨_, 3, none⟩ (by simp only [World.size_alloc]; omega)).trans (cell_new w _ rfl _ _ 3 _ rfl), (hW.cell ⟨_, 4, none⟩ (by simp only [World.size_alloc]; omega)).trans (cell_new w _ rfl _ _ 4 _ rfl), (hW.cell ⟨_, 5, none⟩ (by simp only [World.size_alloc]; omega)).trans (cell_new w _ rfl _ _ 5 _ rfl), (hW.cell ⟨_, 6, none⟩ (by simp only [World.size_alloc]; omega)).trans (cell_new w _ rfl _ _ 6 _ rfl), (hW.cell ⟨_, 7, none⟩ (by simp only [World.size_alloc]; omega)).trans (cell_new w _ rfl _ _ 7 _ rfl), (hW.cell ⟨_, 8, none⟩ (by simp only [World.size_alloc]; omega)).trans (cell_new w _ rfl _ _ 8 _ rfl), (hW.cell ⟨_, 9, none⟩ (by simp only [World.size_alloc]; omega)).trans (cell_new w _ rfl _ _ 9 _ rfl), (hW.cell ⟨_, 10, none⟩ (by simp only [World.size_alloc]; omega)).trans (cell_new w _ rfl _ _ 10 _ rfl), (hW.cell ⟨_, 11, none⟩ (by simp only [World.size_alloc]; omega)).trans (cell_new w _ rfl _ _ 11 _ rfl), (hW.cell ⟨_, 12, none⟩ (by simp only [World.size_alloc]; omega)).trans (cell_new w _ rfl _ _ 12 _ rfl), by have := hW.size; simp only [World.size_alloc] at this; omega⟩)
  have HF := Lib.hid (fun W (hW : Below W0.heap.size W0 W) => few_any v l W (hs.below (HW.out.trans (hW.mono HW.out.size))))
  have HMD := Lib.hid (fun (hl : l.length ≤ 1000) W (hW : Below W0.heap.size W0 W) => made_any v l W (hs.below (HW.out.trans (hW.mono HW.out.size))) hn hl)
  obtain ⟨va, vc, rfl⟩ := hs.len
  clear hs hn
  have hok := ran_ok l
  have hth := ran_thin l
  unfold Op.v
  cases hfew : decide (l.length ≤ 100) with
  | false =>
    rw [hfew] at HF
    clear hfew hok hth
    have HT0 : Hid (Turn (fun _ => False) W0 W0) := Lib.hid (Turn.refl _ _)
    obtain ⟨_, _, _, _, _, _, _, _, _, _, _, _, _, _⟩ := Hp0.out _ _ HT0.out
    go_enter Tryz.func7, Tryz.ntmps7
    go_wp2_with fail
    rw [← hW0]
    have HW0 := Lib.hid hW0
    clear hW0
    go_wp2_with fail
    refine (shown_any _).mono ?_
    rintro e w1 ⟨rfl, hb1⟩
    have HO1 : Hid (Below W0.heap.size W0 w1) := Lib.hid (HO0.out.trans (hb1.mono HO0.out.size))
    have HT_1 : Hid (Turn (fun _ => False) W0 w1) := Lib.hid (Below.turn' HO1.out _)
    clear hb1
    obtain ⟨_, _, _, _, _, _, _, _, _, _, _, _, _, _⟩ := Hp0.out _ _ HT_1.out
    go_wp2_with (go_at_call 32; refine (HF.out _ HO1.out).mono ?_; rintro y w' ⟨rfl, rfl⟩)
    go_ret
    exact ⟨rfl, HW.out.trans (HO1.out.mono HW.out.size)⟩
  | true =>
    rw [hfew] at HF
    have HLEN : Hid (l.length ≤ 1000) := Lib.hid (by have := of_decide_eq_true hfew; omega)
    clear hfew
    by_cases hk : o.kind = 5 ∨ o.kind = 6
    · have hkb : (o.kind != 5) = false ∨ ((o.kind != 5) = true ∧ (o.kind != 6) = false) := by rcases hk with hk | hk <;> simp [hk]
      have HSM := Lib.hid h_o
      by_cases hw : (ran l).opWhy o = 0
      · obtain ⟨r1, r2, r3, r4, r5, r6⟩ := (ran_ok l).gone_law hk hw
        have HOK' : Hid ((ran l).apply o).Ok := Lib.hid (hok.apply o)
        have HWH := Lib.hid hw
        have hkk : ((((ran l).got o.ino).kind == 1) == (o.kind == 6)) = true := by
          rcases hk with hk | hk
          · have : ((ran l).got o.ino).kind ≠ 1 := fun e => by have := r3.1 e; omega
            rw [hk, beq_eq_false_iff_ne.2 this]; rfl
          · rw [hk, r3.2 hk]; rfl
        have hle : (((ran l).list o.ino).length : Int) = 0 := by rw [r4]; rfl
        have HLE := Lib.hid r4
        have hcase : (∃ i : Ino, (ran l).got o.ino = i ∧ i.links = 1 ∧ ((ran l).apply o).get o.ino = none) ∨ ∃ i j : Ino, (ran l).got o.ino = i ∧ 1 < i.links ∧ ((ran l).apply o).get o.ino = some j ∧ j.links = i.links - 1 := by
          rcases r6 with ⟨a, b⟩ | ⟨a, b, c⟩
          · exact .inl ⟨_, rfl, a, b⟩
          · obtain ⟨j, hj⟩ := Option.isSome_iff_exists.1 b
            rw [Gr.got_of hj] at c
            exact .inr ⟨_, j, rfl, a, hj, c⟩
        have HLO : Hid (((ran l).apply o).look ⟨o.at_, o.name⟩ = none) := Lib.hid r1
        have HIS := Lib.hid r2
        have hlb : ∀ i : Ino, 1 < i.links → i.links ≤ 6 → IntKind.i64.wrap (i.links - 1) = i.links - 1 := fun i h1 h2 => wrapIn _ (by omega) (by omega)
        have hmx : ((ran l).got o.ino).links ≤ 6 := hok.most _ (hok.got_links r2).2.2
        clear r1 r2 r3 r4 r5 r6 hw hk h_o
        generalize hG' : (ran l).apply o = G' at *
        have HG' := Lib.hid hG'
        clear hG'
        generalize ran l = G at *
        rcases hcase with ⟨i, hi, hl1, hn⟩ | ⟨i, j, hi, hl1, hj, hjl⟩ <;> rcases hkb with hkb | ⟨hkb, hkc⟩
        · rw [hi] at hkk hmx
          have q1 : decide (i.links > 1) = false := by rw [decide_eq_false_iff_not]; omega
          have HI := Lib.hid hi
          have HN := Lib.hid hn
          clear hlb hi hl1 hn hmx
          have HOK : Hid (G.Ok) := Lib.hid hok
          have HTH : Hid (G.Thin) := Lib.hid hth
          clear hok hth
          have HT0 : Hid (Turn (fun _ => False) W0 W0) := Lib.hid (Turn.refl _ _)
          obtain ⟨_, _, _, _, _, _, _, _, _, _, _, _, _, _⟩ := Hp0.out _ _ HT0.out
          go_enter Tryz.func7, Tryz.ntmps7
          go_wp2_with fail
          rw [← hW0]
          have HW0 := Lib.hid hW0
          clear hW0
          go_wp2_with fail
          refine (shown_any _).mono ?_
          rintro e w1 ⟨rfl, hb1⟩
          have HO1 : Hid (Below W0.heap.size W0 w1) := Lib.hid (HO0.out.trans (hb1.mono HO0.out.size))
          have HT_1 : Hid (Turn (fun _ => False) W0 w1) := Lib.hid (Below.turn' HO1.out _)
          clear hb1
          obtain ⟨_, _, _, _, _, _, _, _, _, _, _, _, _, _⟩ := Hp0.out _ _ HT_1.out
          go_wp2_with (go_at_call 32; refine (HF.out _ HO1.out).mono ?_; rintro y w' ⟨rfl, rfl⟩)
          go_wp2_with fail
          refine (HMD.out HLEN.out _ HO1.out).mono ?_
          rintro e w2 ⟨v2, rfl, ⟨gb, mI, mE, rfl, hG2, q1, q2, q3⟩, hb2⟩
          have HO2 : Hid (Below W0.heap.size W0 w2) := Lib.hid (HO1.out.trans (hb2.mono HO1.out.size))
          have HM : Hid (W0.heap.size ≤ mI ∧ W0.heap.size ≤ mE ∧ gb < w2.heap.size ∧ mI < w2.heap.size ∧ mE < w2.heap.size) := Lib.hid ⟨Nat.le_trans HO1.out.size q2, Nat.le_trans HO1.out.size q3, hG2.lt.1, hG2.lt.2.1, hG2.lt.2.2⟩
          have HT_2 : Hid (Turn (Maps2 mI mE) W0 w2) := Lib.hid (Below.turn' HO2.out _)
          have HG_2 : Hid (GrAt w2 gb mI mE G) := Lib.hid hG2
          clear hb2 hG2 q1 q2 q3
          obtain ⟨_, _, _, _, _, _, _, _, _, _, _, _, _, _⟩ := Hp0.out _ _ HT_2.out
          go_wp2_with fail
          refine ((HG_2.out.reads HOK.out (by have := HOK.out.few; omega)).get o.ino i true w2 HI.out HIS.out (Below.refl _ _)).mono ?_
          rintro e w3 ⟨rfl, hb3⟩
          have hst3 : Turn (Maps2 mI mE) w2 w3 := Turn.trans (Turn.refl (Maps2 mI mE) _) (Below.turn' hb3 _)
          have HTp0_3 := Lib.hid (HT_2.out.trans hst3)
          have HG_3 := Lib.hid ((HG_2.out.new (New.refl _)).below hb3)
          have HO3 : Hid (Below W0.heap.size W0 w3) := Lib.hid (Below.trans HO2.out (hb3.mono (by have := HO2.out.size; first | exact this | (simp only [World.size_alloc]; omega))))
          clear hst3 hb3
          obtain ⟨_, _, _, _, _, _, _, _, _, _, _, _, _, _⟩ := Hp0.out _ _ HTp0_3.out
          have Hb1 : Hid (∀ S W, Turn S (w3.alloc (.cells #[.int .i64 i.id.t, .int .i64 i.id.r, .int .i64 i.kind, .int .i64 i.links, .int .i64 i.mode, .string i.data] 62)) W → (W.cell? ⟨w3.heap.size, 0, none⟩ = some (.int .i64 i.id.t) ∧ W.cell? ⟨w3.heap.size, 1, none⟩ = some (.int .i64 i.id.r) ∧ W.cell? ⟨w3.heap.size, 2, none⟩ = some (.int .i64 i.kind) ∧ W.cell? ⟨w3.heap.size, 3, none⟩ = some (.int .i64 i.links) ∧ W.cell? ⟨w3.heap.size, 4, none⟩ = some (.int .i64 i.mode) ∧ W.cell? ⟨w3.heap.size, 5, none⟩ = some (.string i.data) ∧ w3.heap.size < W.heap.size)) := Lib.hid fun S W hW => ⟨(hW.cell ⟨_, 0, none⟩ (by simp)).trans (cell_new _ _ rfl _ _ 0 _ rfl), (hW.cell ⟨_, 1, none⟩ (by simp)).trans (cell_new _ _ rfl _ _ 1 _ rfl), (hW.cell ⟨_, 2, none⟩ (by simp)).trans (cell_new _ _ rfl _ _ 2 _ rfl), (hW.cell ⟨_, 3, none⟩ (by simp)).trans (cell_new _ _ rfl _ _ 3 _ rfl), (hW.cell ⟨_, 4, none⟩ (by simp)).trans (cell_new _ _ rfl _ _ 4 _ rfl), (hW.cell ⟨_, 5, none⟩ (by simp)).trans (cell_new _ _ rfl _ _ 5 _ rfl), by have := hW.size; simp at this; omega⟩
          go_wp2_with fail
          refine ((((HG_3.out.new ((New.refl _).alloc _)).reads HOK.out (by have := HOK.out.few; omega)).list o.ino (w3.alloc (.cells #[.int .i64 i.id.t, .int .i64 i.id.r, .int .i64 i.kind, .int .i64 i.links, .int .i64 i.mode, .string i.data] 62)) (Below.refl _ _))).mono ?_
          rintro e w4 ⟨la, lc, rfl, _, hb4⟩
          have hst4 : Turn (Maps2 mI mE) w3 w4 := Turn.trans ((((New.refl _).alloc _)).turn (Maps2 mI mE)) (Below.turn' hb4 _)
          have HTp0_4 := Lib.hid (HTp0_3.out.trans hst4)
          have HTb1_4 := Lib.hid (Below.turn' hb4 (Maps2 mI mE))
          have HG_4 := Lib.hid ((HG_3.out.new ((New.refl _).alloc _)).below hb4)
          have HO4 : Hid (Below W0.heap.size W0 w4) := Lib.hid (Below.trans (HO3.out.alloc HO3.out.size _) (hb4.mono (by have := HO3.out.size; first | exact this | (simp only [World.size_alloc]; omega))))
          rw [HLE.out]
          clear hst4 hb4
          obtain ⟨_, _, _, _, _, _, _, _, _, _, _, _, _, _⟩ := Hp0.out _ _ HTp0_4.out
          obtain ⟨_, _, _, _, _, _, _⟩ := Hb1.out _ _ HTb1_4.out
          go_wp2_with fail
          refine (apply_any gb mI mE G o w4 HG_4.out HOK.out HTH.out HSM.out).mono ?_
          rintro e w5 ⟨rfl, hG5, hT5⟩
          rw [HWH.out]
          rw [HG'.out] at hG5
          have hst5 : Turn (Maps2 mI mE) w4 w5 := Turn.trans (Turn.refl (Maps2 mI mE) _) hT5
          have HTp0_5 := Lib.hid (HTp0_4.out.trans hst5)
          have HTb1_5 := Lib.hid (HTb1_4.out.trans hst5)
          have HG_5 := Lib.hid hG5
          have HO5 : Hid (Below W0.heap.size W0 w5) := Lib.hid (Below.trans HO4.out (own_below hT5 HM.out.1 HM.out.2.1 (by have := HO4.out.size; first | exact this | (simp only [World.size_alloc]; omega))))
          clear hst5 hT5 hG5
          obtain ⟨_, _, _, _, _, _, _, _, _, _, _, _, _, _⟩ := Hp0.out _ _ HTp0_5.out
          obtain ⟨_, _, _, _, _, _, _⟩ := Hb1.out _ _ HTb1_5.out
          go_wp2_with fail
          refine ((HG_5.out.reads HOK'.out (by have := HOK'.out.few; omega)).get o.ino ⟨⟨0, 0⟩, 0, 0, 0, ⟨#[]⟩⟩ false w5 (by unfold Gr.got; rw [HN.out]; rfl) (by rw [HN.out]; rfl) (Below.refl _ _)).mono ?_
          rintro e w6 ⟨rfl, hb6⟩
          have hst6 : Turn (Maps2 mI mE) w5 w6 := Turn.trans (Turn.refl (Maps2 mI mE) _) (Below.turn' hb6 _)
          have HTp0_6 := Lib.hid (HTp0_5.out.trans hst6)
          have HTb1_6 := Lib.hid (HTb1_5.out.trans hst6)
          have HG_6 := Lib.hid ((HG_5.out.new (New.refl _)).below hb6)
          have HO6 : Hid (Below W0.heap.size W0 w6) := Lib.hid (Below.trans HO5.out (hb6.mono (by have := HO5.out.size; first | exact this | (simp only [World.size_alloc]; omega))))
          clear hst6 hb6
          obtain ⟨_, _, _, _, _, _, _, _, _, _, _, _, _, _⟩ := Hp0.out _ _ HTp0_6.out
          obtain ⟨_, _, _, _, _, _, _⟩ := Hb1.out _ _ HTb1_6.out
          have Hb2 : Hid (∀ S W, Turn S (w6.alloc (.cells #[.int .i64 0, .int .i64 0, .int .i64 0, .int .i64 0, .int .i64 0, .string ⟨#[]⟩] 62)) W → (W.cell? ⟨w6.heap.size, 0, none⟩ = some (.int .i64 0) ∧ W.cell? ⟨w6.heap.size, 1, none⟩ = some (.int .i64 0) ∧ W.cell? ⟨w6.heap.size, 2, none⟩ = some (.int .i64 0) ∧ W.cell? ⟨w6.heap.size, 3, none⟩ = some (.int .i64 0) ∧ W.cell? ⟨w6.heap.size, 4, none⟩ = some (.int .i64 0) ∧ W.cell? ⟨w6.heap.size, 5, none⟩ = some (.string ⟨#[]⟩) ∧ w6.heap.size < W.heap.size)) := Lib.hid fun S W hW => ⟨(hW.cell ⟨_, 0, none⟩ (by simp)).trans (cell_new _ _ rfl _ _ 0 _ rfl), (hW.cell ⟨_, 1, none⟩ (by simp)).trans (cell_new _ _ rfl _ _ 1 _ rfl), (hW.cell ⟨_, 2, none⟩ (by simp)).trans (cell_new _ _ rfl _ _ 2 _ rfl), (hW.cell ⟨_, 3, none⟩ (by simp)).trans (cell_new _ _ rfl _ _ 3 _ rfl), (hW.cell ⟨_, 4, none⟩ (by simp)).trans (cell_new _ _ rfl _ _ 4 _ rfl), (hW.cell ⟨_, 5, none⟩ (by simp)).trans (cell_new _ _ rfl _ _ 5 _ rfl), by have := hW.size; simp at this; omega⟩
          go_wp2_with fail
          refine (((HG_6.out.new ((New.refl _).alloc _)).reads HOK'.out (by have := HOK'.out.few; omega)).look ⟨o.at_, o.name⟩ ⟨0, 0⟩ false (w6.alloc (.cells #[.int .i64 0, .int .i64 0, .int .i64 0, .int .i64 0, .int .i64 0, .string ⟨#[]⟩] 62)) (by rw [HLO.out]; rfl) (by rw [HLO.out]; rfl) (Below.refl _ _)).mono ?_
          rintro e w7 ⟨rfl, hb7⟩
          have hst7 : Turn (Maps2 mI mE) w6 w7 := Turn.trans ((((New.refl _).alloc _)).turn (Maps2 mI mE)) (Below.turn' hb7 _)
          have HTp0_7 := Lib.hid (HTp0_6.out.trans hst7)
          have HTb1_7 := Lib.hid (HTb1_6.out.trans hst7)
          have HTb2_7 := Lib.hid (Below.turn' hb7 (Maps2 mI mE))
          have HG_7 := Lib.hid ((HG_6.out.new ((New.refl _).alloc _)).below hb7)
          have HO7 : Hid (Below W0.heap.size W0 w7) := Lib.hid (Below.trans (HO6.out.alloc HO6.out.size _) (hb7.mono (by have := HO6.out.size; first | exact this | (simp only [World.size_alloc]; omega))))
          clear hst7 hb7
          obtain ⟨_, _, _, _, _, _, _, _, _, _, _, _, _, _⟩ := Hp0.out _ _ HTp0_7.out
          obtain ⟨_, _, _, _, _, _, _⟩ := Hb1.out _ _ HTb1_7.out
          obtain ⟨_, _, _, _, _, _, _⟩ := Hb2.out _ _ HTb2_7.out
          have Hb3 : Hid (∀ S W, Turn S (w7.alloc (.cells #[.int .i64 0, .int .i64 0] 34)) W → (W.cell? ⟨w7.heap.size, 0, none⟩ = some (.int .i64 0) ∧ W.cell? ⟨w7.heap.size, 1, none⟩ = some (.int .i64 0) ∧ w7.heap.size < W.heap.size)) := Lib.hid fun S W hW => ⟨(hW.cell ⟨_, 0, none⟩ (by simp)).trans (cell_new _ _ rfl _ _ 0 _ rfl), (hW.cell ⟨_, 1, none⟩ (by simp)).trans (cell_new _ _ rfl _ _ 1 _ rfl), by have := hW.size; simp at this; omega⟩
          go_wp2
          go_ret
          exact ⟨by simp [*], HW.out.trans ((HO7.out.alloc HO7.out.size _).mono HW.out.size)⟩
        · rw [hi] at hkk hmx
          have q1 : decide (i.links > 1) = false := by rw [decide_eq_false_iff_not]; omega
          have HI := Lib.hid hi
          have HN := Lib.hid hn
          clear hlb hi hl1 hn hmx
          have HOK : Hid (G.Ok) := Lib.hid hok
          have HTH : Hid (G.Thin) := Lib.hid hth
          clear hok hth
          have HT0 : Hid (Turn (fun _ => False) W0 W0) := Lib.hid (Turn.refl _ _)
          obtain ⟨_, _, _, _, _, _, _, _, _, _, _, _, _, _⟩ := Hp0.out _ _ HT0.out
          go_enter Tryz.func7, Tryz.ntmps7
          go_wp2_with fail
          rw [← hW0]
          have HW0 := Lib.hid hW0
          clear hW0
          go_wp2_with fail
          refine (shown_any _).mono ?_
          rintro e w1 ⟨rfl, hb1⟩
          have HO1 : Hid (Below W0.heap.size W0 w1) := Lib.hid (HO0.out.trans (hb1.mono HO0.out.size))
          have HT_1 : Hid (Turn (fun _ => False) W0 w1) := Lib.hid (Below.turn' HO1.out _)
          clear hb1
          obtain ⟨_, _, _, _, _, _, _, _, _, _, _, _, _, _⟩ := Hp0.out _ _ HT_1.out
          go_wp2_with (go_at_call 32; refine (HF.out _ HO1.out).mono ?_; rintro y w' ⟨rfl, rfl⟩)
          go_wp2_with fail
          refine (HMD.out HLEN.out _ HO1.out).mono ?_
          rintro e w2 ⟨v2, rfl, ⟨gb, mI, mE, rfl, hG2, q1, q2, q3⟩, hb2⟩
          have HO2 : Hid (Below W0.heap.size W0 w2) := Lib.hid (HO1.out.trans (hb2.mono HO1.out.size))
          have HM : Hid (W0.heap.size ≤ mI ∧ W0.heap.size ≤ mE ∧ gb < w2.heap.size ∧ mI < w2.heap.size ∧ mE < w2.heap.size) := Lib.hid ⟨Nat.le_trans HO1.out.size q2, Nat.le_trans HO1.out.size q3, hG2.lt.1, hG2.lt.2.1, hG2.lt.2.2⟩
          have HT_2 : Hid (Turn (Maps2 mI mE) W0 w2) := Lib.hid (Below.turn' HO2.out _)
          have HG_2 : Hid (GrAt w2 gb mI mE G) := Lib.hid hG2
          clear hb2 hG2 q1 q2 q3
          obtain ⟨_, _, _, _, _, _, _, _, _, _, _, _, _, _⟩ := Hp0.out _ _ HT_2.out
          go_wp2_with fail
          refine ((HG_2.out.reads HOK.out (by have := HOK.out.few; omega)).get o.ino i true w2 HI.out HIS.out (Below.refl _ _)).mono ?_
          rintro e w3 ⟨rfl, hb3⟩
          have hst3 : Turn (Maps2 mI mE) w2 w3 := Turn.trans (Turn.refl (Maps2 mI mE) _) (Below.turn' hb3 _)
          have HTp0_3 := Lib.hid (HT_2.out.trans hst3)
          have HG_3 := Lib.hid ((HG_2.out.new (New.refl _)).below hb3)
          have HO3 : Hid (Below W0.heap.size W0 w3) := Lib.hid (Below.trans HO2.out (hb3.mono (by have := HO2.out.size; first | exact this | (simp only [World.size_alloc]; omega))))
          clear hst3 hb3
          obtain ⟨_, _, _, _, _, _, _, _, _, _, _, _, _, _⟩ := Hp0.out _ _ HTp0_3.out
          have Hb1 : Hid (∀ S W, Turn S (w3.alloc (.cells #[.int .i64 i.id.t, .int .i64 i.id.r, .int .i64 i.kind, .int .i64 i.links, .int .i64 i.mode, .string i.data] 62)) W → (W.cell? ⟨w3.heap.size, 0, none⟩ = some (.int .i64 i.id.t) ∧ W.cell? ⟨w3.heap.size, 1, none⟩ = some (.int .i64 i.id.r) ∧ W.cell? ⟨w3.heap.size, 2, none⟩ = some (.int .i64 i.kind) ∧ W.cell? ⟨w3.heap.size, 3, none⟩ = some (.int .i64 i.links) ∧ W.cell? ⟨w3.heap.size, 4, none⟩ = some (.int .i64 i.mode) ∧ W.cell? ⟨w3.heap.size, 5, none⟩ = some (.string i.data) ∧ w3.heap.size < W.heap.size)) := Lib.hid fun S W hW => ⟨(hW.cell ⟨_, 0, none⟩ (by simp)).trans (cell_new _ _ rfl _ _ 0 _ rfl), (hW.cell ⟨_, 1, none⟩ (by simp)).trans (cell_new _ _ rfl _ _ 1 _ rfl), (hW.cell ⟨_, 2, none⟩ (by simp)).trans (cell_new _ _ rfl _ _ 2 _ rfl), (hW.cell ⟨_, 3, none⟩ (by simp)).trans (cell_new _ _ rfl _ _ 3 _ rfl), (hW.cell ⟨_, 4, none⟩ (by simp)).trans (cell_new _ _ rfl _ _ 4 _ rfl), (hW.cell ⟨_, 5, none⟩ (by simp)).trans (cell_new _ _ rfl _ _ 5 _ rfl), by have := hW.size; simp at this; omega⟩
          go_wp2_with fail
          refine ((((HG_3.out.new ((New.refl _).alloc _)).reads HOK.out (by have := HOK.out.few; omega)).list o.ino (w3.alloc (.cells #[.int .i64 i.id.t, .int .i64 i.id.r, .int .i64 i.kind, .int .i64 i.links, .int .i64 i.mode, .string i.data] 62)) (Below.refl _ _))).mono ?_
          rintro e w4 ⟨la, lc, rfl, _, hb4⟩
          have hst4 : Turn (Maps2 mI mE) w3 w4 := Turn.trans ((((New.refl _).alloc _)).turn (Maps2 mI mE)) (Below.turn' hb4 _)
          have HTp0_4 := Lib.hid (HTp0_3.out.trans hst4)
          have HTb1_4 := Lib.hid (Below.turn' hb4 (Maps2 mI mE))
          have HG_4 := Lib.hid ((HG_3.out.new ((New.refl _).alloc _)).below hb4)
          have HO4 : Hid (Below W0.heap.size W0 w4) := Lib.hid (Below.trans (HO3.out.alloc HO3.out.size _) (hb4.mono (by have := HO3.out.size; first | exact this | (simp only [World.size_alloc]; omega))))
          rw [HLE.out]
          clear hst4 hb4
          obtain ⟨_, _, _, _, _, _, _, _, _, _, _, _, _, _⟩ := Hp0.out _ _ HTp0_4.out
          obtain ⟨_, _, _, _, _, _, _⟩ := Hb1.out _ _ HTb1_4.out
          go_wp2_with fail
          refine (apply_any gb mI mE G o w4 HG_4.out HOK.out HTH.out HSM.out).mono ?_
          rintro e w5 ⟨rfl, hG5, hT5⟩
          rw [HWH.out]
          rw [HG'.out] at hG5
          have hst5 : Turn (Maps2 mI mE) w4 w5 := Turn.trans (Turn.refl (Maps2 mI mE) _) hT5
          have HTp0_5 := Lib.hid (HTp0_4.out.trans hst5)
          have HTb1_5 := Lib.hid (HTb1_4.out.trans hst5)
          have HG_5 := Lib.hid hG5
          have HO5 : Hid (Below W0.heap.size W0 w5) := Lib.hid (Below.trans HO4.out (own_below hT5 HM.out.1 HM.out.2.1 (by have := HO4.out.size; first | exact this | (simp only [World.size_alloc]; omega))))
          clear hst5 hT5 hG5
          obtain ⟨_, _, _, _, _, _, _, _, _, _, _, _, _, _⟩ := Hp0.out _ _ HTp0_5.out
          obtain ⟨_, _, _, _, _, _, _⟩ := Hb1.out _ _ HTb1_5.out
          go_wp2_with fail
          refine ((HG_5.out.reads HOK'.out (by have := HOK'.out.few; omega)).get o.ino ⟨⟨0, 0⟩, 0, 0, 0, ⟨#[]⟩⟩ false w5 (by unfold Gr.got; rw [HN.out]; rfl) (by rw [HN.out]; rfl) (Below.refl _ _)).mono ?_
          rintro e w6 ⟨rfl, hb6⟩
          have hst6 : Turn (Maps2 mI mE) w5 w6 := Turn.trans (Turn.refl (Maps2 mI mE) _) (Below.turn' hb6 _)
          have HTp0_6 := Lib.hid (HTp0_5.out.trans hst6)
          have HTb1_6 := Lib.hid (HTb1_5.out.trans hst6)
          have HG_6 := Lib.hid ((HG_5.out.new (New.refl _)).below hb6)
          have HO6 : Hid (Below W0.heap.size W0 w6) := Lib.hid (Below.trans HO5.out (hb6.mono (by have := HO5.out.size; first | exact this | (simp only [World.size_alloc]; omega))))
          clear hst6 hb6
          obtain ⟨_, _, _, _, _, _, _, _, _, _, _, _, _, _⟩ := Hp0.out _ _ HTp0_6.out
          obtain ⟨_, _, _, _, _, _, _⟩ := Hb1.out _ _ HTb1_6.out
          have Hb2 : Hid (∀ S W, Turn S (w6.alloc (.cells #[.int .i64 0, .int .i64 0, .int .i64 0, .int .i64 0, .int .i64 0, .string ⟨#[]⟩] 62)) W → (W.cell? ⟨w6.heap.size, 0, none⟩ = some (.int .i64 0) ∧ W.cell? ⟨w6.heap.size, 1, none⟩ = some (.int .i64 0) ∧ W.cell? ⟨w6.heap.size, 2, none⟩ = some (.int .i64 0) ∧ W.cell? ⟨w6.heap.size, 3, none⟩ = some (.int .i64 0) ∧ W.cell? ⟨w6.heap.size, 4, none⟩ = some (.int .i64 0) ∧ W.cell? ⟨w6.heap.size, 5, none⟩ = some (.string ⟨#[]⟩) ∧ w6.heap.size < W.heap.size)) := Lib.hid fun S W hW => ⟨(hW.cell ⟨_, 0, none⟩ (by simp)).trans (cell_new _ _ rfl _ _ 0 _ rfl), (hW.cell ⟨_, 1, none⟩ (by simp)).trans (cell_new _ _ rfl _ _ 1 _ rfl), (hW.cell ⟨_, 2, none⟩ (by simp)).trans (cell_new _ _ rfl _ _ 2 _ rfl), (hW.cell ⟨_, 3, none⟩ (by simp)).trans (cell_new _ _ rfl _ _ 3 _ rfl), (hW.cell ⟨_, 4, none⟩ (by simp)).trans (cell_new _ _ rfl _ _ 4 _ rfl), (hW.cell ⟨_, 5, none⟩ (by simp)).trans (cell_new _ _ rfl _ _ 5 _ rfl), by have := hW.size; simp at this; omega⟩
          go_wp2_with fail
          refine (((HG_6.out.new ((New.refl _).alloc _)).reads HOK'.out (by have := HOK'.out.few; omega)).look ⟨o.at_, o.name⟩ ⟨0, 0⟩ false (w6.alloc (.cells #[.int .i64 0, .int .i64 0, .int .i64 0, .int .i64 0, .int .i64 0, .string ⟨#[]⟩] 62)) (by rw [HLO.out]; rfl) (by rw [HLO.out]; rfl) (Below.refl _ _)).mono ?_
          rintro e w7 ⟨rfl, hb7⟩
          have hst7 : Turn (Maps2 mI mE) w6 w7 := Turn.trans ((((New.refl _).alloc _)).turn (Maps2 mI mE)) (Below.turn' hb7 _)
          have HTp0_7 := Lib.hid (HTp0_6.out.trans hst7)
          have HTb1_7 := Lib.hid (HTb1_6.out.trans hst7)
          have HTb2_7 := Lib.hid (Below.turn' hb7 (Maps2 mI mE))
          have HG_7 := Lib.hid ((HG_6.out.new ((New.refl _).alloc _)).below hb7)
          have HO7 : Hid (Below W0.heap.size W0 w7) := Lib.hid (Below.trans (HO6.out.alloc HO6.out.size _) (hb7.mono (by have := HO6.out.size; first | exact this | (simp only [World.size_alloc]; omega))))
          clear hst7 hb7
          obtain ⟨_, _, _, _, _, _, _, _, _, _, _, _, _, _⟩ := Hp0.out _ _ HTp0_7.out
          obtain ⟨_, _, _, _, _, _, _⟩ := Hb1.out _ _ HTb1_7.out
          obtain ⟨_, _, _, _, _, _, _⟩ := Hb2.out _ _ HTb2_7.out
          have Hb3 : Hid (∀ S W, Turn S (w7.alloc (.cells #[.int .i64 0, .int .i64 0] 34)) W → (W.cell? ⟨w7.heap.size, 0, none⟩ = some (.int .i64 0) ∧ W.cell? ⟨w7.heap.size, 1, none⟩ = some (.int .i64 0) ∧ w7.heap.size < W.heap.size)) := Lib.hid fun S W hW => ⟨(hW.cell ⟨_, 0, none⟩ (by simp)).trans (cell_new _ _ rfl _ _ 0 _ rfl), (hW.cell ⟨_, 1, none⟩ (by simp)).trans (cell_new _ _ rfl _ _ 1 _ rfl), by have := hW.size; simp at this; omega⟩
          go_wp2
          go_ret
          exact ⟨by simp [*], HW.out.trans ((HO7.out.alloc HO7.out.size _).mono HW.out.size)⟩
        · rw [hi] at hkk hmx
          have q1 : decide (i.links > 1) = true := by rw [decide_eq_true_eq]; omega
          have q2 : (j.links == i.links - 1) = true := by rw [hjl]; simp
          have q3 := hlb i hl1 hmx
          have HI := Lib.hid hi
          have HJ := Lib.hid hj
          clear hlb hi hl1 hj hjl hmx
          have HOK : Hid (G.Ok) := Lib.hid hok
          have HTH : Hid (G.Thin) := Lib.hid hth
          clear hok hth
          have HT0 : Hid (Turn (fun _ => False) W0 W0) := Lib.hid (Turn.refl _ _)
          obtain ⟨_, _, _, _, _, _, _, _, _, _, _, _, _, _⟩ := Hp0.out _ _ HT0.out
          go_enter Tryz.func7, Tryz.ntmps7
          go_wp2_with fail
          rw [← hW0]
          have HW0 := Lib.hid hW0
          clear hW0
          go_wp2_with fail
          refine (shown_any _).mono ?_
          rintro e w1 ⟨rfl, hb1⟩
          have HO1 : Hid (Below W0.heap.size W0 w1) := Lib.hid (HO0.out.trans (hb1.mono HO0.out.size))
          have HT_1 : Hid (Turn (fun _ => False) W0 w1) := Lib.hid (Below.turn' HO1.out _)
          clear hb1
          obtain ⟨_, _, _, _, _, _, _, _, _, _, _, _, _, _⟩ := Hp0.out _ _ HT_1.out
          go_wp2_with (go_at_call 32; refine (HF.out _ HO1.out).mono ?_; rintro y w' ⟨rfl, rfl⟩)
          go_wp2_with fail
          refine (HMD.out HLEN.out _ HO1.out).mono ?_
          rintro e w2 ⟨v2, rfl, ⟨gb, mI, mE, rfl, hG2, q1, q2, q3⟩, hb2⟩
          have HO2 : Hid (Below W0.heap.size W0 w2) := Lib.hid (HO1.out.trans (hb2.mono HO1.out.size))
          have HM : Hid (W0.heap.size ≤ mI ∧ W0.heap.size ≤ mE ∧ gb < w2.heap.size ∧ mI < w2.heap.size ∧ mE < w2.heap.size) := Lib.hid ⟨Nat.le_trans HO1.out.size q2, Nat.le_trans HO1.out.size q3, hG2.lt.1, hG2.lt.2.1, hG2.lt.2.2⟩
          have HT_2 : Hid (Turn (Maps2 mI mE) W0 w2) := Lib.hid (Below.turn' HO2.out _)
          have HG_2 : Hid (GrAt w2 gb mI mE G) := Lib.hid hG2
          clear hb2 hG2 q1 q2 q3
          obtain ⟨_, _, _, _, _, _, _, _, _, _, _, _, _, _⟩ := Hp0.out _ _ HT_2.out
          go_wp2_with fail
          refine ((HG_2.out.reads HOK.out (by have := HOK.out.few; omega)).get o.ino i true w2 HI.out HIS.out (Below.refl _ _)).mono ?_
          rintro e w3 ⟨rfl, hb3⟩
          have hst3 : Turn (Maps2 mI mE) w2 w3 := Turn.trans (Turn.refl (Maps2 mI mE) _) (Below.turn' hb3 _)
          have HTp0_3 := Lib.hid (HT_2.out.trans hst3)
          have HG_3 := Lib.hid ((HG_2.out.new (New.refl _)).below hb3)
          have HO3 : Hid (Below W0.heap.size W0 w3) := Lib.hid (Below.trans HO2.out (hb3.mono (by have := HO2.out.size; first | exact this | (simp only [World.size_alloc]; omega))))
          clear hst3 hb3
          obtain ⟨_, _, _, _, _, _, _, _, _, _, _, _, _, _⟩ := Hp0.out _ _ HTp0_3.out
          have Hb1 : Hid (∀ S W, Turn S (w3.alloc (.cells #[.int .i64 i.id.t, .int .i64 i.id.r, .int .i64 i.kind, .int .i64 i.links, .int .i64 i.mode, .string i.data] 62)) W → (W.cell? ⟨w3.heap.size, 0, none⟩ = some (.int .i64 i.id.t) ∧ W.cell? ⟨w3.heap.size, 1, none⟩ = some (.int .i64 i.id.r) ∧ W.cell? ⟨w3.heap.size, 2, none⟩ = some (.int .i64 i.kind) ∧ W.cell? ⟨w3.heap.size, 3, none⟩ = some (.int .i64 i.links) ∧ W.cell? ⟨w3.heap.size, 4, none⟩ = some (.int .i64 i.mode) ∧ W.cell? ⟨w3.heap.size, 5, none⟩ = some (.string i.data) ∧ w3.heap.size < W.heap.size)) := Lib.hid fun S W hW => ⟨(hW.cell ⟨_, 0, none⟩ (by simp)).trans (cell_new _ _ rfl _ _ 0 _ rfl), (hW.cell ⟨_, 1, none⟩ (by simp)).trans (cell_new _ _ rfl _ _ 1 _ rfl), (hW.cell ⟨_, 2, none⟩ (by simp)).trans (cell_new _ _ rfl _ _ 2 _ rfl), (hW.cell ⟨_, 3, none⟩ (by simp)).trans (cell_new _ _ rfl _ _ 3 _ rfl), (hW.cell ⟨_, 4, none⟩ (by simp)).trans (cell_new _ _ rfl _ _ 4 _ rfl), (hW.cell ⟨_, 5, none⟩ (by simp)).trans (cell_new _ _ rfl _ _ 5 _ rfl), by have := hW.size; simp at this; omega⟩
          go_wp2_with fail
          refine ((((HG_3.out.new ((New.refl _).alloc _)).reads HOK.out (by have := HOK.out.few; omega)).list o.ino (w3.alloc (.cells #[.int .i64 i.id.t, .int .i64 i.id.r, .int .i64 i.kind, .int .i64 i.links, .int .i64 i.mode, .string i.data] 62)) (Below.refl _ _))).mono ?_
          rintro e w4 ⟨la, lc, rfl, _, hb4⟩
          have hst4 : Turn (Maps2 mI mE) w3 w4 := Turn.trans ((((New.refl _).alloc _)).turn (Maps2 mI mE)) (Below.turn' hb4 _)
          have HTp0_4 := Lib.hid (HTp0_3.out.trans hst4)
          have HTb1_4 := Lib.hid (Below.turn' hb4 (Maps2 mI mE))
          have HG_4 := Lib.hid ((HG_3.out.new ((New.refl _).alloc _)).below hb4)
          have HO4 : Hid (Below W0.heap.size W0 w4) := Lib.hid (Below.trans (HO3.out.alloc HO3.out.size _) (hb4.mono (by have := HO3.out.size; first | exact this | (simp only [World.size_alloc]; omega))))
          rw [HLE.out]
          clear hst4 hb4
          obtain ⟨_, _, _, _, _, _, _, _, _, _, _, _, _, _⟩ := Hp0.out _ _ HTp0_4.out
          obtain ⟨_, _, _, _, _, _, _⟩ := Hb1.out _ _ HTb1_4.out
          go_wp2_with fail
          refine (apply_any gb mI mE G o w4 HG_4.out HOK.out HTH.out HSM.out).mono ?_
          rintro e w5 ⟨rfl, hG5, hT5⟩
          rw [HWH.out]
          rw [HG'.out] at hG5
          have hst5 : Turn (Maps2 mI mE) w4 w5 := Turn.trans (Turn.refl (Maps2 mI mE) _) hT5
          have HTp0_5 := Lib.hid (HTp0_4.out.trans hst5)
          have HTb1_5 := Lib.hid (HTb1_4.out.trans hst5)
          have HG_5 := Lib.hid hG5
          have HO5 : Hid (Below W0.heap.size W0 w5) := Lib.hid (Below.trans HO4.out (own_below hT5 HM.out.1 HM.out.2.1 (by have := HO4.out.size; first | exact this | (simp only [World.size_alloc]; omega))))
          clear hst5 hT5 hG5
          obtain ⟨_, _, _, _, _, _, _, _, _, _, _, _, _, _⟩ := Hp0.out _ _ HTp0_5.out
          obtain ⟨_, _, _, _, _, _, _⟩ := Hb1.out _ _ HTb1_5.out
          go_wp2_with fail
          refine ((HG_5.out.reads HOK'.out (by have := HOK'.out.few; omega)).get o.ino j true w5 (Gr.got_of HJ.out) (by rw [HJ.out]; rfl) (Below.refl _ _)).mono ?_
          rintro e w6 ⟨rfl, hb6⟩
          have hst6 : Turn (Maps2 mI mE) w5 w6 := Turn.trans (Turn.refl (Maps2 mI mE) _) (Below.turn' hb6 _)
          have HTp0_6 := Lib.hid (HTp0_5.out.trans hst6)
          have HTb1_6 := Lib.hid (HTb1_5.out.trans hst6)
          have HG_6 := Lib.hid ((HG_5.out.new (New.refl _)).below hb6)
          have HO6 : Hid (Below W0.heap.size W0 w6) := Lib.hid (Below.trans HO5.out (hb6.mono (by have := HO5.out.size; first | exact this | (simp only [World.size_alloc]; omega))))
          clear hst6 hb6
          obtain ⟨_, _, _, _, _, _, _, _, _, _, _, _, _, _⟩ := Hp0.out _ _ HTp0_6.out
          obtain ⟨_, _, _, _, _, _, _⟩ := Hb1.out _ _ HTb1_6.out
          have Hb2 : Hid (∀ S W, Turn S (w6.alloc (.cells #[.int .i64 j.id.t, .int .i64 j.id.r, .int .i64 j.kind, .int .i64 j.links, .int .i64 j.mode, .string j.data] 62)) W → (W.cell? ⟨w6.heap.size, 0, none⟩ = some (.int .i64 j.id.t) ∧ W.cell? ⟨w6.heap.size, 1, none⟩ = some (.int .i64 j.id.r) ∧ W.cell? ⟨w6.heap.size, 2, none⟩ = some (.int .i64 j.kind) ∧ W.cell? ⟨w6.heap.size, 3, none⟩ = some (.int .i64 j.links) ∧ W.cell? ⟨w6.heap.size, 4, none⟩ = some (.int .i64 j.mode) ∧ W.cell? ⟨w6.heap.size, 5, none⟩ = some (.string j.data) ∧ w6.heap.size < W.heap.size)) := Lib.hid fun S W hW => ⟨(hW.cell ⟨_, 0, none⟩ (by simp)).trans (cell_new _ _ rfl _ _ 0 _ rfl), (hW.cell ⟨_, 1, none⟩ (by simp)).trans (cell_new _ _ rfl _ _ 1 _ rfl), (hW.cell ⟨_, 2, none⟩ (by simp)).trans (cell_new _ _ rfl _ _ 2 _ rfl), (hW.cell ⟨_, 3, none⟩ (by simp)).trans (cell_new _ _ rfl _ _ 3 _ rfl), (hW.cell ⟨_, 4, none⟩ (by simp)).trans (cell_new _ _ rfl _ _ 4 _ rfl), (hW.cell ⟨_, 5, none⟩ (by simp)).trans (cell_new _ _ rfl _ _ 5 _ rfl), by have := hW.size; simp at this; omega⟩
          go_wp2_with fail
          refine (((HG_6.out.new ((New.refl _).alloc _)).reads HOK'.out (by have := HOK'.out.few; omega)).look ⟨o.at_, o.name⟩ ⟨0, 0⟩ false (w6.alloc (.cells #[.int .i64 j.id.t, .int .i64 j.id.r, .int .i64 j.kind, .int .i64 j.links, .int .i64 j.mode, .string j.data] 62)) (by rw [HLO.out]; rfl) (by rw [HLO.out]; rfl) (Below.refl _ _)).mono ?_
          rintro e w7 ⟨rfl, hb7⟩
          have hst7 : Turn (Maps2 mI mE) w6 w7 := Turn.trans ((((New.refl _).alloc _)).turn (Maps2 mI mE)) (Below.turn' hb7 _)
          have HTp0_7 := Lib.hid (HTp0_6.out.trans hst7)
          have HTb1_7 := Lib.hid (HTb1_6.out.trans hst7)
          have HTb2_7 := Lib.hid (Below.turn' hb7 (Maps2 mI mE))
          have HG_7 := Lib.hid ((HG_6.out.new ((New.refl _).alloc _)).below hb7)
          have HO7 : Hid (Below W0.heap.size W0 w7) := Lib.hid (Below.trans (HO6.out.alloc HO6.out.size _) (hb7.mono (by have := HO6.out.size; first | exact this | (simp only [World.size_alloc]; omega))))
          clear hst7 hb7
          obtain ⟨_, _, _, _, _, _, _, _, _, _, _, _, _, _⟩ := Hp0.out _ _ HTp0_7.out
          obtain ⟨_, _, _, _, _, _, _⟩ := Hb1.out _ _ HTb1_7.out
          obtain ⟨_, _, _, _, _, _, _⟩ := Hb2.out _ _ HTb2_7.out
          have Hb3 : Hid (∀ S W, Turn S (w7.alloc (.cells #[.int .i64 0, .int .i64 0] 34)) W → (W.cell? ⟨w7.heap.size, 0, none⟩ = some (.int .i64 0) ∧ W.cell? ⟨w7.heap.size, 1, none⟩ = some (.int .i64 0) ∧ w7.heap.size < W.heap.size)) := Lib.hid fun S W hW => ⟨(hW.cell ⟨_, 0, none⟩ (by simp)).trans (cell_new _ _ rfl _ _ 0 _ rfl), (hW.cell ⟨_, 1, none⟩ (by simp)).trans (cell_new _ _ rfl _ _ 1 _ rfl), by have := hW.size; simp at this; omega⟩
          go_wp2
          go_ret
          exact ⟨by simp [*], HW.out.trans ((HO7.out.alloc HO7.out.size _).mono HW.out.size)⟩
        · rw [hi] at hkk hmx
          have q1 : decide (i.links > 1) = true := by rw [decide_eq_true_eq]; omega
          have q2 : (j.links == i.links - 1) = true := by rw [hjl]; simp
          have q3 := hlb i hl1 hmx
          have HI := Lib.hid hi
          have HJ := Lib.hid hj
          clear hlb hi hl1 hj hjl hmx
          have HOK : Hid (G.Ok) := Lib.hid hok
          have HTH : Hid (G.Thin) := Lib.hid hth
          clear hok hth
          have HT0 : Hid (Turn (fun _ => False) W0 W0) := Lib.hid (Turn.refl _ _)
          obtain ⟨_, _, _, _, _, _, _, _, _, _, _, _, _, _⟩ := Hp0.out _ _ HT0.out
          go_enter Tryz.func7, Tryz.ntmps7
          go_wp2_with fail
          rw [← hW0]
          have HW0 := Lib.hid hW0
          clear hW0
          go_wp2_with fail
          refine (shown_any _).mono ?_
          rintro e w1 ⟨rfl, hb1⟩
          have HO1 : Hid (Below W0.heap.size W0 w1) := Lib.hid (HO0.out.trans (hb1.mono HO0.out.size))
          have HT_1 : Hid (Turn (fun _ => False) W0 w1) := Lib.hid (Below.turn' HO1.out _)
          clear hb1
          obtain ⟨_, _, _, _, _, _, _, _, _, _, _, _, _, _⟩ := Hp0.out _ _ HT_1.out
          go_wp2_with (go_at_call 32; refine (HF.out _ HO1.out).mono ?_; rintro y w' ⟨rfl, rfl⟩)
          go_wp2_with fail
          refine (HMD.out HLEN.out _ HO1.out).mono ?_
          rintro e w2 ⟨v2, rfl, ⟨gb, mI, mE, rfl, hG2, q1, q2, q3⟩, hb2⟩
          have HO2 : Hid (Below W0.heap.size W0 w2) := Lib.hid (HO1.out.trans (hb2.mono HO1.out.size))
          have HM : Hid (W0.heap.size ≤ mI ∧ W0.heap.size ≤ mE ∧ gb < w2.heap.size ∧ mI < w2.heap.size ∧ mE < w2.heap.size) := Lib.hid ⟨Nat.le_trans HO1.out.size q2, Nat.le_trans HO1.out.size q3, hG2.lt.1, hG2.lt.2.1, hG2.lt.2.2⟩
          have HT_2 : Hid (Turn (Maps2 mI mE) W0 w2) := Lib.hid (Below.turn' HO2.out _)
          have HG_2 : Hid (GrAt w2 gb mI mE G) := Lib.hid hG2
          clear hb2 hG2 q1 q2 q3
          obtain ⟨_, _, _, _, _, _, _, _, _, _, _, _, _, _⟩ := Hp0.out _ _ HT_2.out
          go_wp2_with fail
          refine ((HG_2.out.reads HOK.out (by have := HOK.out.few; omega)).get o.ino i true w2 HI.out HIS.out (Below.refl _ _)).mono ?_
          rintro e w3 ⟨rfl, hb3⟩
          have hst3 : Turn (Maps2 mI mE) w2 w3 := Turn.trans (Turn.refl (Maps2 mI mE) _) (Below.turn' hb3 _)
          have HTp0_3 := Lib.hid (HT_2.out.trans hst3)
          have HG_3 := Lib.hid ((HG_2.out.new (New.refl _)).below hb3)
          have HO3 : Hid (Below W0.heap.size W0 w3) := Lib.hid (Below.trans HO2.out (hb3.mono (by have := HO2.out.size; first | exact this | (simp only [World.size_alloc]; omega))))
          clear hst3 hb3
          obtain ⟨_, _, _, _, _, _, _, _, _, _, _, _, _, _⟩ := Hp0.out _ _ HTp0_3.out
          have Hb1 : Hid (∀ S W, Turn S (w3.alloc (.cells #[.int .i64 i.id.t, .int .i64 i.id.r, .int .i64 i.kind, .int .i64 i.links, .int .i64 i.mode, .string i.data] 62)) W → (W.cell? ⟨w3.heap.size, 0, none⟩ = some (.int .i64 i.id.t) ∧ W.cell? ⟨w3.heap.size, 1, none⟩ = some (.int .i64 i.id.r) ∧ W.cell? ⟨w3.heap.size, 2, none⟩ = some (.int .i64 i.kind) ∧ W.cell? ⟨w3.heap.size, 3, none⟩ = some (.int .i64 i.links) ∧ W.cell? ⟨w3.heap.size, 4, none⟩ = some (.int .i64 i.mode) ∧ W.cell? ⟨w3.heap.size, 5, none⟩ = some (.string i.data) ∧ w3.heap.size < W.heap.size)) := Lib.hid fun S W hW => ⟨(hW.cell ⟨_, 0, none⟩ (by simp)).trans (cell_new _ _ rfl _ _ 0 _ rfl), (hW.cell ⟨_, 1, none⟩ (by simp)).trans (cell_new _ _ rfl _ _ 1 _ rfl), (hW.cell ⟨_, 2, none⟩ (by simp)).trans (cell_new _ _ rfl _ _ 2 _ rfl), (hW.cell ⟨_, 3, none⟩ (by simp)).trans (cell_new _ _ rfl _ _ 3 _ rfl), (hW.cell ⟨_, 4, none⟩ (by simp)).trans (cell_new _ _ rfl _ _ 4 _ rfl), (hW.cell ⟨_, 5, none⟩ (by simp)).trans (cell_new _ _ rfl _ _ 5 _ rfl), by have := hW.size; simp at this; omega⟩
          go_wp2_with fail
          refine ((((HG_3.out.new ((New.refl _).alloc _)).reads HOK.out (by have := HOK.out.few; omega)).list o.ino (w3.alloc (.cells #[.int .i64 i.id.t, .int .i64 i.id.r, .int .i64 i.kind, .int .i64 i.links, .int .i64 i.mode, .string i.data] 62)) (Below.refl _ _))).mono ?_
          rintro e w4 ⟨la, lc, rfl, _, hb4⟩
          have hst4 : Turn (Maps2 mI mE) w3 w4 := Turn.trans ((((New.refl _).alloc _)).turn (Maps2 mI mE)) (Below.turn' hb4 _)
          have HTp0_4 := Lib.hid (HTp0_3.out.trans hst4)
          have HTb1_4 := Lib.hid (Below.turn' hb4 (Maps2 mI mE))
          have HG_4 := Lib.hid ((HG_3.out.new ((New.refl _).alloc _)).below hb4)
          have HO4 : Hid (Below W0.heap.size W0 w4) := Lib.hid (Below.trans (HO3.out.alloc HO3.out.size _) (hb4.mono (by have := HO3.out.size; first | exact this | (simp only [World.size_alloc]; omega))))
          rw [HLE.out]
          clear hst4 hb4
          obtain ⟨_, _, _, _, _, _, _, _, _, _, _, _, _, _⟩ := Hp0.out _ _ HTp0_4.out
          obtain ⟨_, _, _, _, _, _, _⟩ := Hb1.out _ _ HTb1_4.out
          go_wp2_with fail
          refine (apply_any gb mI mE G o w4 HG_4.out HOK.out HTH.out HSM.out).mono ?_
          rintro e w5 ⟨rfl, hG5, hT5⟩
          rw [HWH.out]
          rw [HG'.out] at hG5
          have hst5 : Turn (Maps2 mI mE) w4 w5 := Turn.trans (Turn.refl (Maps2 mI mE) _) hT5
          have HTp0_5 := Lib.hid (HTp0_4.out.trans hst5)
          have HTb1_5 := Lib.hid (HTb1_4.out.trans hst5)
          have HG_5 := Lib.hid hG5
          have HO5 : Hid (Below W0.heap.size W0 w5) := Lib.hid (Below.trans HO4.out (own_below hT5 HM.out.1 HM.out.2.1 (by have := HO4.out.size; first | exact this | (simp only [World.size_alloc]; omega))))
          clear hst5 hT5 hG5
          obtain ⟨_, _, _, _, _, _, _, _, _, _, _, _, _, _⟩ := Hp0.out _ _ HTp0_5.out
          obtain ⟨_, _, _, _, _, _, _⟩ := Hb1.out _ _ HTb1_5.out
          go_wp2_with fail
          refine ((HG_5.out.reads HOK'.out (by have := HOK'.out.few; omega)).get o.ino j true w5 (Gr.got_of HJ.out) (by rw [HJ.out]; rfl) (Below.refl _ _)).mono ?_
          rintro e w6 ⟨rfl, hb6⟩
          have hst6 : Turn (Maps2 mI mE) w5 w6 := Turn.trans (Turn.refl (Maps2 mI mE) _) (Below.turn' hb6 _)
          have HTp0_6 := Lib.hid (HTp0_5.out.trans hst6)
          have HTb1_6 := Lib.hid (HTb1_5.out.trans hst6)
          have HG_6 := Lib.hid ((HG_5.out.new (New.refl _)).below hb6)
          have HO6 : Hid (Below W0.heap.size W0 w6) := Lib.hid (Below.trans HO5.out (hb6.mono (by have := HO5.out.size; first | exact this | (simp only [World.size_alloc]; omega))))
          clear hst6 hb6
          obtain ⟨_, _, _, _, _, _, _, _, _, _, _, _, _, _⟩ := Hp0.out _ _ HTp0_6.out
          obtain ⟨_, _, _, _, _, _, _⟩ := Hb1.out _ _ HTb1_6.out
          have Hb2 : Hid (∀ S W, Turn S (w6.alloc (.cells #[.int .i64 j.id.t, .int .i64 j.id.r, .int .i64 j.kind, .int .i64 j.links, .int .i64 j.mode, .string j.data] 62)) W → (W.cell? ⟨w6.heap.size, 0, none⟩ = some (.int .i64 j.id.t) ∧ W.cell? ⟨w6.heap.size, 1, none⟩ = some (.int .i64 j.id.r) ∧ W.cell? ⟨w6.heap.size, 2, none⟩ = some (.int .i64 j.kind) ∧ W.cell? ⟨w6.heap.size, 3, none⟩ = some (.int .i64 j.links) ∧ W.cell? ⟨w6.heap.size, 4, none⟩ = some (.int .i64 j.mode) ∧ W.cell? ⟨w6.heap.size, 5, none⟩ = some (.string j.data) ∧ w6.heap.size < W.heap.size)) := Lib.hid fun S W hW => ⟨(hW.cell ⟨_, 0, none⟩ (by simp)).trans (cell_new _ _ rfl _ _ 0 _ rfl), (hW.cell ⟨_, 1, none⟩ (by simp)).trans (cell_new _ _ rfl _ _ 1 _ rfl), (hW.cell ⟨_, 2, none⟩ (by simp)).trans (cell_new _ _ rfl _ _ 2 _ rfl), (hW.cell ⟨_, 3, none⟩ (by simp)).trans (cell_new _ _ rfl _ _ 3 _ rfl), (hW.cell ⟨_, 4, none⟩ (by simp)).trans (cell_new _ _ rfl _ _ 4 _ rfl), (hW.cell ⟨_, 5, none⟩ (by simp)).trans (cell_new _ _ rfl _ _ 5 _ rfl), by have := hW.size; simp at this; omega⟩
          go_wp2_with fail
          refine (((HG_6.out.new ((New.refl _).alloc _)).reads HOK'.out (by have := HOK'.out.few; omega)).look ⟨o.at_, o.name⟩ ⟨0, 0⟩ false (w6.alloc (.cells #[.int .i64 j.id.t, .int .i64 j.id.r, .int .i64 j.kind, .int .i64 j.links, .int .i64 j.mode, .string j.data] 62)) (by rw [HLO.out]; rfl) (by rw [HLO.out]; rfl) (Below.refl _ _)).mono ?_
          rintro e w7 ⟨rfl, hb7⟩
          have hst7 : Turn (Maps2 mI mE) w6 w7 := Turn.trans ((((New.refl _).alloc _)).turn (Maps2 mI mE)) (Below.turn' hb7 _)
          have HTp0_7 := Lib.hid (HTp0_6.out.trans hst7)
          have HTb1_7 := Lib.hid (HTb1_6.out.trans hst7)
          have HTb2_7 := Lib.hid (Below.turn' hb7 (Maps2 mI mE))
          have HG_7 := Lib.hid ((HG_6.out.new ((New.refl _).alloc _)).below hb7)
          have HO7 : Hid (Below W0.heap.size W0 w7) := Lib.hid (Below.trans (HO6.out.alloc HO6.out.size _) (hb7.mono (by have := HO6.out.size; first | exact this | (simp only [World.size_alloc]; omega))))
          clear hst7 hb7
          obtain ⟨_, _, _, _, _, _, _, _, _, _, _, _, _, _⟩ := Hp0.out _ _ HTp0_7.out
          obtain ⟨_, _, _, _, _, _, _⟩ := Hb1.out _ _ HTb1_7.out
          obtain ⟨_, _, _, _, _, _, _⟩ := Hb2.out _ _ HTb2_7.out
          have Hb3 : Hid (∀ S W, Turn S (w7.alloc (.cells #[.int .i64 0, .int .i64 0] 34)) W → (W.cell? ⟨w7.heap.size, 0, none⟩ = some (.int .i64 0) ∧ W.cell? ⟨w7.heap.size, 1, none⟩ = some (.int .i64 0) ∧ w7.heap.size < W.heap.size)) := Lib.hid fun S W hW => ⟨(hW.cell ⟨_, 0, none⟩ (by simp)).trans (cell_new _ _ rfl _ _ 0 _ rfl), (hW.cell ⟨_, 1, none⟩ (by simp)).trans (cell_new _ _ rfl _ _ 1 _ rfl), by have := hW.size; simp at this; omega⟩
          go_wp2
          go_ret
          exact ⟨by simp [*], HW.out.trans ((HO7.out.alloc HO7.out.size _).mono HW.out.size)⟩
      · have HWB : Hid ((ran l).opWhy o ≠ 0) := Lib.hid hw
        have hwb : ((ran l).opWhy o != 0) = true := by simpa using hw
        clear hw hk h_o
        obtain ⟨r, hr⟩ : ∃ r, r = (ran l).opWhy o := ⟨_, rfl⟩
        have HR := Lib.hid hr
        rw [← hr] at hwb
        clear hr
        generalize ran l = G at *
        rcases hkb with hkb | ⟨hkb, hkc⟩
        all_goals
          have HOK : Hid (G.Ok) := Lib.hid hok
          have HTH : Hid (G.Thin) := Lib.hid hth
          clear hok hth
          have HT0 : Hid (Turn (fun _ => False) W0 W0) := Lib.hid (Turn.refl _ _)
          obtain ⟨_, _, _, _, _, _, _, _, _, _, _, _, _, _⟩ := Hp0.out _ _ HT0.out
          go_enter Tryz.func7, Tryz.ntmps7
          go_wp2_with fail
          rw [← hW0]
          have HW0 := Lib.hid hW0
          clear hW0
          go_wp2_with fail
          refine (shown_any _).mono ?_
          rintro e w1 ⟨rfl, hb1⟩
          have HO1 : Hid (Below W0.heap.size W0 w1) := Lib.hid (HO0.out.trans (hb1.mono HO0.out.size))
          have HT_1 : Hid (Turn (fun _ => False) W0 w1) := Lib.hid (Below.turn' HO1.out _)
          clear hb1
          obtain ⟨_, _, _, _, _, _, _, _, _, _, _, _, _, _⟩ := Hp0.out _ _ HT_1.out
          go_wp2_with (go_at_call 32; refine (HF.out _ HO1.out).mono ?_; rintro y w' ⟨rfl, rfl⟩)
          go_wp2_with fail
          refine (HMD.out HLEN.out _ HO1.out).mono ?_
          rintro e w2 ⟨v2, rfl, ⟨gb, mI, mE, rfl, hG2, q1, q2, q3⟩, hb2⟩
          have HO2 : Hid (Below W0.heap.size W0 w2) := Lib.hid (HO1.out.trans (hb2.mono HO1.out.size))
          have HM : Hid (W0.heap.size ≤ mI ∧ W0.heap.size ≤ mE ∧ gb < w2.heap.size ∧ mI < w2.heap.size ∧ mE < w2.heap.size) := Lib.hid ⟨Nat.le_trans HO1.out.size q2, Nat.le_trans HO1.out.size q3, hG2.lt.1, hG2.lt.2.1, hG2.lt.2.2⟩
          have HT_2 : Hid (Turn (Maps2 mI mE) W0 w2) := Lib.hid (Below.turn' HO2.out _)
          have HG_2 : Hid (GrAt w2 gb mI mE G) := Lib.hid hG2
          clear hb2 hG2 q1 q2 q3
          obtain ⟨_, _, _, _, _, _, _, _, _, _, _, _, _, _⟩ := Hp0.out _ _ HT_2.out
          have HIG : Hid (∀ W, GrAt W gb mI mE G → Calls Tryz.prog 40 #[.pointer (some ⟨gb, 0, none⟩), (.agg #[.int .i64 o.ino.t, .int .i64 o.ino.r])] W fun x w' => ∃ (i : Ino) (b : Bool), x = .returned (.tuple #[(.agg #[.int .i64 i.id.t, .int .i64 i.id.r, .int .i64 i.kind, .int .i64 i.links, .int .i64 i.mode, .string i.data]), .bool b]) ∧ Below W.heap.size W w') := Lib.hid fun W hW => ((hW.reads HOK.out (by have := HOK.out.few; omega)).get o.ino _ _ W rfl rfl (Below.refl _ _)).mono fun x w' ⟨a, c⟩ => ⟨_, _, a, c⟩
          go_wp2_with fail
          refine (HIG.out w2 HG_2.out).mono ?_
          rintro e w3 ⟨i, b, rfl, hb3⟩
          have hst3 : Turn (Maps2 mI mE) w2 w3 := Turn.trans (Turn.refl (Maps2 mI mE) _) (Below.turn' hb3 _)
          have HTp0_3 := Lib.hid (HT_2.out.trans hst3)
          have HG_3 := Lib.hid ((HG_2.out.new (New.refl _)).below hb3)
          have HO3 : Hid (Below W0.heap.size W0 w3) := Lib.hid (Below.trans HO2.out (hb3.mono (by have := HO2.out.size; first | exact this | (simp only [World.size_alloc]; omega))))
          clear hst3 hb3
          obtain ⟨_, _, _, _, _, _, _, _, _, _, _, _, _, _⟩ := Hp0.out _ _ HTp0_3.out
          have Hb1 : Hid (∀ S W, Turn S (w3.alloc (.cells #[.int .i64 i.id.t, .int .i64 i.id.r, .int .i64 i.kind, .int .i64 i.links, .int .i64 i.mode, .string i.data] 62)) W → (W.cell? ⟨w3.heap.size, 0, none⟩ = some (.int .i64 i.id.t) ∧ W.cell? ⟨w3.heap.size, 1, none⟩ = some (.int .i64 i.id.r) ∧ W.cell? ⟨w3.heap.size, 2, none⟩ = some (.int .i64 i.kind) ∧ W.cell? ⟨w3.heap.size, 3, none⟩ = some (.int .i64 i.links) ∧ W.cell? ⟨w3.heap.size, 4, none⟩ = some (.int .i64 i.mode) ∧ W.cell? ⟨w3.heap.size, 5, none⟩ = some (.string i.data) ∧ w3.heap.size < W.heap.size)) := Lib.hid fun S W hW => ⟨(hW.cell ⟨_, 0, none⟩ (by simp)).trans (cell_new _ _ rfl _ _ 0 _ rfl), (hW.cell ⟨_, 1, none⟩ (by simp)).trans (cell_new _ _ rfl _ _ 1 _ rfl), (hW.cell ⟨_, 2, none⟩ (by simp)).trans (cell_new _ _ rfl _ _ 2 _ rfl), (hW.cell ⟨_, 3, none⟩ (by simp)).trans (cell_new _ _ rfl _ _ 3 _ rfl), (hW.cell ⟨_, 4, none⟩ (by simp)).trans (cell_new _ _ rfl _ _ 4 _ rfl), (hW.cell ⟨_, 5, none⟩ (by simp)).trans (cell_new _ _ rfl _ _ 5 _ rfl), by have := hW.size; simp at this; omega⟩
          go_wp2_with fail
          refine ((((HG_3.out.new ((New.refl _).alloc _)).reads HOK.out (by have := HOK.out.few; omega)).list o.ino (w3.alloc (.cells #[.int .i64 i.id.t, .int .i64 i.id.r, .int .i64 i.kind, .int .i64 i.links, .int .i64 i.mode, .string i.data] 62)) (Below.refl _ _))).mono ?_
          rintro e w4 ⟨la, lc, rfl, _, hb4⟩
          have hst4 : Turn (Maps2 mI mE) w3 w4 := Turn.trans ((((New.refl _).alloc _)).turn (Maps2 mI mE)) (Below.turn' hb4 _)
          have HTp0_4 := Lib.hid (HTp0_3.out.trans hst4)
          have HTb1_4 := Lib.hid (Below.turn' hb4 (Maps2 mI mE))
          have HG_4 := Lib.hid ((HG_3.out.new ((New.refl _).alloc _)).below hb4)
          have HO4 : Hid (Below W0.heap.size W0 w4) := Lib.hid (Below.trans (HO3.out.alloc HO3.out.size _) (hb4.mono (by have := HO3.out.size; first | exact this | (simp only [World.size_alloc]; omega))))
          generalize (G.list o.ino).length = nl
          clear hst4 hb4
          obtain ⟨_, _, _, _, _, _, _, _, _, _, _, _, _, _⟩ := Hp0.out _ _ HTp0_4.out
          obtain ⟨_, _, _, _, _, _, _⟩ := Hb1.out _ _ HTb1_4.out
          go_wp2_with fail
          refine (apply_any gb mI mE G o w4 HG_4.out HOK.out HTH.out HSM.out).mono ?_
          rintro e w5 ⟨rfl, hG5, hT5⟩
          rw [← HR.out]
          have hst5 : Turn (Maps2 mI mE) w4 w5 := Turn.trans (Turn.refl (Maps2 mI mE) _) hT5
          have HTp0_5 := Lib.hid (HTp0_4.out.trans hst5)
          have HTb1_5 := Lib.hid (HTb1_4.out.trans hst5)
          have HG_5 := Lib.hid hG5
          have HO5 : Hid (Below W0.heap.size W0 w5) := Lib.hid (Below.trans HO4.out (own_below hT5 HM.out.1 HM.out.2.1 (by have := HO4.out.size; first | exact this | (simp only [World.size_alloc]; omega))))
          clear hst5 hT5 hG5
          obtain ⟨_, _, _, _, _, _, _, _, _, _, _, _, _, _⟩ := Hp0.out _ _ HTp0_5.out
          obtain ⟨_, _, _, _, _, _, _⟩ := Hb1.out _ _ HTb1_5.out
          go_wp2
          go_ret
          exact ⟨rfl, HW.out.trans (HO5.out.mono HW.out.size)⟩
    · have hk5 : (o.kind != 5) = true := by simp; omega
      have hk6 : (o.kind != 6) = true := by simp; omega
      clear hk hok hth h_o
      have HT0 : Hid (Turn (fun _ => False) W0 W0) := Lib.hid (Turn.refl _ _)
      obtain ⟨_, _, _, _, _, _, _, _, _, _, _, _, _, _⟩ := Hp0.out _ _ HT0.out
      go_enter Tryz.func7, Tryz.ntmps7
      go_wp2_with fail
      rw [← hW0]
      have HW0 := Lib.hid hW0
      clear hW0
      go_wp2_with fail
      refine (shown_any _).mono ?_
      rintro e w1 ⟨rfl, hb1⟩
      have HO1 : Hid (Below W0.heap.size W0 w1) := Lib.hid (HO0.out.trans (hb1.mono HO0.out.size))
      have HT_1 : Hid (Turn (fun _ => False) W0 w1) := Lib.hid (Below.turn' HO1.out _)
      clear hb1
      obtain ⟨_, _, _, _, _, _, _, _, _, _, _, _, _, _⟩ := Hp0.out _ _ HT_1.out
      go_wp2_with (go_at_call 32; refine (HF.out _ HO1.out).mono ?_; rintro y w' ⟨rfl, rfl⟩)
      go_ret
      exact ⟨rfl, HW.out.trans (HO1.out.mono HW.out.size)⟩
end Go.Proofs.YtmnkaohhjhjciaaGreat.L11
