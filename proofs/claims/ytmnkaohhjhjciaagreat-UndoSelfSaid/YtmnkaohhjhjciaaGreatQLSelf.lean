/-
  thimblelaw12.UndoSelf: a graph and itself have no unlike things; no condition but the texts' reach.
-/
import Derived.Test.YtmnkaohhjhjciaaGreatKLC
namespace Go.Proofs.YtmnkaohhjhjciaaGreat.L12
open Go.RowKit Go.Shelf Go.Proofs

set_option maxRecDepth 100000 in
set_option maxHeartbeats 8000000 in
theorem self_walk (v1 : Value) (l : List Op) (v2 : Value) (k : List Op) (w : World) (hs1 : SlAt w 13 Op.cells v1 l) (hn1 : ∀ o ∈ l, o.Small) (hs2 : SlAt w 13 Op.cells v2 k) (hn2 : ∀ o ∈ k, o.Small) :
    Calls Tryz.prog 15 #[v1, v2] w fun y w' => y = .returned (.bool true) ∧ Below w.heap.size w w' := by
  have HB0 : Hid (Below w.heap.size w w) := Lib.hid (Below.refl _ _)
  have HF1 := Lib.hid (fun W (hW : Below w.heap.size w W) => few_any v1 l W (hs1.below hW))
  have HF2 := Lib.hid (fun W (hW : Below w.heap.size w W) => few_any v2 k W (hs2.below hW))
  have HM1 := Lib.hid (fun (hl : l.length ≤ 1000) W (hW : Below w.heap.size w W) => made_any v1 l W (hs1.below hW) hn1 hl)
  have HM2 := Lib.hid (fun (hl : k.length ≤ 1000) W (hW : Below w.heap.size w W) => made_any v2 k W (hs2.below hW) hn2 hl)
  obtain ⟨a1, c1, rfl⟩ := hs1.len
  obtain ⟨a2, c2, rfl⟩ := hs2.len
  clear hs1 hs2 hn1 hn2
  cases hf1 : decide (l.length ≤ 60) with
  | false =>
    rw [hf1] at HF1
    clear hf1
    go_enter Tryz.func15, Tryz.ntmps15
    go_wp2_with fail
    refine (shown_any _).mono ?_
    rintro e w1 ⟨rfl, hb1⟩
    obtain ⟨hc1, hf1⟩ := bcell hb1
    have hs1 := hb1.size
    try simp only [World.size_alloc] at hs1
    try simp only [size_setCell'] at hs1
    try have le1_0 : w.heap.size ≤ w1.heap.size := (by omega)
    try have lt1_0 : w.heap.size < w1.heap.size := (by omega)
    have HB1 : Hid (Below w.heap.size w w1) := Lib.hid (Below.trans (by first | exact HB0.out | exact HB0.out.alloc HB0.out.size _ | exact (HB0.out.alloc HB0.out.size _).alloc (le_al HB0.out.size) _ | exact ((HB0.out.alloc HB0.out.size _).alloc (le_al HB0.out.size) _).alloc (le_al (le_al HB0.out.size)) _) (hb1.mono (by (try simp only [World.size_alloc]); (try simp only [size_setCell']); omega)))
    have HN1 := Lib.hid hb1
    clear hb1 hs1
    go_wp2_with (go_at_call 50; refine (HF1.out _ HB1.out).mono ?_; rintro y w' ⟨rfl, rfl⟩)
    go_ret
    exact ⟨rfl, HB1.out⟩
  | true =>
    rw [hf1] at HF1
    have HL1 : Hid (l.length ≤ 1000) := Lib.hid (by have := of_decide_eq_true hf1; omega)
    clear hf1
    cases hf2 : decide (k.length ≤ 60) with
    | false =>
      rw [hf2] at HF2
      clear hf2
      go_enter Tryz.func15, Tryz.ntmps15
      go_wp2_with fail
      refine (shown_any _).mono ?_
      rintro e w1 ⟨rfl, hb1⟩
      obtain ⟨hc1, hf1⟩ := bcell hb1
      have hs1 := hb1.size
      try simp only [World.size_alloc] at hs1
      try simp only [size_setCell'] at hs1
      try have le1_0 : w.heap.size ≤ w1.heap.size := (by omega)
      try have lt1_0 : w.heap.size < w1.heap.size := (by omega)
      have HB1 : Hid (Below w.heap.size w w1) := Lib.hid (Below.trans (by first | exact HB0.out | exact HB0.out.alloc HB0.out.size _ | exact (HB0.out.alloc HB0.out.size _).alloc (le_al HB0.out.size) _ | exact ((HB0.out.alloc HB0.out.size _).alloc (le_al HB0.out.size) _).alloc (le_al (le_al HB0.out.size)) _) (hb1.mono (by (try simp only [World.size_alloc]); (try simp only [size_setCell']); omega)))
      have HN1 := Lib.hid hb1
      clear hb1 hs1
      go_wp2_with (go_at_call 50; first | (refine (HF1.out _ HB1.out).mono ?_; rintro y w' ⟨rfl, rfl⟩) | (refine (HF2.out _ HB1.out).mono ?_; rintro y w' ⟨rfl, rfl⟩))
      go_ret
      exact ⟨rfl, HB1.out⟩
    | true =>
      rw [hf2] at HF2
      have HL2 : Hid (k.length ≤ 1000) := Lib.hid (by have := of_decide_eq_true hf2; omega)
      clear hf2
      have HOA : Hid ((ran l).Ok) := Lib.hid (ran_ok l)
      have HOB : Hid ((ran k).Ok) := Lib.hid (ran_ok k)
      have e1 : (((lostOf (ran l) (ran l)).length : Int) == 0) = true := by rw [lost_self]; rfl
      have e2 : (((wasOf (ran l) (ran l)).length : Int) == 0) = true := by rw [was_self (ran_ok l)]; rfl
      have e3 : (((newOf (ran l) (ran l)).length : Int) == 0) = true := by rw [new_self]; rfl
      have e4 : decide (((newOf (ran l) (ran k)).length : Int) ≤ ((wasOf (ran k) (ran l)).length : Int)) = true := by rw [decide_eq_true_eq]; exact Int.ofNat_le.2 (new_le_was _ _)
      have e5 : decide (((newOf (ran k) (ran l)).length : Int) ≤ ((wasOf (ran l) (ran k)).length : Int)) = true := by rw [decide_eq_true_eq]; exact Int.ofNat_le.2 (new_le_was _ _)
      have HLE : Hid ((lostOf (ran l) (ran k)).length ≤ 100000 ∧ (lostOf (ran k) (ran l)).length ≤ 100000) := Lib.hid ⟨by have := (diff_small (ran_ok l) (ran_ok k)).1.1; have e : (diffOf (ran l) (ran k)).lost = lostOf (ran l) (ran k) := rfl; rw [e] at this; omega, by have := (diff_small (ran_ok k) (ran_ok l)).1.1; have e : (diffOf (ran k) (ran l)).lost = lostOf (ran k) (ran l) := rfl; rw [e] at this; omega⟩
      have e6 : decide ((newOf (ran l) (ran k)).length ≤ (wasOf (ran k) (ran l)).length) = true := by rw [decide_eq_true_eq]; exact new_le_was _ _
      have e7 : decide ((newOf (ran k) (ran l)).length ≤ (wasOf (ran l) (ran k)).length) = true := by rw [decide_eq_true_eq]; exact new_le_was _ _
      generalize ran l = A at *
      generalize ran k = B at *
      go_enter Tryz.func15, Tryz.ntmps15
      go_wp2_with fail
      refine (shown_any _).mono ?_
      rintro e w1 ⟨rfl, hb1⟩
      obtain ⟨hc1, hf1⟩ := bcell hb1
      have hs1 := hb1.size
      try simp only [World.size_alloc] at hs1
      try simp only [size_setCell'] at hs1
      try have le1_0 : w.heap.size ≤ w1.heap.size := (by omega)
      try have lt1_0 : w.heap.size < w1.heap.size := (by omega)
      have HB1 : Hid (Below w.heap.size w w1) := Lib.hid (Below.trans (by first | exact HB0.out | exact HB0.out.alloc HB0.out.size _ | exact (HB0.out.alloc HB0.out.size _).alloc (le_al HB0.out.size) _ | exact ((HB0.out.alloc HB0.out.size _).alloc (le_al HB0.out.size) _).alloc (le_al (le_al HB0.out.size)) _) (hb1.mono (by (try simp only [World.size_alloc]); (try simp only [size_setCell']); omega)))
      have HN1 := Lib.hid hb1
      clear hb1 hs1
      go_wp2_with (go_at_call 50; first | (refine (HF1.out _ HB1.out).mono ?_; rintro y w' ⟨rfl, rfl⟩) | (refine (HF2.out _ HB1.out).mono ?_; rintro y w' ⟨rfl, rfl⟩))
      go_wp2_with fail
      refine (HM1.out HL1.out _ (by first | exact HB1.out | exact HB1.out.alloc HB1.out.size _ | exact (HB1.out.alloc HB1.out.size _).alloc (le_al HB1.out.size) _ | exact ((HB1.out.alloc HB1.out.size _).alloc (le_al HB1.out.size) _).alloc (le_al (le_al HB1.out.size)) _ | exact HB0.out | exact HB0.out.alloc HB0.out.size _ | exact (HB0.out.alloc HB0.out.size _).alloc (le_al HB0.out.size) _ | exact ((HB0.out.alloc HB0.out.size _).alloc (le_al HB0.out.size) _).alloc (le_al (le_al HB0.out.size)) _)).mono ?_
      rintro e w2 ⟨va, rfl, ⟨gb, mI, mE, rfl, hG2, _, _, _⟩, hb2⟩
      obtain ⟨hc2, hf2⟩ := bcell hb2
      have hs2 := hb2.size
      try simp only [World.size_alloc] at hs2
      try simp only [size_setCell'] at hs2
      try have le2_0 : w.heap.size ≤ w2.heap.size := (by omega)
      try have lt2_0 : w.heap.size < w2.heap.size := (by omega)
      try have le2_1 : w1.heap.size ≤ w2.heap.size := (by omega)
      try have lt2_1 : w1.heap.size < w2.heap.size := (by omega)
      have HB2 : Hid (Below w.heap.size w w2) := Lib.hid (Below.trans (by first | exact HB1.out | exact HB1.out.alloc HB1.out.size _ | exact (HB1.out.alloc HB1.out.size _).alloc (le_al HB1.out.size) _ | exact ((HB1.out.alloc HB1.out.size _).alloc (le_al HB1.out.size) _).alloc (le_al (le_al HB1.out.size)) _ | exact HB0.out | exact HB0.out.alloc HB0.out.size _ | exact (HB0.out.alloc HB0.out.size _).alloc (le_al HB0.out.size) _ | exact ((HB0.out.alloc HB0.out.size _).alloc (le_al HB0.out.size) _).alloc (le_al (le_al HB0.out.size)) _) (hb2.mono (by (try simp only [World.size_alloc]); (try simp only [size_setCell']); omega)))
      have HN2 := Lib.hid hb2
      clear hb2 hs2
      have HR2 := Lib.hid (hG2.reads HOA.out (by have := HOA.out.few; omega))
      clear hG2
      go_wp2_with fail
      refine (HM2.out HL2.out _ (by first | exact HB2.out | exact HB2.out.alloc HB2.out.size _ | exact (HB2.out.alloc HB2.out.size _).alloc (le_al HB2.out.size) _ | exact ((HB2.out.alloc HB2.out.size _).alloc (le_al HB2.out.size) _).alloc (le_al (le_al HB2.out.size)) _ | exact HB1.out | exact HB1.out.alloc HB1.out.size _ | exact (HB1.out.alloc HB1.out.size _).alloc (le_al HB1.out.size) _ | exact ((HB1.out.alloc HB1.out.size _).alloc (le_al HB1.out.size) _).alloc (le_al (le_al HB1.out.size)) _ | exact HB0.out | exact HB0.out.alloc HB0.out.size _ | exact (HB0.out.alloc HB0.out.size _).alloc (le_al HB0.out.size) _ | exact ((HB0.out.alloc HB0.out.size _).alloc (le_al HB0.out.size) _).alloc (le_al (le_al HB0.out.size)) _)).mono ?_
      rintro e w3 ⟨vb, rfl, ⟨hb, nI, nE, rfl, hG3, _, _, _⟩, hb3⟩
      obtain ⟨hc3, hf3⟩ := bcell hb3
      have hs3 := hb3.size
      try simp only [World.size_alloc] at hs3
      try simp only [size_setCell'] at hs3
      try have le3_0 : w.heap.size ≤ w3.heap.size := (by omega)
      try have lt3_0 : w.heap.size < w3.heap.size := (by omega)
      try have le3_1 : w1.heap.size ≤ w3.heap.size := (by omega)
      try have lt3_1 : w1.heap.size < w3.heap.size := (by omega)
      try have le3_2 : w2.heap.size ≤ w3.heap.size := (by omega)
      try have lt3_2 : w2.heap.size < w3.heap.size := (by omega)
      have HB3 : Hid (Below w.heap.size w w3) := Lib.hid (Below.trans (by first | exact HB2.out | exact HB2.out.alloc HB2.out.size _ | exact (HB2.out.alloc HB2.out.size _).alloc (le_al HB2.out.size) _ | exact ((HB2.out.alloc HB2.out.size _).alloc (le_al HB2.out.size) _).alloc (le_al (le_al HB2.out.size)) _ | exact HB1.out | exact HB1.out.alloc HB1.out.size _ | exact (HB1.out.alloc HB1.out.size _).alloc (le_al HB1.out.size) _ | exact ((HB1.out.alloc HB1.out.size _).alloc (le_al HB1.out.size) _).alloc (le_al (le_al HB1.out.size)) _ | exact HB0.out | exact HB0.out.alloc HB0.out.size _ | exact (HB0.out.alloc HB0.out.size _).alloc (le_al HB0.out.size) _ | exact ((HB0.out.alloc HB0.out.size _).alloc (le_al HB0.out.size) _).alloc (le_al (le_al HB0.out.size)) _) (hb3.mono (by (try simp only [World.size_alloc]); (try simp only [size_setCell']); omega)))
      have HN3 := Lib.hid hb3
      clear hb3 hs3
      have HR3 := Lib.hid (hG3.reads HOB.out (by have := HOB.out.few; omega))
      have HR2a := Lib.hid (HR2.out.below HN3.out)
      clear hG3
      go_wp2_with fail
      refine (HR2a.out.copy _ (Below.refl _ _)).mono ?_
      rintro e w4 ⟨vc, rfl, ⟨cb, pI, pE, rfl, hG4, _, _, _⟩, hb4⟩
      obtain ⟨hc4, hf4⟩ := bcell hb4
      have hs4 := hb4.size
      try simp only [World.size_alloc] at hs4
      try simp only [size_setCell'] at hs4
      try have le4_0 : w.heap.size ≤ w4.heap.size := (by omega)
      try have lt4_0 : w.heap.size < w4.heap.size := (by omega)
      try have le4_1 : w1.heap.size ≤ w4.heap.size := (by omega)
      try have lt4_1 : w1.heap.size < w4.heap.size := (by omega)
      try have le4_2 : w2.heap.size ≤ w4.heap.size := (by omega)
      try have lt4_2 : w2.heap.size < w4.heap.size := (by omega)
      try have le4_3 : w3.heap.size ≤ w4.heap.size := (by omega)
      try have lt4_3 : w3.heap.size < w4.heap.size := (by omega)
      have HB4 : Hid (Below w.heap.size w w4) := Lib.hid (Below.trans (by first | exact HB3.out | exact HB3.out.alloc HB3.out.size _ | exact (HB3.out.alloc HB3.out.size _).alloc (le_al HB3.out.size) _ | exact ((HB3.out.alloc HB3.out.size _).alloc (le_al HB3.out.size) _).alloc (le_al (le_al HB3.out.size)) _ | exact HB2.out | exact HB2.out.alloc HB2.out.size _ | exact (HB2.out.alloc HB2.out.size _).alloc (le_al HB2.out.size) _ | exact ((HB2.out.alloc HB2.out.size _).alloc (le_al HB2.out.size) _).alloc (le_al (le_al HB2.out.size)) _ | exact HB1.out | exact HB1.out.alloc HB1.out.size _ | exact (HB1.out.alloc HB1.out.size _).alloc (le_al HB1.out.size) _ | exact ((HB1.out.alloc HB1.out.size _).alloc (le_al HB1.out.size) _).alloc (le_al (le_al HB1.out.size)) _ | exact HB0.out | exact HB0.out.alloc HB0.out.size _ | exact (HB0.out.alloc HB0.out.size _).alloc (le_al HB0.out.size) _ | exact ((HB0.out.alloc HB0.out.size _).alloc (le_al HB0.out.size) _).alloc (le_al (le_al HB0.out.size)) _) (hb4.mono (by (try simp only [World.size_alloc]); (try simp only [size_setCell']); omega)))
      have HN4 := Lib.hid hb4
      clear hb4 hs4
      have HR4 := Lib.hid (hG4.reads HOA.out (by have := HOA.out.few; omega))
      have HR2b := Lib.hid (HR2a.out.below HN4.out)
      have HR3a := Lib.hid (HR3.out.below HN4.out)
      clear hG4
      go_wp2_with fail
      refine (diff_any gb cb A A _ HOA.out HOA.out HR2b.out HR4.out).mono ?_
      rintro e w5 ⟨u1, u2, u3, u4, rfl, hr, hb5⟩
      obtain ⟨hc5, hf5⟩ := bcell hb5
      have hs5 := hb5.size
      try simp only [World.size_alloc] at hs5
      try simp only [size_setCell'] at hs5
      try have le5_0 : w.heap.size ≤ w5.heap.size := (by omega)
      try have lt5_0 : w.heap.size < w5.heap.size := (by omega)
      try have le5_1 : w1.heap.size ≤ w5.heap.size := (by omega)
      try have lt5_1 : w1.heap.size < w5.heap.size := (by omega)
      try have le5_2 : w2.heap.size ≤ w5.heap.size := (by omega)
      try have lt5_2 : w2.heap.size < w5.heap.size := (by omega)
      try have le5_3 : w3.heap.size ≤ w5.heap.size := (by omega)
      try have lt5_3 : w3.heap.size < w5.heap.size := (by omega)
      try have le5_4 : w4.heap.size ≤ w5.heap.size := (by omega)
      try have lt5_4 : w4.heap.size < w5.heap.size := (by omega)
      have HB5 : Hid (Below w.heap.size w w5) := Lib.hid (Below.trans (by first | exact HB4.out | exact HB4.out.alloc HB4.out.size _ | exact (HB4.out.alloc HB4.out.size _).alloc (le_al HB4.out.size) _ | exact ((HB4.out.alloc HB4.out.size _).alloc (le_al HB4.out.size) _).alloc (le_al (le_al HB4.out.size)) _ | exact HB3.out | exact HB3.out.alloc HB3.out.size _ | exact (HB3.out.alloc HB3.out.size _).alloc (le_al HB3.out.size) _ | exact ((HB3.out.alloc HB3.out.size _).alloc (le_al HB3.out.size) _).alloc (le_al (le_al HB3.out.size)) _ | exact HB2.out | exact HB2.out.alloc HB2.out.size _ | exact (HB2.out.alloc HB2.out.size _).alloc (le_al HB2.out.size) _ | exact ((HB2.out.alloc HB2.out.size _).alloc (le_al HB2.out.size) _).alloc (le_al (le_al HB2.out.size)) _ | exact HB1.out | exact HB1.out.alloc HB1.out.size _ | exact (HB1.out.alloc HB1.out.size _).alloc (le_al HB1.out.size) _ | exact ((HB1.out.alloc HB1.out.size _).alloc (le_al HB1.out.size) _).alloc (le_al (le_al HB1.out.size)) _ | exact HB0.out | exact HB0.out.alloc HB0.out.size _ | exact (HB0.out.alloc HB0.out.size _).alloc (le_al HB0.out.size) _ | exact ((HB0.out.alloc HB0.out.size _).alloc (le_al HB0.out.size) _).alloc (le_al (le_al HB0.out.size)) _) (hb5.mono (by (try simp only [World.size_alloc]); (try simp only [size_setCell']); omega)))
      have HN5 := Lib.hid hb5
      clear hb5 hs5
      have HR2c := Lib.hid (HR2b.out.below HN5.out)
      have HR3b := Lib.hid (HR3a.out.below HN5.out)
      obtain ⟨b1, d1, rfl⟩ := (show SlAt w5 5 Ent.cells _ (lostOf A A) from hr.sl.1).len
      obtain ⟨b2, d2, rfl⟩ := (show SlAt w5 5 Ent.cells _ (lostOf A A) from hr.sl.2.1).len
      obtain ⟨b3, d3, rfl⟩ := (show SlAt w5 6 Ino.cells _ (wasOf A A) from hr.sl.2.2.1).len
      obtain ⟨b4, d4, rfl⟩ := (show SlAt w5 2 St.cells _ (newOf A A) from hr.sl.2.2.2).len
      clear hr
      go_wp2_with fail
      refine (diff_any gb hb A B _ HOA.out HOB.out (HR2c.out.below ((New.refl _).alloc _).below) (HR3b.out.below ((New.refl _).alloc _).below)).mono ?_
      rintro e w6 ⟨u1, u2, u3, u4, rfl, hr, hb6⟩
      obtain ⟨hc6, hf6⟩ := bcell hb6
      have hs6 := hb6.size
      try simp only [World.size_alloc] at hs6
      try simp only [size_setCell'] at hs6
      try have le6_0 : w.heap.size ≤ w6.heap.size := (by omega)
      try have lt6_0 : w.heap.size < w6.heap.size := (by omega)
      try have le6_1 : w1.heap.size ≤ w6.heap.size := (by omega)
      try have lt6_1 : w1.heap.size < w6.heap.size := (by omega)
      try have le6_2 : w2.heap.size ≤ w6.heap.size := (by omega)
      try have lt6_2 : w2.heap.size < w6.heap.size := (by omega)
      try have le6_3 : w3.heap.size ≤ w6.heap.size := (by omega)
      try have lt6_3 : w3.heap.size < w6.heap.size := (by omega)
      try have le6_4 : w4.heap.size ≤ w6.heap.size := (by omega)
      try have lt6_4 : w4.heap.size < w6.heap.size := (by omega)
      try have le6_5 : w5.heap.size ≤ w6.heap.size := (by omega)
      try have lt6_5 : w5.heap.size < w6.heap.size := (by omega)
      have HB6 : Hid (Below w.heap.size w w6) := Lib.hid (Below.trans (by first | exact HB5.out | exact HB5.out.alloc HB5.out.size _ | exact (HB5.out.alloc HB5.out.size _).alloc (le_al HB5.out.size) _ | exact ((HB5.out.alloc HB5.out.size _).alloc (le_al HB5.out.size) _).alloc (le_al (le_al HB5.out.size)) _ | exact HB4.out | exact HB4.out.alloc HB4.out.size _ | exact (HB4.out.alloc HB4.out.size _).alloc (le_al HB4.out.size) _ | exact ((HB4.out.alloc HB4.out.size _).alloc (le_al HB4.out.size) _).alloc (le_al (le_al HB4.out.size)) _ | exact HB3.out | exact HB3.out.alloc HB3.out.size _ | exact (HB3.out.alloc HB3.out.size _).alloc (le_al HB3.out.size) _ | exact ((HB3.out.alloc HB3.out.size _).alloc (le_al HB3.out.size) _).alloc (le_al (le_al HB3.out.size)) _ | exact HB2.out | exact HB2.out.alloc HB2.out.size _ | exact (HB2.out.alloc HB2.out.size _).alloc (le_al HB2.out.size) _ | exact ((HB2.out.alloc HB2.out.size _).alloc (le_al HB2.out.size) _).alloc (le_al (le_al HB2.out.size)) _ | exact HB1.out | exact HB1.out.alloc HB1.out.size _ | exact (HB1.out.alloc HB1.out.size _).alloc (le_al HB1.out.size) _ | exact ((HB1.out.alloc HB1.out.size _).alloc (le_al HB1.out.size) _).alloc (le_al (le_al HB1.out.size)) _ | exact HB0.out | exact HB0.out.alloc HB0.out.size _ | exact (HB0.out.alloc HB0.out.size _).alloc (le_al HB0.out.size) _ | exact ((HB0.out.alloc HB0.out.size _).alloc (le_al HB0.out.size) _).alloc (le_al (le_al HB0.out.size)) _) (hb6.mono (by (try simp only [World.size_alloc]); (try simp only [size_setCell']); omega)))
      have HN6 := Lib.hid hb6
      clear hb6 hs6
      have HR2d := Lib.hid ((HR2c.out.below ((New.refl _).alloc _).below).below HN6.out)
      have HR3c := Lib.hid ((HR3b.out.below ((New.refl _).alloc _).below).below HN6.out)
      obtain ⟨f1, g1, rfl⟩ := (show SlAt w6 5 Ent.cells _ (lostOf A B) from hr.sl.1).len
      obtain ⟨f2, g2, rfl⟩ := (show SlAt w6 5 Ent.cells _ (lostOf B A) from hr.sl.2.1).len
      obtain ⟨f3, g3, rfl⟩ := (show SlAt w6 6 Ino.cells _ (wasOf A B) from hr.sl.2.2.1).len
      obtain ⟨f4, g4, rfl⟩ := (show SlAt w6 2 St.cells _ (newOf A B) from hr.sl.2.2.2).len
      have HX1 : Hid (SlAt w6 5 Ent.cells _ (lostOf A B)) := Lib.hid hr.sl.1
      have HX2 : Hid (SlAt w6 5 Ent.cells _ (lostOf B A)) := Lib.hid hr.sl.2.1
      clear hr
      go_wp2_with fail
      refine (diff_any hb gb B A _ HOB.out HOA.out (HR3c.out.below ((New.refl _).alloc _).below) (HR2d.out.below ((New.refl _).alloc _).below)).mono ?_
      rintro e w7 ⟨u1, u2, u3, u4, rfl, hr, hb7⟩
      obtain ⟨hc7, hf7⟩ := bcell hb7
      have hs7 := hb7.size
      try simp only [World.size_alloc] at hs7
      try simp only [size_setCell'] at hs7
      try have le7_0 : w.heap.size ≤ w7.heap.size := (by omega)
      try have lt7_0 : w.heap.size < w7.heap.size := (by omega)
      try have le7_1 : w1.heap.size ≤ w7.heap.size := (by omega)
      try have lt7_1 : w1.heap.size < w7.heap.size := (by omega)
      try have le7_2 : w2.heap.size ≤ w7.heap.size := (by omega)
      try have lt7_2 : w2.heap.size < w7.heap.size := (by omega)
      try have le7_3 : w3.heap.size ≤ w7.heap.size := (by omega)
      try have lt7_3 : w3.heap.size < w7.heap.size := (by omega)
      try have le7_4 : w4.heap.size ≤ w7.heap.size := (by omega)
      try have lt7_4 : w4.heap.size < w7.heap.size := (by omega)
      try have le7_5 : w5.heap.size ≤ w7.heap.size := (by omega)
      try have lt7_5 : w5.heap.size < w7.heap.size := (by omega)
      try have le7_6 : w6.heap.size ≤ w7.heap.size := (by omega)
      try have lt7_6 : w6.heap.size < w7.heap.size := (by omega)
      have HB7 : Hid (Below w.heap.size w w7) := Lib.hid (Below.trans (by first | exact HB6.out | exact HB6.out.alloc HB6.out.size _ | exact (HB6.out.alloc HB6.out.size _).alloc (le_al HB6.out.size) _ | exact ((HB6.out.alloc HB6.out.size _).alloc (le_al HB6.out.size) _).alloc (le_al (le_al HB6.out.size)) _ | exact HB5.out | exact HB5.out.alloc HB5.out.size _ | exact (HB5.out.alloc HB5.out.size _).alloc (le_al HB5.out.size) _ | exact ((HB5.out.alloc HB5.out.size _).alloc (le_al HB5.out.size) _).alloc (le_al (le_al HB5.out.size)) _ | exact HB4.out | exact HB4.out.alloc HB4.out.size _ | exact (HB4.out.alloc HB4.out.size _).alloc (le_al HB4.out.size) _ | exact ((HB4.out.alloc HB4.out.size _).alloc (le_al HB4.out.size) _).alloc (le_al (le_al HB4.out.size)) _ | exact HB3.out | exact HB3.out.alloc HB3.out.size _ | exact (HB3.out.alloc HB3.out.size _).alloc (le_al HB3.out.size) _ | exact ((HB3.out.alloc HB3.out.size _).alloc (le_al HB3.out.size) _).alloc (le_al (le_al HB3.out.size)) _ | exact HB2.out | exact HB2.out.alloc HB2.out.size _ | exact (HB2.out.alloc HB2.out.size _).alloc (le_al HB2.out.size) _ | exact ((HB2.out.alloc HB2.out.size _).alloc (le_al HB2.out.size) _).alloc (le_al (le_al HB2.out.size)) _ | exact HB1.out | exact HB1.out.alloc HB1.out.size _ | exact (HB1.out.alloc HB1.out.size _).alloc (le_al HB1.out.size) _ | exact ((HB1.out.alloc HB1.out.size _).alloc (le_al HB1.out.size) _).alloc (le_al (le_al HB1.out.size)) _ | exact HB0.out | exact HB0.out.alloc HB0.out.size _ | exact (HB0.out.alloc HB0.out.size _).alloc (le_al HB0.out.size) _ | exact ((HB0.out.alloc HB0.out.size _).alloc (le_al HB0.out.size) _).alloc (le_al (le_al HB0.out.size)) _) (hb7.mono (by (try simp only [World.size_alloc]); (try simp only [size_setCell']); omega)))
      have HN7 := Lib.hid hb7
      clear hb7 hs7
      obtain ⟨p1, q1, rfl⟩ := (show SlAt w7 5 Ent.cells _ (lostOf B A) from hr.sl.1).len
      obtain ⟨p2, q2, rfl⟩ := (show SlAt w7 5 Ent.cells _ (lostOf A B) from hr.sl.2.1).len
      obtain ⟨p3, q3, rfl⟩ := (show SlAt w7 6 Ino.cells _ (wasOf B A) from hr.sl.2.2.1).len
      obtain ⟨p4, q4, rfl⟩ := (show SlAt w7 2 St.cells _ (newOf B A) from hr.sl.2.2.2).len
      have HY1 : Hid (SlAt w7 5 Ent.cells _ (lostOf B A)) := Lib.hid hr.sl.1
      have HY2 : Hid (SlAt w7 5 Ent.cells _ (lostOf A B)) := Lib.hid hr.sl.2.1
      have HX1a := Lib.hid ((HX1.out.below ((New.refl _).alloc _).below).below HN7.out)
      have HX2a := Lib.hid ((HX2.out.below ((New.refl _).alloc _).below).below HN7.out)
      clear hr
      go_wp2_with fail
      refine (entries_same _ _ (lostOf A B) (lostOf A B) _ (HX1a.out.below ((New.refl _).alloc _).below) (HY2.out.below ((New.refl _).alloc _).below) HLE.out.1).mono ?_
      rintro e w8 ⟨t8, rfl, ht8, hb8⟩
      obtain ⟨hc8, hf8⟩ := bcell hb8
      have hs8 := hb8.size
      try simp only [World.size_alloc] at hs8
      try simp only [size_setCell'] at hs8
      try have le8_0 : w.heap.size ≤ w8.heap.size := (by omega)
      try have lt8_0 : w.heap.size < w8.heap.size := (by omega)
      try have le8_1 : w1.heap.size ≤ w8.heap.size := (by omega)
      try have lt8_1 : w1.heap.size < w8.heap.size := (by omega)
      try have le8_2 : w2.heap.size ≤ w8.heap.size := (by omega)
      try have lt8_2 : w2.heap.size < w8.heap.size := (by omega)
      try have le8_3 : w3.heap.size ≤ w8.heap.size := (by omega)
      try have lt8_3 : w3.heap.size < w8.heap.size := (by omega)
      try have le8_4 : w4.heap.size ≤ w8.heap.size := (by omega)
      try have lt8_4 : w4.heap.size < w8.heap.size := (by omega)
      try have le8_5 : w5.heap.size ≤ w8.heap.size := (by omega)
      try have lt8_5 : w5.heap.size < w8.heap.size := (by omega)
      try have le8_6 : w6.heap.size ≤ w8.heap.size := (by omega)
      try have lt8_6 : w6.heap.size < w8.heap.size := (by omega)
      try have le8_7 : w7.heap.size ≤ w8.heap.size := (by omega)
      try have lt8_7 : w7.heap.size < w8.heap.size := (by omega)
      have HB8 : Hid (Below w.heap.size w w8) := Lib.hid (Below.trans (by first | exact HB7.out | exact HB7.out.alloc HB7.out.size _ | exact (HB7.out.alloc HB7.out.size _).alloc (le_al HB7.out.size) _ | exact ((HB7.out.alloc HB7.out.size _).alloc (le_al HB7.out.size) _).alloc (le_al (le_al HB7.out.size)) _ | exact HB6.out | exact HB6.out.alloc HB6.out.size _ | exact (HB6.out.alloc HB6.out.size _).alloc (le_al HB6.out.size) _ | exact ((HB6.out.alloc HB6.out.size _).alloc (le_al HB6.out.size) _).alloc (le_al (le_al HB6.out.size)) _ | exact HB5.out | exact HB5.out.alloc HB5.out.size _ | exact (HB5.out.alloc HB5.out.size _).alloc (le_al HB5.out.size) _ | exact ((HB5.out.alloc HB5.out.size _).alloc (le_al HB5.out.size) _).alloc (le_al (le_al HB5.out.size)) _ | exact HB4.out | exact HB4.out.alloc HB4.out.size _ | exact (HB4.out.alloc HB4.out.size _).alloc (le_al HB4.out.size) _ | exact ((HB4.out.alloc HB4.out.size _).alloc (le_al HB4.out.size) _).alloc (le_al (le_al HB4.out.size)) _ | exact HB3.out | exact HB3.out.alloc HB3.out.size _ | exact (HB3.out.alloc HB3.out.size _).alloc (le_al HB3.out.size) _ | exact ((HB3.out.alloc HB3.out.size _).alloc (le_al HB3.out.size) _).alloc (le_al (le_al HB3.out.size)) _ | exact HB2.out | exact HB2.out.alloc HB2.out.size _ | exact (HB2.out.alloc HB2.out.size _).alloc (le_al HB2.out.size) _ | exact ((HB2.out.alloc HB2.out.size _).alloc (le_al HB2.out.size) _).alloc (le_al (le_al HB2.out.size)) _ | exact HB1.out | exact HB1.out.alloc HB1.out.size _ | exact (HB1.out.alloc HB1.out.size _).alloc (le_al HB1.out.size) _ | exact ((HB1.out.alloc HB1.out.size _).alloc (le_al HB1.out.size) _).alloc (le_al (le_al HB1.out.size)) _ | exact HB0.out | exact HB0.out.alloc HB0.out.size _ | exact (HB0.out.alloc HB0.out.size _).alloc (le_al HB0.out.size) _ | exact ((HB0.out.alloc HB0.out.size _).alloc (le_al HB0.out.size) _).alloc (le_al (le_al HB0.out.size)) _) (hb8.mono (by (try simp only [World.size_alloc]); (try simp only [size_setCell']); omega)))
      have HN8 := Lib.hid hb8
      clear hb8 hs8
      obtain rfl := ht8 rfl
      go_wp2_with fail
      refine (entries_same _ _ (lostOf B A) (lostOf B A) _ ((HX2a.out.below ((New.refl _).alloc _).below).below HN8.out) ((HY1.out.below ((New.refl _).alloc _).below).below HN8.out) HLE.out.2).mono ?_
      rintro e w9 ⟨t9, rfl, ht9, hb9⟩
      obtain ⟨hc9, hf9⟩ := bcell hb9
      have hs9 := hb9.size
      try simp only [World.size_alloc] at hs9
      try simp only [size_setCell'] at hs9
      try have le9_0 : w.heap.size ≤ w9.heap.size := (by omega)
      try have lt9_0 : w.heap.size < w9.heap.size := (by omega)
      try have le9_1 : w1.heap.size ≤ w9.heap.size := (by omega)
      try have lt9_1 : w1.heap.size < w9.heap.size := (by omega)
      try have le9_2 : w2.heap.size ≤ w9.heap.size := (by omega)
      try have lt9_2 : w2.heap.size < w9.heap.size := (by omega)
      try have le9_3 : w3.heap.size ≤ w9.heap.size := (by omega)
      try have lt9_3 : w3.heap.size < w9.heap.size := (by omega)
      try have le9_4 : w4.heap.size ≤ w9.heap.size := (by omega)
      try have lt9_4 : w4.heap.size < w9.heap.size := (by omega)
      try have le9_5 : w5.heap.size ≤ w9.heap.size := (by omega)
      try have lt9_5 : w5.heap.size < w9.heap.size := (by omega)
      try have le9_6 : w6.heap.size ≤ w9.heap.size := (by omega)
      try have lt9_6 : w6.heap.size < w9.heap.size := (by omega)
      try have le9_7 : w7.heap.size ≤ w9.heap.size := (by omega)
      try have lt9_7 : w7.heap.size < w9.heap.size := (by omega)
      try have le9_8 : w8.heap.size ≤ w9.heap.size := (by omega)
      try have lt9_8 : w8.heap.size < w9.heap.size := (by omega)
      have HB9 : Hid (Below w.heap.size w w9) := Lib.hid (Below.trans (by first | exact HB8.out | exact HB8.out.alloc HB8.out.size _ | exact (HB8.out.alloc HB8.out.size _).alloc (le_al HB8.out.size) _ | exact ((HB8.out.alloc HB8.out.size _).alloc (le_al HB8.out.size) _).alloc (le_al (le_al HB8.out.size)) _ | exact HB7.out | exact HB7.out.alloc HB7.out.size _ | exact (HB7.out.alloc HB7.out.size _).alloc (le_al HB7.out.size) _ | exact ((HB7.out.alloc HB7.out.size _).alloc (le_al HB7.out.size) _).alloc (le_al (le_al HB7.out.size)) _ | exact HB6.out | exact HB6.out.alloc HB6.out.size _ | exact (HB6.out.alloc HB6.out.size _).alloc (le_al HB6.out.size) _ | exact ((HB6.out.alloc HB6.out.size _).alloc (le_al HB6.out.size) _).alloc (le_al (le_al HB6.out.size)) _ | exact HB5.out | exact HB5.out.alloc HB5.out.size _ | exact (HB5.out.alloc HB5.out.size _).alloc (le_al HB5.out.size) _ | exact ((HB5.out.alloc HB5.out.size _).alloc (le_al HB5.out.size) _).alloc (le_al (le_al HB5.out.size)) _ | exact HB4.out | exact HB4.out.alloc HB4.out.size _ | exact (HB4.out.alloc HB4.out.size _).alloc (le_al HB4.out.size) _ | exact ((HB4.out.alloc HB4.out.size _).alloc (le_al HB4.out.size) _).alloc (le_al (le_al HB4.out.size)) _ | exact HB3.out | exact HB3.out.alloc HB3.out.size _ | exact (HB3.out.alloc HB3.out.size _).alloc (le_al HB3.out.size) _ | exact ((HB3.out.alloc HB3.out.size _).alloc (le_al HB3.out.size) _).alloc (le_al (le_al HB3.out.size)) _ | exact HB2.out | exact HB2.out.alloc HB2.out.size _ | exact (HB2.out.alloc HB2.out.size _).alloc (le_al HB2.out.size) _ | exact ((HB2.out.alloc HB2.out.size _).alloc (le_al HB2.out.size) _).alloc (le_al (le_al HB2.out.size)) _ | exact HB1.out | exact HB1.out.alloc HB1.out.size _ | exact (HB1.out.alloc HB1.out.size _).alloc (le_al HB1.out.size) _ | exact ((HB1.out.alloc HB1.out.size _).alloc (le_al HB1.out.size) _).alloc (le_al (le_al HB1.out.size)) _ | exact HB0.out | exact HB0.out.alloc HB0.out.size _ | exact (HB0.out.alloc HB0.out.size _).alloc (le_al HB0.out.size) _ | exact ((HB0.out.alloc HB0.out.size _).alloc (le_al HB0.out.size) _).alloc (le_al (le_al HB0.out.size)) _) (hb9.mono (by (try simp only [World.size_alloc]); (try simp only [size_setCell']); omega)))
      have HN9 := Lib.hid hb9
      clear hb9 hs9
      obtain rfl := ht9 rfl
      go_wp2
      go_ret
      exact ⟨by first | rfl | simp [*], HB9.out⟩
end Go.Proofs.YtmnkaohhjhjciaaGreat.L12
