/-
  thimblelaw12.UndoThree: what changed over three graphs; no condition but the texts' reach.
-/
import Derived.Test.YtlokljaeknmdpaaGreatKLD
import Derived.Test.YtlokljaeknmdpaaGreatKLC
import Derived.OpenShut
namespace Go.Proofs.YtlokljaeknmdpaaGreat.L12
open Go.RowKit Go.Shelf Go.Proofs

theorem u8_bounds {n : Int} (h : (Lit.int .u8 n).wf = true) : 0 ≤ n ∧ n ≤ 255 := by
  unfold Lit.wf at h
  simp only [Bool.and_eq_true, decide_eq_true_eq] at h
  exact h
/-- a number's rest by a length and one more is a place -/
theorem rem_place {n : Nat} {j : Int} (hj : 0 ≤ j) : ∃ m : Nat, j.tmod ((n : Int) + 1) = (m : Int) ∧ m ≤ n := by
  have h1 : 0 ≤ j.tmod ((n : Int) + 1) := Int.tmod_nonneg _ hj
  have h2 : j.tmod ((n : Int) + 1) < (n : Int) + 1 := Int.tmod_lt_of_pos _ (by omega)
  exact ⟨(j.tmod ((n : Int) + 1)).toNat, by omega, by omega⟩
theorem three_small {a b c : Gr} (ha : a.Ok) (hb : b.Ok) (hc : c.Ok) : (lostOf a c).length ≤ 1000 ∧ (lostOf a b).length ≤ 1000 ∧ (lostOf b c).length ≤ 1000 ∧ (lostOf c a).length ≤ 1000 ∧ (lostOf b a).length ≤ 1000 ∧ (lostOf c b).length ≤ 1000 :=
  ⟨(diff_small ha hc).1.1, (diff_small ha hb).1.1, (diff_small hb hc).1.1, (diff_small hc ha).1.1, (diff_small hb ha).1.1, (diff_small hc hb).1.1⟩

set_option maxRecDepth 100000 in
set_option maxHeartbeats 8000000 in
theorem three_walk (v1 : Value) (l : List Op) (j k : Int) (w : World) (hs1 : SlAt w 13 Op.cells v1 l) (hn1 : ∀ o ∈ l, o.Small) (hj : (Lit.int .u8 j).wf = true) (hk : (Lit.int .u8 k).wf = true) :
    Calls Tryz.prog 6 #[v1, .int .u8 j, .int .u8 k] w fun y w' => y = .returned (.bool true) ∧ Below w.heap.size w w' := by
  have HF1 := Lib.hid (fun W (hW : Below w.heap.size w W) => few_any v1 l W (hs1.below hW))
  have HB0 : Hid (Below w.heap.size w w) := Lib.hid (Below.refl _ _)
  obtain ⟨hj0, hj1⟩ := u8_bounds hj
  obtain ⟨hk0, hk1⟩ := u8_bounds hk
  have hwj : IntKind.i64.wrap j = j := by rw [IntKind.wrap_i64]; omega
  have hwk : IntKind.i64.wrap k = k := by rw [IntKind.wrap_i64]; omega
  obtain ⟨m1, hm1, hl1⟩ := rem_place (n := l.length) hj0
  obtain ⟨m2, hm2, hl2⟩ := rem_place (n := l.length) hk0
  have HS1 := Lib.hid hs1
  obtain ⟨a1, c1, rfl⟩ := hs1.len
  have hcap : l.length ≤ c1 := by
    rcases hs1 with ⟨_, _, h0, rfl⟩ | ⟨_, _, _, h0, h1, _⟩
    · exact Nat.zero_le _
    · simp only [Value.slice.injEq] at h0
      obtain ⟨_, _, rfl⟩ := h0
      exact h1
  have hnone : a1 = none → l = [] := fun e => by
    rcases hs1 with ⟨_, _, h0, h1⟩ | ⟨_, _, _, h0, _⟩
    · exact h1
    · rw [e] at h0; simp at h0
  have HMC := Lib.hid (fun (hl : l.length ≤ 1000) W (hW : Below w.heap.size w W) => made_any (.slice a1 l.length c1) l W (hs1.below hW) hn1 hl)
  have HMA := Lib.hid (fun (hl : l.length ≤ 1000) W (hW : Below w.heap.size w W) => made_any (.slice a1 m1 c1) (l.take m1) W ((sl_take hs1 hl1).below hW) (fun o ho => hn1 o (List.mem_of_mem_take ho)) (by rw [List.length_take]; omega))
  have HMB := Lib.hid (fun (hl : l.length ≤ 1000) W (hW : Below w.heap.size w W) => made_any (.slice a1 m2 c1) (l.take m2) W ((sl_take hs1 hl2).below hW) (fun o ho => hn1 o (List.mem_of_mem_take ho)) (by rw [List.length_take]; omega))
  clear hs1 hn1 hj hk
  cases hf1 : decide (l.length ≤ 60) with
  | false =>
    rw [hf1] at HF1
    clear hf1
    go_enter Tryz.func6, Tryz.ntmps6
    go_wp2_with fail
    refine (shown_any _).mono ?_
    rintro e w1 ⟨rfl, hb1⟩
    obtain ⟨hc1, hf1⟩ := bcell hb1
    have hs1 := hb1.size
    try simp only [World.size_alloc] at hs1
    try simp only [size_setCell'] at hs1
    try have le1_0 : w.heap.size ≤ w1.heap.size := (by omega)
    try have lt1_0 : w.heap.size < w1.heap.size := (by omega)
    have HB1 : Hid (Below w.heap.size w w1) := Lib.hid (Below.trans (by first | exact HB0.out | exact HB0.out.alloc HB0.out.size _ | exact (HB0.out.alloc HB0.out.size _).alloc (le_al HB0.out.size) _ | exact ((HB0.out.alloc HB0.out.size _).alloc (le_al HB0.out.size) _).alloc (le_al (le_al HB0.out.size)) _) (hb1.mono (by (try simp only [World.size_alloc]); (try simp only [size_setCell']); omega)))
    have HN1 := Lib.hid hb1
    clear hb1 hs1
    go_wp2_with (go_at_call 25; refine (HF1.out _ HB1.out).mono ?_; rintro y w' ⟨rfl, rfl⟩)
    go_ret
    exact ⟨rfl, HB1.out⟩
  | true =>
    rw [hf1] at HF1
    have hlen := of_decide_eq_true hf1
    have HMA := Lib.hid (HMA.out (by omega))
    have HMB := Lib.hid (HMB.out (by omega))
    have HMC := Lib.hid (HMC.out (by omega))
    have HOA : Hid ((ran (l.take m1)).Ok) := Lib.hid (ran_ok _)
    have HOB : Hid ((ran (l.take m2)).Ok) := Lib.hid (ran_ok _)
    have HOC : Hid ((ran l).Ok) := Lib.hid (ran_ok _)
    have HSZ := Lib.hid (three_small (ran_ok (l.take m1)) (ran_ok (l.take m2)) (ran_ok l))
    have HIN : Hid ((∀ x ∈ lostOf (ran (l.take m1)) (ran l), x ∈ lostOf (ran (l.take m1)) (ran (l.take m2)) ∨ x ∈ lostOf (ran (l.take m2)) (ran l)) ∧ ∀ x ∈ lostOf (ran l) (ran (l.take m1)), x ∈ lostOf (ran (l.take m2)) (ran (l.take m1)) ∨ x ∈ lostOf (ran l) (ran (l.take m2))) :=
      Lib.hid ⟨fun x hx => lost_three _ _ _ hx, fun x hx => (lost_three _ (ran (l.take m2)) _ hx).symm⟩
    have hw1 : IntKind.i64.wrap ((l.length : Int) + 1) = (l.length : Int) + 1 := wrapNat (l.length + 1) (by omega)
    have hne : ¬ ((l.length : Int) + 1 = 0) := by omega
    have hma : (m1 : Int) ≤ (c1 : Int) := by omega
    have hmb : (m2 : Int) ≤ (c1 : Int) := by omega
    clear hf1
    cases a1 with
    | none =>
      clear hnone
      go_enter Tryz.func6, Tryz.ntmps6
      go_wp2_with fail
      refine (shown_any _).mono ?_
      rintro e w1 ⟨rfl, hb1⟩
      obtain ⟨hc1, hf1⟩ := bcell hb1
      have hs1 := hb1.size
      try simp only [World.size_alloc] at hs1
      try simp only [size_setCell'] at hs1
      try have le1_0 : w.heap.size ≤ w1.heap.size := (by omega)
      try have lt1_0 : w.heap.size < w1.heap.size := (by omega)
      have HB1 : Hid (Below w.heap.size w w1) := Lib.hid (Below.trans (by first | exact HB0.out | exact HB0.out.alloc HB0.out.size _ | exact (HB0.out.alloc HB0.out.size _).alloc (le_al HB0.out.size) _ | exact ((HB0.out.alloc HB0.out.size _).alloc (le_al HB0.out.size) _).alloc (le_al (le_al HB0.out.size)) _) (hb1.mono (by (try simp only [World.size_alloc]); (try simp only [size_setCell']); omega)))
      have HN1 := Lib.hid hb1
      clear hb1 hs1
      go_wp2_with (go_at_call 25; refine (HF1.out _ HB1.out).mono ?_; rintro y w' ⟨rfl, rfl⟩)
      go_wp2_with fail
      refine (HMA.out _ (by first | exact HB1.out | exact HB1.out.alloc HB1.out.size _ | exact (HB1.out.alloc HB1.out.size _).alloc (le_al HB1.out.size) _ | exact ((HB1.out.alloc HB1.out.size _).alloc (le_al HB1.out.size) _).alloc (le_al (le_al HB1.out.size)) _ | exact HB0.out | exact HB0.out.alloc HB0.out.size _ | exact (HB0.out.alloc HB0.out.size _).alloc (le_al HB0.out.size) _ | exact ((HB0.out.alloc HB0.out.size _).alloc (le_al HB0.out.size) _).alloc (le_al (le_al HB0.out.size)) _)).mono ?_
      rintro e w2 ⟨va, rfl, ⟨gb, mI, mE, rfl, hG2, _, _, _⟩, hb2⟩
      obtain ⟨hc2, hf2⟩ := bcell hb2
      have hs2 := hb2.size
      try simp only [World.size_alloc] at hs2
      try simp only [size_setCell'] at hs2
      try have le2_0 : w.heap.size ≤ w2.heap.size := (by omega)
      try have lt2_0 : w.heap.size < w2.heap.size := (by omega)
      try have le2_1 : w1.heap.size ≤ w2.heap.size := (by omega)
      try have lt2_1 : w1.heap.size < w2.heap.size := (by omega)
      have HB2 : Hid (Below w.heap.size w w2) := Lib.hid (Below.trans (by first | exact HB1.out | exact HB1.out.alloc HB1.out.size _ | exact (HB1.out.alloc HB1.out.size _).alloc (le_al HB1.out.size) _ | exact ((HB1.out.alloc HB1.out.size _).alloc (le_al HB1.out.size) _).alloc (le_al (le_al HB1.out.size)) _ | exact HB0.out | exact HB0.out.alloc HB0.out.size _ | exact (HB0.out.alloc HB0.out.size _).alloc (le_al HB0.out.size) _ | exact ((HB0.out.alloc HB0.out.size _).alloc (le_al HB0.out.size) _).alloc (le_al (le_al HB0.out.size)) _) (hb2.mono (by (try simp only [World.size_alloc]); (try simp only [size_setCell']); omega)))
      have HN2 := Lib.hid hb2
      clear hb2 hs2
      have HR2 := Lib.hid (hG2.reads (ran_ok _) (by have := (ran_ok (l.take m1)).few; omega))
      clear hG2
      go_wp2_with fail
      refine (HMB.out _ (by first | exact HB2.out | exact HB2.out.alloc HB2.out.size _ | exact (HB2.out.alloc HB2.out.size _).alloc (le_al HB2.out.size) _ | exact ((HB2.out.alloc HB2.out.size _).alloc (le_al HB2.out.size) _).alloc (le_al (le_al HB2.out.size)) _ | exact HB1.out | exact HB1.out.alloc HB1.out.size _ | exact (HB1.out.alloc HB1.out.size _).alloc (le_al HB1.out.size) _ | exact ((HB1.out.alloc HB1.out.size _).alloc (le_al HB1.out.size) _).alloc (le_al (le_al HB1.out.size)) _ | exact HB0.out | exact HB0.out.alloc HB0.out.size _ | exact (HB0.out.alloc HB0.out.size _).alloc (le_al HB0.out.size) _ | exact ((HB0.out.alloc HB0.out.size _).alloc (le_al HB0.out.size) _).alloc (le_al (le_al HB0.out.size)) _)).mono ?_
      rintro e w3 ⟨vb, rfl, ⟨hb, nI, nE, rfl, hG3, _, _, _⟩, hb3⟩
      obtain ⟨hc3, hf3⟩ := bcell hb3
      have hs3 := hb3.size
      try simp only [World.size_alloc] at hs3
      try simp only [size_setCell'] at hs3
      try have le3_0 : w.heap.size ≤ w3.heap.size := (by omega)
      try have lt3_0 : w.heap.size < w3.heap.size := (by omega)
      try have le3_1 : w1.heap.size ≤ w3.heap.size := (by omega)
      try have lt3_1 : w1.heap.size < w3.heap.size := (by omega)
      try have le3_2 : w2.heap.size ≤ w3.heap.size := (by omega)
      try have lt3_2 : w2.heap.size < w3.heap.size := (by omega)
      have HB3 : Hid (Below w.heap.size w w3) := Lib.hid (Below.trans (by first | exact HB2.out | exact HB2.out.alloc HB2.out.size _ | exact (HB2.out.alloc HB2.out.size _).alloc (le_al HB2.out.size) _ | exact ((HB2.out.alloc HB2.out.size _).alloc (le_al HB2.out.size) _).alloc (le_al (le_al HB2.out.size)) _ | exact HB1.out | exact HB1.out.alloc HB1.out.size _ | exact (HB1.out.alloc HB1.out.size _).alloc (le_al HB1.out.size) _ | exact ((HB1.out.alloc HB1.out.size _).alloc (le_al HB1.out.size) _).alloc (le_al (le_al HB1.out.size)) _ | exact HB0.out | exact HB0.out.alloc HB0.out.size _ | exact (HB0.out.alloc HB0.out.size _).alloc (le_al HB0.out.size) _ | exact ((HB0.out.alloc HB0.out.size _).alloc (le_al HB0.out.size) _).alloc (le_al (le_al HB0.out.size)) _) (hb3.mono (by (try simp only [World.size_alloc]); (try simp only [size_setCell']); omega)))
      have HN3 := Lib.hid hb3
      clear hb3 hs3
      have HR3 := Lib.hid (hG3.reads (ran_ok _) (by have := (ran_ok (l.take m2)).few; omega))
      have HR2a := Lib.hid (HR2.out.below HN3.out)
      clear hG3
      go_wp2_with fail
      refine (HMC.out _ (by first | exact HB3.out | exact HB3.out.alloc HB3.out.size _ | exact (HB3.out.alloc HB3.out.size _).alloc (le_al HB3.out.size) _ | exact ((HB3.out.alloc HB3.out.size _).alloc (le_al HB3.out.size) _).alloc (le_al (le_al HB3.out.size)) _ | exact HB2.out | exact HB2.out.alloc HB2.out.size _ | exact (HB2.out.alloc HB2.out.size _).alloc (le_al HB2.out.size) _ | exact ((HB2.out.alloc HB2.out.size _).alloc (le_al HB2.out.size) _).alloc (le_al (le_al HB2.out.size)) _ | exact HB1.out | exact HB1.out.alloc HB1.out.size _ | exact (HB1.out.alloc HB1.out.size _).alloc (le_al HB1.out.size) _ | exact ((HB1.out.alloc HB1.out.size _).alloc (le_al HB1.out.size) _).alloc (le_al (le_al HB1.out.size)) _ | exact HB0.out | exact HB0.out.alloc HB0.out.size _ | exact (HB0.out.alloc HB0.out.size _).alloc (le_al HB0.out.size) _ | exact ((HB0.out.alloc HB0.out.size _).alloc (le_al HB0.out.size) _).alloc (le_al (le_al HB0.out.size)) _)).mono ?_
      rintro e w4 ⟨vc, rfl, ⟨cb, pI, pE, rfl, hG4, _, _, _⟩, hb4⟩
      obtain ⟨hc4, hf4⟩ := bcell hb4
      have hs4 := hb4.size
      try simp only [World.size_alloc] at hs4
      try simp only [size_setCell'] at hs4
      try have le4_0 : w.heap.size ≤ w4.heap.size := (by omega)
      try have lt4_0 : w.heap.size < w4.heap.size := (by omega)
      try have le4_1 : w1.heap.size ≤ w4.heap.size := (by omega)
      try have lt4_1 : w1.heap.size < w4.heap.size := (by omega)
      try have le4_2 : w2.heap.size ≤ w4.heap.size := (by omega)
      try have lt4_2 : w2.heap.size < w4.heap.size := (by omega)
      try have le4_3 : w3.heap.size ≤ w4.heap.size := (by omega)
      try have lt4_3 : w3.heap.size < w4.heap.size := (by omega)
      have HB4 : Hid (Below w.heap.size w w4) := Lib.hid (Below.trans (by first | exact HB3.out | exact HB3.out.alloc HB3.out.size _ | exact (HB3.out.alloc HB3.out.size _).alloc (le_al HB3.out.size) _ | exact ((HB3.out.alloc HB3.out.size _).alloc (le_al HB3.out.size) _).alloc (le_al (le_al HB3.out.size)) _ | exact HB2.out | exact HB2.out.alloc HB2.out.size _ | exact (HB2.out.alloc HB2.out.size _).alloc (le_al HB2.out.size) _ | exact ((HB2.out.alloc HB2.out.size _).alloc (le_al HB2.out.size) _).alloc (le_al (le_al HB2.out.size)) _ | exact HB1.out | exact HB1.out.alloc HB1.out.size _ | exact (HB1.out.alloc HB1.out.size _).alloc (le_al HB1.out.size) _ | exact ((HB1.out.alloc HB1.out.size _).alloc (le_al HB1.out.size) _).alloc (le_al (le_al HB1.out.size)) _ | exact HB0.out | exact HB0.out.alloc HB0.out.size _ | exact (HB0.out.alloc HB0.out.size _).alloc (le_al HB0.out.size) _ | exact ((HB0.out.alloc HB0.out.size _).alloc (le_al HB0.out.size) _).alloc (le_al (le_al HB0.out.size)) _) (hb4.mono (by (try simp only [World.size_alloc]); (try simp only [size_setCell']); omega)))
      have HN4 := Lib.hid hb4
      clear hb4 hs4
      have HR4 := Lib.hid (hG4.reads (ran_ok _) (by have := (ran_ok l).few; omega))
      have HR2b := Lib.hid (HR2a.out.below HN4.out)
      have HR3a := Lib.hid (HR3.out.below HN4.out)
      clear hG4
      generalize ran (l.take m1) = A at *
      generalize ran (l.take m2) = B at *
      generalize ran l = C at *
      go_wp2_with fail
      refine (diff_any gb cb A C _ HOA.out HOC.out HR2b.out HR4.out).mono ?_
      rintro e w5 ⟨u1, u2, u3, u4, rfl, hr, hb5⟩
      obtain ⟨hc5, hf5⟩ := bcell hb5
      have hs5 := hb5.size
      try simp only [World.size_alloc] at hs5
      try simp only [size_setCell'] at hs5
      try have le5_0 : w.heap.size ≤ w5.heap.size := (by omega)
      try have lt5_0 : w.heap.size < w5.heap.size := (by omega)
      try have le5_1 : w1.heap.size ≤ w5.heap.size := (by omega)
      try have lt5_1 : w1.heap.size < w5.heap.size := (by omega)
      try have le5_2 : w2.heap.size ≤ w5.heap.size := (by omega)
      try have lt5_2 : w2.heap.size < w5.heap.size := (by omega)
      try have le5_3 : w3.heap.size ≤ w5.heap.size := (by omega)
      try have lt5_3 : w3.heap.size < w5.heap.size := (by omega)
      try have le5_4 : w4.heap.size ≤ w5.heap.size := (by omega)
      try have lt5_4 : w4.heap.size < w5.heap.size := (by omega)
      have HB5 : Hid (Below w.heap.size w w5) := Lib.hid (Below.trans (by first | exact HB4.out | exact HB4.out.alloc HB4.out.size _ | exact (HB4.out.alloc HB4.out.size _).alloc (le_al HB4.out.size) _ | exact ((HB4.out.alloc HB4.out.size _).alloc (le_al HB4.out.size) _).alloc (le_al (le_al HB4.out.size)) _ | exact HB3.out | exact HB3.out.alloc HB3.out.size _ | exact (HB3.out.alloc HB3.out.size _).alloc (le_al HB3.out.size) _ | exact ((HB3.out.alloc HB3.out.size _).alloc (le_al HB3.out.size) _).alloc (le_al (le_al HB3.out.size)) _ | exact HB2.out | exact HB2.out.alloc HB2.out.size _ | exact (HB2.out.alloc HB2.out.size _).alloc (le_al HB2.out.size) _ | exact ((HB2.out.alloc HB2.out.size _).alloc (le_al HB2.out.size) _).alloc (le_al (le_al HB2.out.size)) _ | exact HB1.out | exact HB1.out.alloc HB1.out.size _ | exact (HB1.out.alloc HB1.out.size _).alloc (le_al HB1.out.size) _ | exact ((HB1.out.alloc HB1.out.size _).alloc (le_al HB1.out.size) _).alloc (le_al (le_al HB1.out.size)) _ | exact HB0.out | exact HB0.out.alloc HB0.out.size _ | exact (HB0.out.alloc HB0.out.size _).alloc (le_al HB0.out.size) _ | exact ((HB0.out.alloc HB0.out.size _).alloc (le_al HB0.out.size) _).alloc (le_al (le_al HB0.out.size)) _) (hb5.mono (by (try simp only [World.size_alloc]); (try simp only [size_setCell']); omega)))
      have HN5 := Lib.hid hb5
      clear hb5 hs5
      obtain ⟨p5, q5, rfl⟩ := (show SlAt w5 5 Ent.cells _ (lostOf A C) from hr.sl.1).len
      obtain ⟨r5, s5, rfl⟩ := (show SlAt w5 5 Ent.cells _ (lostOf C A) from hr.sl.2.1).len
      obtain ⟨t5, x5, rfl⟩ := (show SlAt w5 6 Ino.cells _ (wasOf A C) from hr.sl.2.2.1).len
      obtain ⟨y5, z5, rfl⟩ := (show SlAt w5 2 St.cells _ (newOf A C) from hr.sl.2.2.2).len
      have HL5 : Hid (EntRow _ (.slice p5 (lostOf A C).length q5) (lostOf A C) w5) := Lib.hid hr.1
      have HM5 : Hid (EntRow _ (.slice r5 (lostOf C A).length s5) (lostOf C A) w5) := Lib.hid hr.2.1
      clear hr
      have HR2c := Lib.hid (HR2b.out.below HN5.out)
      have HR3b := Lib.hid (HR3a.out.below HN5.out)
      have HR4a := Lib.hid (HR4.out.below HN5.out)
      go_wp2_with fail
      refine (diff_any gb hb A B _ HOA.out HOB.out (HR2c.out.below ((New.refl _).alloc _).below) (HR3b.out.below ((New.refl _).alloc _).below)).mono ?_
      rintro e w6 ⟨u1, u2, u3, u4, rfl, hr, hb6⟩
      obtain ⟨hc6, hf6⟩ := bcell hb6
      have hs6 := hb6.size
      try simp only [World.size_alloc] at hs6
      try simp only [size_setCell'] at hs6
      try have le6_0 : w.heap.size ≤ w6.heap.size := (by omega)
      try have lt6_0 : w.heap.size < w6.heap.size := (by omega)
      try have le6_1 : w1.heap.size ≤ w6.heap.size := (by omega)
      try have lt6_1 : w1.heap.size < w6.heap.size := (by omega)
      try have le6_2 : w2.heap.size ≤ w6.heap.size := (by omega)
      try have lt6_2 : w2.heap.size < w6.heap.size := (by omega)
      try have le6_3 : w3.heap.size ≤ w6.heap.size := (by omega)
      try have lt6_3 : w3.heap.size < w6.heap.size := (by omega)
      try have le6_4 : w4.heap.size ≤ w6.heap.size := (by omega)
      try have lt6_4 : w4.heap.size < w6.heap.size := (by omega)
      try have le6_5 : w5.heap.size ≤ w6.heap.size := (by omega)
      try have lt6_5 : w5.heap.size < w6.heap.size := (by omega)
      have HB6 : Hid (Below w.heap.size w w6) := Lib.hid (Below.trans (by first | exact HB5.out | exact HB5.out.alloc HB5.out.size _ | exact (HB5.out.alloc HB5.out.size _).alloc (le_al HB5.out.size) _ | exact ((HB5.out.alloc HB5.out.size _).alloc (le_al HB5.out.size) _).alloc (le_al (le_al HB5.out.size)) _ | exact HB4.out | exact HB4.out.alloc HB4.out.size _ | exact (HB4.out.alloc HB4.out.size _).alloc (le_al HB4.out.size) _ | exact ((HB4.out.alloc HB4.out.size _).alloc (le_al HB4.out.size) _).alloc (le_al (le_al HB4.out.size)) _ | exact HB3.out | exact HB3.out.alloc HB3.out.size _ | exact (HB3.out.alloc HB3.out.size _).alloc (le_al HB3.out.size) _ | exact ((HB3.out.alloc HB3.out.size _).alloc (le_al HB3.out.size) _).alloc (le_al (le_al HB3.out.size)) _ | exact HB2.out | exact HB2.out.alloc HB2.out.size _ | exact (HB2.out.alloc HB2.out.size _).alloc (le_al HB2.out.size) _ | exact ((HB2.out.alloc HB2.out.size _).alloc (le_al HB2.out.size) _).alloc (le_al (le_al HB2.out.size)) _ | exact HB1.out | exact HB1.out.alloc HB1.out.size _ | exact (HB1.out.alloc HB1.out.size _).alloc (le_al HB1.out.size) _ | exact ((HB1.out.alloc HB1.out.size _).alloc (le_al HB1.out.size) _).alloc (le_al (le_al HB1.out.size)) _ | exact HB0.out | exact HB0.out.alloc HB0.out.size _ | exact (HB0.out.alloc HB0.out.size _).alloc (le_al HB0.out.size) _ | exact ((HB0.out.alloc HB0.out.size _).alloc (le_al HB0.out.size) _).alloc (le_al (le_al HB0.out.size)) _) (hb6.mono (by (try simp only [World.size_alloc]); (try simp only [size_setCell']); omega)))
      have HN6 := Lib.hid hb6
      clear hb6 hs6
      obtain ⟨p6, q6, rfl⟩ := (show SlAt w6 5 Ent.cells _ (lostOf A B) from hr.sl.1).len
      obtain ⟨r6, s6, rfl⟩ := (show SlAt w6 5 Ent.cells _ (lostOf B A) from hr.sl.2.1).len
      obtain ⟨t6, x6, rfl⟩ := (show SlAt w6 6 Ino.cells _ (wasOf A B) from hr.sl.2.2.1).len
      obtain ⟨y6, z6, rfl⟩ := (show SlAt w6 2 St.cells _ (newOf A B) from hr.sl.2.2.2).len
      have HL6 : Hid (EntRow _ (.slice p6 (lostOf A B).length q6) (lostOf A B) w6) := Lib.hid hr.1
      have HM6 : Hid (EntRow _ (.slice r6 (lostOf B A).length s6) (lostOf B A) w6) := Lib.hid hr.2.1
      clear hr
      have HR3c := Lib.hid ((HR3b.out.below ((New.refl _).alloc _).below).below HN6.out)
      have HR4b := Lib.hid ((HR4a.out.below ((New.refl _).alloc _).below).below HN6.out)
      have HL5a := Lib.hid ((HL5.out.kept ((New.refl _).alloc _).below).kept HN6.out)
      have HM5a := Lib.hid ((HM5.out.kept ((New.refl _).alloc _).below).kept HN6.out)
      go_wp2_with fail
      refine (diff_any hb cb B C _ HOB.out HOC.out (HR3c.out.below ((New.refl _).alloc _).below) (HR4b.out.below ((New.refl _).alloc _).below)).mono ?_
      rintro e w7 ⟨u1, u2, u3, u4, rfl, hr, hb7⟩
      obtain ⟨hc7, hf7⟩ := bcell hb7
      have hs7 := hb7.size
      try simp only [World.size_alloc] at hs7
      try simp only [size_setCell'] at hs7
      try have le7_0 : w.heap.size ≤ w7.heap.size := (by omega)
      try have lt7_0 : w.heap.size < w7.heap.size := (by omega)
      try have le7_1 : w1.heap.size ≤ w7.heap.size := (by omega)
      try have lt7_1 : w1.heap.size < w7.heap.size := (by omega)
      try have le7_2 : w2.heap.size ≤ w7.heap.size := (by omega)
      try have lt7_2 : w2.heap.size < w7.heap.size := (by omega)
      try have le7_3 : w3.heap.size ≤ w7.heap.size := (by omega)
      try have lt7_3 : w3.heap.size < w7.heap.size := (by omega)
      try have le7_4 : w4.heap.size ≤ w7.heap.size := (by omega)
      try have lt7_4 : w4.heap.size < w7.heap.size := (by omega)
      try have le7_5 : w5.heap.size ≤ w7.heap.size := (by omega)
      try have lt7_5 : w5.heap.size < w7.heap.size := (by omega)
      try have le7_6 : w6.heap.size ≤ w7.heap.size := (by omega)
      try have lt7_6 : w6.heap.size < w7.heap.size := (by omega)
      have HB7 : Hid (Below w.heap.size w w7) := Lib.hid (Below.trans (by first | exact HB6.out | exact HB6.out.alloc HB6.out.size _ | exact (HB6.out.alloc HB6.out.size _).alloc (le_al HB6.out.size) _ | exact ((HB6.out.alloc HB6.out.size _).alloc (le_al HB6.out.size) _).alloc (le_al (le_al HB6.out.size)) _ | exact HB5.out | exact HB5.out.alloc HB5.out.size _ | exact (HB5.out.alloc HB5.out.size _).alloc (le_al HB5.out.size) _ | exact ((HB5.out.alloc HB5.out.size _).alloc (le_al HB5.out.size) _).alloc (le_al (le_al HB5.out.size)) _ | exact HB4.out | exact HB4.out.alloc HB4.out.size _ | exact (HB4.out.alloc HB4.out.size _).alloc (le_al HB4.out.size) _ | exact ((HB4.out.alloc HB4.out.size _).alloc (le_al HB4.out.size) _).alloc (le_al (le_al HB4.out.size)) _ | exact HB3.out | exact HB3.out.alloc HB3.out.size _ | exact (HB3.out.alloc HB3.out.size _).alloc (le_al HB3.out.size) _ | exact ((HB3.out.alloc HB3.out.size _).alloc (le_al HB3.out.size) _).alloc (le_al (le_al HB3.out.size)) _ | exact HB2.out | exact HB2.out.alloc HB2.out.size _ | exact (HB2.out.alloc HB2.out.size _).alloc (le_al HB2.out.size) _ | exact ((HB2.out.alloc HB2.out.size _).alloc (le_al HB2.out.size) _).alloc (le_al (le_al HB2.out.size)) _ | exact HB1.out | exact HB1.out.alloc HB1.out.size _ | exact (HB1.out.alloc HB1.out.size _).alloc (le_al HB1.out.size) _ | exact ((HB1.out.alloc HB1.out.size _).alloc (le_al HB1.out.size) _).alloc (le_al (le_al HB1.out.size)) _ | exact HB0.out | exact HB0.out.alloc HB0.out.size _ | exact (HB0.out.alloc HB0.out.size _).alloc (le_al HB0.out.size) _ | exact ((HB0.out.alloc HB0.out.size _).alloc (le_al HB0.out.size) _).alloc (le_al (le_al HB0.out.size)) _) (hb7.mono (by (try simp only [World.size_alloc]); (try simp only [size_setCell']); omega)))
      have HN7 := Lib.hid hb7
      clear hb7 hs7
      obtain ⟨p7, q7, rfl⟩ := (show SlAt w7 5 Ent.cells _ (lostOf B C) from hr.sl.1).len
      obtain ⟨r7, s7, rfl⟩ := (show SlAt w7 5 Ent.cells _ (lostOf C B) from hr.sl.2.1).len
      obtain ⟨t7, x7, rfl⟩ := (show SlAt w7 6 Ino.cells _ (wasOf B C) from hr.sl.2.2.1).len
      obtain ⟨y7, z7, rfl⟩ := (show SlAt w7 2 St.cells _ (newOf B C) from hr.sl.2.2.2).len
      have HL7 : Hid (EntRow _ (.slice p7 (lostOf B C).length q7) (lostOf B C) w7) := Lib.hid hr.1
      have HM7 : Hid (EntRow _ (.slice r7 (lostOf C B).length s7) (lostOf C B) w7) := Lib.hid hr.2.1
      clear hr
      have HL5b := Lib.hid ((HL5a.out.kept ((New.refl _).alloc _).below).kept HN7.out)
      have HM5b := Lib.hid ((HM5a.out.kept ((New.refl _).alloc _).below).kept HN7.out)
      have HL6a := Lib.hid ((HL6.out.kept ((New.refl _).alloc _).below).kept HN7.out)
      have HM6a := Lib.hid ((HM6.out.kept ((New.refl _).alloc _).below).kept HN7.out)
      go_wp2_with fail
      refine (within_any _ _ _ _ _ (lostOf A C) (lostOf A B) (lostOf B C) _ (HL5b.out.kept ((New.refl _).alloc _).below).sl (HL6a.out.kept ((New.refl _).alloc _).below) (HL7.out.kept ((New.refl _).alloc _).below) HSZ.out.1 HSZ.out.2.1 HSZ.out.2.2.1 HIN.out.1).mono ?_
      rintro e w8 ⟨rfl, hb8⟩
      obtain ⟨hc8, hf8⟩ := bcell hb8
      have hs8 := hb8.size
      try simp only [World.size_alloc] at hs8
      try simp only [size_setCell'] at hs8
      try have le8_0 : w.heap.size ≤ w8.heap.size := (by omega)
      try have lt8_0 : w.heap.size < w8.heap.size := (by omega)
      try have le8_1 : w1.heap.size ≤ w8.heap.size := (by omega)
      try have lt8_1 : w1.heap.size < w8.heap.size := (by omega)
      try have le8_2 : w2.heap.size ≤ w8.heap.size := (by omega)
      try have lt8_2 : w2.heap.size < w8.heap.size := (by omega)
      try have le8_3 : w3.heap.size ≤ w8.heap.size := (by omega)
      try have lt8_3 : w3.heap.size < w8.heap.size := (by omega)
      try have le8_4 : w4.heap.size ≤ w8.heap.size := (by omega)
      try have lt8_4 : w4.heap.size < w8.heap.size := (by omega)
      try have le8_5 : w5.heap.size ≤ w8.heap.size := (by omega)
      try have lt8_5 : w5.heap.size < w8.heap.size := (by omega)
      try have le8_6 : w6.heap.size ≤ w8.heap.size := (by omega)
      try have lt8_6 : w6.heap.size < w8.heap.size := (by omega)
      try have le8_7 : w7.heap.size ≤ w8.heap.size := (by omega)
      try have lt8_7 : w7.heap.size < w8.heap.size := (by omega)
      have HB8 : Hid (Below w.heap.size w w8) := Lib.hid (Below.trans (by first | exact HB7.out | exact HB7.out.alloc HB7.out.size _ | exact (HB7.out.alloc HB7.out.size _).alloc (le_al HB7.out.size) _ | exact ((HB7.out.alloc HB7.out.size _).alloc (le_al HB7.out.size) _).alloc (le_al (le_al HB7.out.size)) _ | exact HB6.out | exact HB6.out.alloc HB6.out.size _ | exact (HB6.out.alloc HB6.out.size _).alloc (le_al HB6.out.size) _ | exact ((HB6.out.alloc HB6.out.size _).alloc (le_al HB6.out.size) _).alloc (le_al (le_al HB6.out.size)) _ | exact HB5.out | exact HB5.out.alloc HB5.out.size _ | exact (HB5.out.alloc HB5.out.size _).alloc (le_al HB5.out.size) _ | exact ((HB5.out.alloc HB5.out.size _).alloc (le_al HB5.out.size) _).alloc (le_al (le_al HB5.out.size)) _ | exact HB4.out | exact HB4.out.alloc HB4.out.size _ | exact (HB4.out.alloc HB4.out.size _).alloc (le_al HB4.out.size) _ | exact ((HB4.out.alloc HB4.out.size _).alloc (le_al HB4.out.size) _).alloc (le_al (le_al HB4.out.size)) _ | exact HB3.out | exact HB3.out.alloc HB3.out.size _ | exact (HB3.out.alloc HB3.out.size _).alloc (le_al HB3.out.size) _ | exact ((HB3.out.alloc HB3.out.size _).alloc (le_al HB3.out.size) _).alloc (le_al (le_al HB3.out.size)) _ | exact HB2.out | exact HB2.out.alloc HB2.out.size _ | exact (HB2.out.alloc HB2.out.size _).alloc (le_al HB2.out.size) _ | exact ((HB2.out.alloc HB2.out.size _).alloc (le_al HB2.out.size) _).alloc (le_al (le_al HB2.out.size)) _ | exact HB1.out | exact HB1.out.alloc HB1.out.size _ | exact (HB1.out.alloc HB1.out.size _).alloc (le_al HB1.out.size) _ | exact ((HB1.out.alloc HB1.out.size _).alloc (le_al HB1.out.size) _).alloc (le_al (le_al HB1.out.size)) _ | exact HB0.out | exact HB0.out.alloc HB0.out.size _ | exact (HB0.out.alloc HB0.out.size _).alloc (le_al HB0.out.size) _ | exact ((HB0.out.alloc HB0.out.size _).alloc (le_al HB0.out.size) _).alloc (le_al (le_al HB0.out.size)) _) (hb8.mono (by (try simp only [World.size_alloc]); (try simp only [size_setCell']); omega)))
      have HN8 := Lib.hid hb8
      clear hb8 hs8
      have HM5c := Lib.hid ((HM5b.out.kept ((New.refl _).alloc _).below).kept HN8.out)
      have HM6b := Lib.hid ((HM6a.out.kept ((New.refl _).alloc _).below).kept HN8.out)
      have HM7a := Lib.hid ((HM7.out.kept ((New.refl _).alloc _).below).kept HN8.out)
      go_wp2_with fail
      refine (within_any _ _ _ _ _ (lostOf C A) (lostOf B A) (lostOf C B) _ HM5c.out.sl HM6b.out HM7a.out HSZ.out.2.2.2.1 HSZ.out.2.2.2.2.1 HSZ.out.2.2.2.2.2 HIN.out.2).mono ?_
      rintro e w9 ⟨rfl, hb9⟩
      obtain ⟨hc9, hf9⟩ := bcell hb9
      have hs9 := hb9.size
      try simp only [World.size_alloc] at hs9
      try simp only [size_setCell'] at hs9
      try have le9_0 : w.heap.size ≤ w9.heap.size := (by omega)
      try have lt9_0 : w.heap.size < w9.heap.size := (by omega)
      try have le9_1 : w1.heap.size ≤ w9.heap.size := (by omega)
      try have lt9_1 : w1.heap.size < w9.heap.size := (by omega)
      try have le9_2 : w2.heap.size ≤ w9.heap.size := (by omega)
      try have lt9_2 : w2.heap.size < w9.heap.size := (by omega)
      try have le9_3 : w3.heap.size ≤ w9.heap.size := (by omega)
      try have lt9_3 : w3.heap.size < w9.heap.size := (by omega)
      try have le9_4 : w4.heap.size ≤ w9.heap.size := (by omega)
      try have lt9_4 : w4.heap.size < w9.heap.size := (by omega)
      try have le9_5 : w5.heap.size ≤ w9.heap.size := (by omega)
      try have lt9_5 : w5.heap.size < w9.heap.size := (by omega)
      try have le9_6 : w6.heap.size ≤ w9.heap.size := (by omega)
      try have lt9_6 : w6.heap.size < w9.heap.size := (by omega)
      try have le9_7 : w7.heap.size ≤ w9.heap.size := (by omega)
      try have lt9_7 : w7.heap.size < w9.heap.size := (by omega)
      try have le9_8 : w8.heap.size ≤ w9.heap.size := (by omega)
      try have lt9_8 : w8.heap.size < w9.heap.size := (by omega)
      have HB9 : Hid (Below w.heap.size w w9) := Lib.hid (Below.trans (by first | exact HB8.out | exact HB8.out.alloc HB8.out.size _ | exact (HB8.out.alloc HB8.out.size _).alloc (le_al HB8.out.size) _ | exact ((HB8.out.alloc HB8.out.size _).alloc (le_al HB8.out.size) _).alloc (le_al (le_al HB8.out.size)) _ | exact HB7.out | exact HB7.out.alloc HB7.out.size _ | exact (HB7.out.alloc HB7.out.size _).alloc (le_al HB7.out.size) _ | exact ((HB7.out.alloc HB7.out.size _).alloc (le_al HB7.out.size) _).alloc (le_al (le_al HB7.out.size)) _ | exact HB6.out | exact HB6.out.alloc HB6.out.size _ | exact (HB6.out.alloc HB6.out.size _).alloc (le_al HB6.out.size) _ | exact ((HB6.out.alloc HB6.out.size _).alloc (le_al HB6.out.size) _).alloc (le_al (le_al HB6.out.size)) _ | exact HB5.out | exact HB5.out.alloc HB5.out.size _ | exact (HB5.out.alloc HB5.out.size _).alloc (le_al HB5.out.size) _ | exact ((HB5.out.alloc HB5.out.size _).alloc (le_al HB5.out.size) _).alloc (le_al (le_al HB5.out.size)) _ | exact HB4.out | exact HB4.out.alloc HB4.out.size _ | exact (HB4.out.alloc HB4.out.size _).alloc (le_al HB4.out.size) _ | exact ((HB4.out.alloc HB4.out.size _).alloc (le_al HB4.out.size) _).alloc (le_al (le_al HB4.out.size)) _ | exact HB3.out | exact HB3.out.alloc HB3.out.size _ | exact (HB3.out.alloc HB3.out.size _).alloc (le_al HB3.out.size) _ | exact ((HB3.out.alloc HB3.out.size _).alloc (le_al HB3.out.size) _).alloc (le_al (le_al HB3.out.size)) _ | exact HB2.out | exact HB2.out.alloc HB2.out.size _ | exact (HB2.out.alloc HB2.out.size _).alloc (le_al HB2.out.size) _ | exact ((HB2.out.alloc HB2.out.size _).alloc (le_al HB2.out.size) _).alloc (le_al (le_al HB2.out.size)) _ | exact HB1.out | exact HB1.out.alloc HB1.out.size _ | exact (HB1.out.alloc HB1.out.size _).alloc (le_al HB1.out.size) _ | exact ((HB1.out.alloc HB1.out.size _).alloc (le_al HB1.out.size) _).alloc (le_al (le_al HB1.out.size)) _ | exact HB0.out | exact HB0.out.alloc HB0.out.size _ | exact (HB0.out.alloc HB0.out.size _).alloc (le_al HB0.out.size) _ | exact ((HB0.out.alloc HB0.out.size _).alloc (le_al HB0.out.size) _).alloc (le_al (le_al HB0.out.size)) _) (hb9.mono (by (try simp only [World.size_alloc]); (try simp only [size_setCell']); omega)))
      have HN9 := Lib.hid hb9
      clear hb9 hs9
      go_wp2
      go_ret
      exact ⟨by first | rfl | simp [*], HB9.out⟩
    | some a1 =>
      clear hnone
      go_enter Tryz.func6, Tryz.ntmps6
      go_wp2_with fail
      refine (shown_any _).mono ?_
      rintro e w1 ⟨rfl, hb1⟩
      obtain ⟨hc1, hf1⟩ := bcell hb1
      have hs1 := hb1.size
      try simp only [World.size_alloc] at hs1
      try simp only [size_setCell'] at hs1
      try have le1_0 : w.heap.size ≤ w1.heap.size := (by omega)
      try have lt1_0 : w.heap.size < w1.heap.size := (by omega)
      have HB1 : Hid (Below w.heap.size w w1) := Lib.hid (Below.trans (by first | exact HB0.out | exact HB0.out.alloc HB0.out.size _ | exact (HB0.out.alloc HB0.out.size _).alloc (le_al HB0.out.size) _ | exact ((HB0.out.alloc HB0.out.size _).alloc (le_al HB0.out.size) _).alloc (le_al (le_al HB0.out.size)) _) (hb1.mono (by (try simp only [World.size_alloc]); (try simp only [size_setCell']); omega)))
      have HN1 := Lib.hid hb1
      clear hb1 hs1
      go_wp2_with (go_at_call 25; refine (HF1.out _ HB1.out).mono ?_; rintro y w' ⟨rfl, rfl⟩)
      go_wp2_with fail
      refine (HMA.out _ (by first | exact HB1.out | exact HB1.out.alloc HB1.out.size _ | exact (HB1.out.alloc HB1.out.size _).alloc (le_al HB1.out.size) _ | exact ((HB1.out.alloc HB1.out.size _).alloc (le_al HB1.out.size) _).alloc (le_al (le_al HB1.out.size)) _ | exact HB0.out | exact HB0.out.alloc HB0.out.size _ | exact (HB0.out.alloc HB0.out.size _).alloc (le_al HB0.out.size) _ | exact ((HB0.out.alloc HB0.out.size _).alloc (le_al HB0.out.size) _).alloc (le_al (le_al HB0.out.size)) _)).mono ?_
      rintro e w2 ⟨va, rfl, ⟨gb, mI, mE, rfl, hG2, _, _, _⟩, hb2⟩
      obtain ⟨hc2, hf2⟩ := bcell hb2
      have hs2 := hb2.size
      try simp only [World.size_alloc] at hs2
      try simp only [size_setCell'] at hs2
      try have le2_0 : w.heap.size ≤ w2.heap.size := (by omega)
      try have lt2_0 : w.heap.size < w2.heap.size := (by omega)
      try have le2_1 : w1.heap.size ≤ w2.heap.size := (by omega)
      try have lt2_1 : w1.heap.size < w2.heap.size := (by omega)
      have HB2 : Hid (Below w.heap.size w w2) := Lib.hid (Below.trans (by first | exact HB1.out | exact HB1.out.alloc HB1.out.size _ | exact (HB1.out.alloc HB1.out.size _).alloc (le_al HB1.out.size) _ | exact ((HB1.out.alloc HB1.out.size _).alloc (le_al HB1.out.size) _).alloc (le_al (le_al HB1.out.size)) _ | exact HB0.out | exact HB0.out.alloc HB0.out.size _ | exact (HB0.out.alloc HB0.out.size _).alloc (le_al HB0.out.size) _ | exact ((HB0.out.alloc HB0.out.size _).alloc (le_al HB0.out.size) _).alloc (le_al (le_al HB0.out.size)) _) (hb2.mono (by (try simp only [World.size_alloc]); (try simp only [size_setCell']); omega)))
      have HN2 := Lib.hid hb2
      clear hb2 hs2
      have HR2 := Lib.hid (hG2.reads (ran_ok _) (by have := (ran_ok (l.take m1)).few; omega))
      clear hG2
      go_wp2_with fail
      refine (HMB.out _ (by first | exact HB2.out | exact HB2.out.alloc HB2.out.size _ | exact (HB2.out.alloc HB2.out.size _).alloc (le_al HB2.out.size) _ | exact ((HB2.out.alloc HB2.out.size _).alloc (le_al HB2.out.size) _).alloc (le_al (le_al HB2.out.size)) _ | exact HB1.out | exact HB1.out.alloc HB1.out.size _ | exact (HB1.out.alloc HB1.out.size _).alloc (le_al HB1.out.size) _ | exact ((HB1.out.alloc HB1.out.size _).alloc (le_al HB1.out.size) _).alloc (le_al (le_al HB1.out.size)) _ | exact HB0.out | exact HB0.out.alloc HB0.out.size _ | exact (HB0.out.alloc HB0.out.size _).alloc (le_al HB0.out.size) _ | exact ((HB0.out.alloc HB0.out.size _).alloc (le_al HB0.out.size) _).alloc (le_al (le_al HB0.out.size)) _)).mono ?_
      rintro e w3 ⟨vb, rfl, ⟨hb, nI, nE, rfl, hG3, _, _, _⟩, hb3⟩
      obtain ⟨hc3, hf3⟩ := bcell hb3
      have hs3 := hb3.size
      try simp only [World.size_alloc] at hs3
      try simp only [size_setCell'] at hs3
      try have le3_0 : w.heap.size ≤ w3.heap.size := (by omega)
      try have lt3_0 : w.heap.size < w3.heap.size := (by omega)
      try have le3_1 : w1.heap.size ≤ w3.heap.size := (by omega)
      try have lt3_1 : w1.heap.size < w3.heap.size := (by omega)
      try have le3_2 : w2.heap.size ≤ w3.heap.size := (by omega)
      try have lt3_2 : w2.heap.size < w3.heap.size := (by omega)
      have HB3 : Hid (Below w.heap.size w w3) := Lib.hid (Below.trans (by first | exact HB2.out | exact HB2.out.alloc HB2.out.size _ | exact (HB2.out.alloc HB2.out.size _).alloc (le_al HB2.out.size) _ | exact ((HB2.out.alloc HB2.out.size _).alloc (le_al HB2.out.size) _).alloc (le_al (le_al HB2.out.size)) _ | exact HB1.out | exact HB1.out.alloc HB1.out.size _ | exact (HB1.out.alloc HB1.out.size _).alloc (le_al HB1.out.size) _ | exact ((HB1.out.alloc HB1.out.size _).alloc (le_al HB1.out.size) _).alloc (le_al (le_al HB1.out.size)) _ | exact HB0.out | exact HB0.out.alloc HB0.out.size _ | exact (HB0.out.alloc HB0.out.size _).alloc (le_al HB0.out.size) _ | exact ((HB0.out.alloc HB0.out.size _).alloc (le_al HB0.out.size) _).alloc (le_al (le_al HB0.out.size)) _) (hb3.mono (by (try simp only [World.size_alloc]); (try simp only [size_setCell']); omega)))
      have HN3 := Lib.hid hb3
      clear hb3 hs3
      have HR3 := Lib.hid (hG3.reads (ran_ok _) (by have := (ran_ok (l.take m2)).few; omega))
      have HR2a := Lib.hid (HR2.out.below HN3.out)
      clear hG3
      go_wp2_with fail
      refine (HMC.out _ (by first | exact HB3.out | exact HB3.out.alloc HB3.out.size _ | exact (HB3.out.alloc HB3.out.size _).alloc (le_al HB3.out.size) _ | exact ((HB3.out.alloc HB3.out.size _).alloc (le_al HB3.out.size) _).alloc (le_al (le_al HB3.out.size)) _ | exact HB2.out | exact HB2.out.alloc HB2.out.size _ | exact (HB2.out.alloc HB2.out.size _).alloc (le_al HB2.out.size) _ | exact ((HB2.out.alloc HB2.out.size _).alloc (le_al HB2.out.size) _).alloc (le_al (le_al HB2.out.size)) _ | exact HB1.out | exact HB1.out.alloc HB1.out.size _ | exact (HB1.out.alloc HB1.out.size _).alloc (le_al HB1.out.size) _ | exact ((HB1.out.alloc HB1.out.size _).alloc (le_al HB1.out.size) _).alloc (le_al (le_al HB1.out.size)) _ | exact HB0.out | exact HB0.out.alloc HB0.out.size _ | exact (HB0.out.alloc HB0.out.size _).alloc (le_al HB0.out.size) _ | exact ((HB0.out.alloc HB0.out.size _).alloc (le_al HB0.out.size) _).alloc (le_al (le_al HB0.out.size)) _)).mono ?_
      rintro e w4 ⟨vc, rfl, ⟨cb, pI, pE, rfl, hG4, _, _, _⟩, hb4⟩
      obtain ⟨hc4, hf4⟩ := bcell hb4
      have hs4 := hb4.size
      try simp only [World.size_alloc] at hs4
      try simp only [size_setCell'] at hs4
      try have le4_0 : w.heap.size ≤ w4.heap.size := (by omega)
      try have lt4_0 : w.heap.size < w4.heap.size := (by omega)
      try have le4_1 : w1.heap.size ≤ w4.heap.size := (by omega)
      try have lt4_1 : w1.heap.size < w4.heap.size := (by omega)
      try have le4_2 : w2.heap.size ≤ w4.heap.size := (by omega)
      try have lt4_2 : w2.heap.size < w4.heap.size := (by omega)
      try have le4_3 : w3.heap.size ≤ w4.heap.size := (by omega)
      try have lt4_3 : w3.heap.size < w4.heap.size := (by omega)
      have HB4 : Hid (Below w.heap.size w w4) := Lib.hid (Below.trans (by first | exact HB3.out | exact HB3.out.alloc HB3.out.size _ | exact (HB3.out.alloc HB3.out.size _).alloc (le_al HB3.out.size) _ | exact ((HB3.out.alloc HB3.out.size _).alloc (le_al HB3.out.size) _).alloc (le_al (le_al HB3.out.size)) _ | exact HB2.out | exact HB2.out.alloc HB2.out.size _ | exact (HB2.out.alloc HB2.out.size _).alloc (le_al HB2.out.size) _ | exact ((HB2.out.alloc HB2.out.size _).alloc (le_al HB2.out.size) _).alloc (le_al (le_al HB2.out.size)) _ | exact HB1.out | exact HB1.out.alloc HB1.out.size _ | exact (HB1.out.alloc HB1.out.size _).alloc (le_al HB1.out.size) _ | exact ((HB1.out.alloc HB1.out.size _).alloc (le_al HB1.out.size) _).alloc (le_al (le_al HB1.out.size)) _ | exact HB0.out | exact HB0.out.alloc HB0.out.size _ | exact (HB0.out.alloc HB0.out.size _).alloc (le_al HB0.out.size) _ | exact ((HB0.out.alloc HB0.out.size _).alloc (le_al HB0.out.size) _).alloc (le_al (le_al HB0.out.size)) _) (hb4.mono (by (try simp only [World.size_alloc]); (try simp only [size_setCell']); omega)))
      have HN4 := Lib.hid hb4
      clear hb4 hs4
      have HR4 := Lib.hid (hG4.reads (ran_ok _) (by have := (ran_ok l).few; omega))
      have HR2b := Lib.hid (HR2a.out.below HN4.out)
      have HR3a := Lib.hid (HR3.out.below HN4.out)
      clear hG4
      generalize ran (l.take m1) = A at *
      generalize ran (l.take m2) = B at *
      generalize ran l = C at *
      go_wp2_with fail
      refine (diff_any gb cb A C _ HOA.out HOC.out HR2b.out HR4.out).mono ?_
      rintro e w5 ⟨u1, u2, u3, u4, rfl, hr, hb5⟩
      obtain ⟨hc5, hf5⟩ := bcell hb5
      have hs5 := hb5.size
      try simp only [World.size_alloc] at hs5
      try simp only [size_setCell'] at hs5
      try have le5_0 : w.heap.size ≤ w5.heap.size := (by omega)
      try have lt5_0 : w.heap.size < w5.heap.size := (by omega)
      try have le5_1 : w1.heap.size ≤ w5.heap.size := (by omega)
      try have lt5_1 : w1.heap.size < w5.heap.size := (by omega)
      try have le5_2 : w2.heap.size ≤ w5.heap.size := (by omega)
      try have lt5_2 : w2.heap.size < w5.heap.size := (by omega)
      try have le5_3 : w3.heap.size ≤ w5.heap.size := (by omega)
      try have lt5_3 : w3.heap.size < w5.heap.size := (by omega)
      try have le5_4 : w4.heap.size ≤ w5.heap.size := (by omega)
      try have lt5_4 : w4.heap.size < w5.heap.size := (by omega)
      have HB5 : Hid (Below w.heap.size w w5) := Lib.hid (Below.trans (by first | exact HB4.out | exact HB4.out.alloc HB4.out.size _ | exact (HB4.out.alloc HB4.out.size _).alloc (le_al HB4.out.size) _ | exact ((HB4.out.alloc HB4.out.size _).alloc (le_al HB4.out.size) _).alloc (le_al (le_al HB4.out.size)) _ | exact HB3.out | exact HB3.out.alloc HB3.out.size _ | exact (HB3.out.alloc HB3.out.size _).alloc (le_al HB3.out.size) _ | exact ((HB3.out.alloc HB3.out.size _).alloc (le_al HB3.out.size) _).alloc (le_al (le_al HB3.out.size)) _ | exact HB2.out | exact HB2.out.alloc HB2.out.size _ | exact (HB2.out.alloc HB2.out.size _).alloc (le_al HB2.out.size) _ | exact ((HB2.out.alloc HB2.out.size _).alloc (le_al HB2.out.size) _).alloc (le_al (le_al HB2.out.size)) _ | exact HB1.out | exact HB1.out.alloc HB1.out.size _ | exact (HB1.out.alloc HB1.out.size _).alloc (le_al HB1.out.size) _ | exact ((HB1.out.alloc HB1.out.size _).alloc (le_al HB1.out.size) _).alloc (le_al (le_al HB1.out.size)) _ | exact HB0.out | exact HB0.out.alloc HB0.out.size _ | exact (HB0.out.alloc HB0.out.size _).alloc (le_al HB0.out.size) _ | exact ((HB0.out.alloc HB0.out.size _).alloc (le_al HB0.out.size) _).alloc (le_al (le_al HB0.out.size)) _) (hb5.mono (by (try simp only [World.size_alloc]); (try simp only [size_setCell']); omega)))
      have HN5 := Lib.hid hb5
      clear hb5 hs5
      obtain ⟨p5, q5, rfl⟩ := (show SlAt w5 5 Ent.cells _ (lostOf A C) from hr.sl.1).len
      obtain ⟨r5, s5, rfl⟩ := (show SlAt w5 5 Ent.cells _ (lostOf C A) from hr.sl.2.1).len
      obtain ⟨t5, x5, rfl⟩ := (show SlAt w5 6 Ino.cells _ (wasOf A C) from hr.sl.2.2.1).len
      obtain ⟨y5, z5, rfl⟩ := (show SlAt w5 2 St.cells _ (newOf A C) from hr.sl.2.2.2).len
      have HL5 : Hid (EntRow _ (.slice p5 (lostOf A C).length q5) (lostOf A C) w5) := Lib.hid hr.1
      have HM5 : Hid (EntRow _ (.slice r5 (lostOf C A).length s5) (lostOf C A) w5) := Lib.hid hr.2.1
      clear hr
      have HR2c := Lib.hid (HR2b.out.below HN5.out)
      have HR3b := Lib.hid (HR3a.out.below HN5.out)
      have HR4a := Lib.hid (HR4.out.below HN5.out)
      go_wp2_with fail
      refine (diff_any gb hb A B _ HOA.out HOB.out (HR2c.out.below ((New.refl _).alloc _).below) (HR3b.out.below ((New.refl _).alloc _).below)).mono ?_
      rintro e w6 ⟨u1, u2, u3, u4, rfl, hr, hb6⟩
      obtain ⟨hc6, hf6⟩ := bcell hb6
      have hs6 := hb6.size
      try simp only [World.size_alloc] at hs6
      try simp only [size_setCell'] at hs6
      try have le6_0 : w.heap.size ≤ w6.heap.size := (by omega)
      try have lt6_0 : w.heap.size < w6.heap.size := (by omega)
      try have le6_1 : w1.heap.size ≤ w6.heap.size := (by omega)
      try have lt6_1 : w1.heap.size < w6.heap.size := (by omega)
      try have le6_2 : w2.heap.size ≤ w6.heap.size := (by omega)
      try have lt6_2 : w2.heap.size < w6.heap.size := (by omega)
      try have le6_3 : w3.heap.size ≤ w6.heap.size := (by omega)
      try have lt6_3 : w3.heap.size < w6.heap.size := (by omega)
      try have le6_4 : w4.heap.size ≤ w6.heap.size := (by omega)
      try have lt6_4 : w4.heap.size < w6.heap.size := (by omega)
      try have le6_5 : w5.heap.size ≤ w6.heap.size := (by omega)
      try have lt6_5 : w5.heap.size < w6.heap.size := (by omega)
      have HB6 : Hid (Below w.heap.size w w6) := Lib.hid (Below.trans (by first | exact HB5.out | exact HB5.out.alloc HB5.out.size _ | exact (HB5.out.alloc HB5.out.size _).alloc (le_al HB5.out.size) _ | exact ((HB5.out.alloc HB5.out.size _).alloc (le_al HB5.out.size) _).alloc (le_al (le_al HB5.out.size)) _ | exact HB4.out | exact HB4.out.alloc HB4.out.size _ | exact (HB4.out.alloc HB4.out.size _).alloc (le_al HB4.out.size) _ | exact ((HB4.out.alloc HB4.out.size _).alloc (le_al HB4.out.size) _).alloc (le_al (le_al HB4.out.size)) _ | exact HB3.out | exact HB3.out.alloc HB3.out.size _ | exact (HB3.out.alloc HB3.out.size _).alloc (le_al HB3.out.size) _ | exact ((HB3.out.alloc HB3.out.size _).alloc (le_al HB3.out.size) _).alloc (le_al (le_al HB3.out.size)) _ | exact HB2.out | exact HB2.out.alloc HB2.out.size _ | exact (HB2.out.alloc HB2.out.size _).alloc (le_al HB2.out.size) _ | exact ((HB2.out.alloc HB2.out.size _).alloc (le_al HB2.out.size) _).alloc (le_al (le_al HB2.out.size)) _ | exact HB1.out | exact HB1.out.alloc HB1.out.size _ | exact (HB1.out.alloc HB1.out.size _).alloc (le_al HB1.out.size) _ | exact ((HB1.out.alloc HB1.out.size _).alloc (le_al HB1.out.size) _).alloc (le_al (le_al HB1.out.size)) _ | exact HB0.out | exact HB0.out.alloc HB0.out.size _ | exact (HB0.out.alloc HB0.out.size _).alloc (le_al HB0.out.size) _ | exact ((HB0.out.alloc HB0.out.size _).alloc (le_al HB0.out.size) _).alloc (le_al (le_al HB0.out.size)) _) (hb6.mono (by (try simp only [World.size_alloc]); (try simp only [size_setCell']); omega)))
      have HN6 := Lib.hid hb6
      clear hb6 hs6
      obtain ⟨p6, q6, rfl⟩ := (show SlAt w6 5 Ent.cells _ (lostOf A B) from hr.sl.1).len
      obtain ⟨r6, s6, rfl⟩ := (show SlAt w6 5 Ent.cells _ (lostOf B A) from hr.sl.2.1).len
      obtain ⟨t6, x6, rfl⟩ := (show SlAt w6 6 Ino.cells _ (wasOf A B) from hr.sl.2.2.1).len
      obtain ⟨y6, z6, rfl⟩ := (show SlAt w6 2 St.cells _ (newOf A B) from hr.sl.2.2.2).len
      have HL6 : Hid (EntRow _ (.slice p6 (lostOf A B).length q6) (lostOf A B) w6) := Lib.hid hr.1
      have HM6 : Hid (EntRow _ (.slice r6 (lostOf B A).length s6) (lostOf B A) w6) := Lib.hid hr.2.1
      clear hr
      have HR3c := Lib.hid ((HR3b.out.below ((New.refl _).alloc _).below).below HN6.out)
      have HR4b := Lib.hid ((HR4a.out.below ((New.refl _).alloc _).below).below HN6.out)
      have HL5a := Lib.hid ((HL5.out.kept ((New.refl _).alloc _).below).kept HN6.out)
      have HM5a := Lib.hid ((HM5.out.kept ((New.refl _).alloc _).below).kept HN6.out)
      go_wp2_with fail
      refine (diff_any hb cb B C _ HOB.out HOC.out (HR3c.out.below ((New.refl _).alloc _).below) (HR4b.out.below ((New.refl _).alloc _).below)).mono ?_
      rintro e w7 ⟨u1, u2, u3, u4, rfl, hr, hb7⟩
      obtain ⟨hc7, hf7⟩ := bcell hb7
      have hs7 := hb7.size
      try simp only [World.size_alloc] at hs7
      try simp only [size_setCell'] at hs7
      try have le7_0 : w.heap.size ≤ w7.heap.size := (by omega)
      try have lt7_0 : w.heap.size < w7.heap.size := (by omega)
      try have le7_1 : w1.heap.size ≤ w7.heap.size := (by omega)
      try have lt7_1 : w1.heap.size < w7.heap.size := (by omega)
      try have le7_2 : w2.heap.size ≤ w7.heap.size := (by omega)
      try have lt7_2 : w2.heap.size < w7.heap.size := (by omega)
      try have le7_3 : w3.heap.size ≤ w7.heap.size := (by omega)
      try have lt7_3 : w3.heap.size < w7.heap.size := (by omega)
      try have le7_4 : w4.heap.size ≤ w7.heap.size := (by omega)
      try have lt7_4 : w4.heap.size < w7.heap.size := (by omega)
      try have le7_5 : w5.heap.size ≤ w7.heap.size := (by omega)
      try have lt7_5 : w5.heap.size < w7.heap.size := (by omega)
      try have le7_6 : w6.heap.size ≤ w7.heap.size := (by omega)
      try have lt7_6 : w6.heap.size < w7.heap.size := (by omega)
      have HB7 : Hid (Below w.heap.size w w7) := Lib.hid (Below.trans (by first | exact HB6.out | exact HB6.out.alloc HB6.out.size _ | exact (HB6.out.alloc HB6.out.size _).alloc (le_al HB6.out.size) _ | exact ((HB6.out.alloc HB6.out.size _).alloc (le_al HB6.out.size) _).alloc (le_al (le_al HB6.out.size)) _ | exact HB5.out | exact HB5.out.alloc HB5.out.size _ | exact (HB5.out.alloc HB5.out.size _).alloc (le_al HB5.out.size) _ | exact ((HB5.out.alloc HB5.out.size _).alloc (le_al HB5.out.size) _).alloc (le_al (le_al HB5.out.size)) _ | exact HB4.out | exact HB4.out.alloc HB4.out.size _ | exact (HB4.out.alloc HB4.out.size _).alloc (le_al HB4.out.size) _ | exact ((HB4.out.alloc HB4.out.size _).alloc (le_al HB4.out.size) _).alloc (le_al (le_al HB4.out.size)) _ | exact HB3.out | exact HB3.out.alloc HB3.out.size _ | exact (HB3.out.alloc HB3.out.size _).alloc (le_al HB3.out.size) _ | exact ((HB3.out.alloc HB3.out.size _).alloc (le_al HB3.out.size) _).alloc (le_al (le_al HB3.out.size)) _ | exact HB2.out | exact HB2.out.alloc HB2.out.size _ | exact (HB2.out.alloc HB2.out.size _).alloc (le_al HB2.out.size) _ | exact ((HB2.out.alloc HB2.out.size _).alloc (le_al HB2.out.size) _).alloc (le_al (le_al HB2.out.size)) _ | exact HB1.out | exact HB1.out.alloc HB1.out.size _ | exact (HB1.out.alloc HB1.out.size _).alloc (le_al HB1.out.size) _ | exact ((HB1.out.alloc HB1.out.size _).alloc (le_al HB1.out.size) _).alloc (le_al (le_al HB1.out.size)) _ | exact HB0.out | exact HB0.out.alloc HB0.out.size _ | exact (HB0.out.alloc HB0.out.size _).alloc (le_al HB0.out.size) _ | exact ((HB0.out.alloc HB0.out.size _).alloc (le_al HB0.out.size) _).alloc (le_al (le_al HB0.out.size)) _) (hb7.mono (by (try simp only [World.size_alloc]); (try simp only [size_setCell']); omega)))
      have HN7 := Lib.hid hb7
      clear hb7 hs7
      obtain ⟨p7, q7, rfl⟩ := (show SlAt w7 5 Ent.cells _ (lostOf B C) from hr.sl.1).len
      obtain ⟨r7, s7, rfl⟩ := (show SlAt w7 5 Ent.cells _ (lostOf C B) from hr.sl.2.1).len
      obtain ⟨t7, x7, rfl⟩ := (show SlAt w7 6 Ino.cells _ (wasOf B C) from hr.sl.2.2.1).len
      obtain ⟨y7, z7, rfl⟩ := (show SlAt w7 2 St.cells _ (newOf B C) from hr.sl.2.2.2).len
      have HL7 : Hid (EntRow _ (.slice p7 (lostOf B C).length q7) (lostOf B C) w7) := Lib.hid hr.1
      have HM7 : Hid (EntRow _ (.slice r7 (lostOf C B).length s7) (lostOf C B) w7) := Lib.hid hr.2.1
      clear hr
      have HL5b := Lib.hid ((HL5a.out.kept ((New.refl _).alloc _).below).kept HN7.out)
      have HM5b := Lib.hid ((HM5a.out.kept ((New.refl _).alloc _).below).kept HN7.out)
      have HL6a := Lib.hid ((HL6.out.kept ((New.refl _).alloc _).below).kept HN7.out)
      have HM6a := Lib.hid ((HM6.out.kept ((New.refl _).alloc _).below).kept HN7.out)
      go_wp2_with fail
      refine (within_any _ _ _ _ _ (lostOf A C) (lostOf A B) (lostOf B C) _ (HL5b.out.kept ((New.refl _).alloc _).below).sl (HL6a.out.kept ((New.refl _).alloc _).below) (HL7.out.kept ((New.refl _).alloc _).below) HSZ.out.1 HSZ.out.2.1 HSZ.out.2.2.1 HIN.out.1).mono ?_
      rintro e w8 ⟨rfl, hb8⟩
      obtain ⟨hc8, hf8⟩ := bcell hb8
      have hs8 := hb8.size
      try simp only [World.size_alloc] at hs8
      try simp only [size_setCell'] at hs8
      try have le8_0 : w.heap.size ≤ w8.heap.size := (by omega)
      try have lt8_0 : w.heap.size < w8.heap.size := (by omega)
      try have le8_1 : w1.heap.size ≤ w8.heap.size := (by omega)
      try have lt8_1 : w1.heap.size < w8.heap.size := (by omega)
      try have le8_2 : w2.heap.size ≤ w8.heap.size := (by omega)
      try have lt8_2 : w2.heap.size < w8.heap.size := (by omega)
      try have le8_3 : w3.heap.size ≤ w8.heap.size := (by omega)
      try have lt8_3 : w3.heap.size < w8.heap.size := (by omega)
      try have le8_4 : w4.heap.size ≤ w8.heap.size := (by omega)
      try have lt8_4 : w4.heap.size < w8.heap.size := (by omega)
      try have le8_5 : w5.heap.size ≤ w8.heap.size := (by omega)
      try have lt8_5 : w5.heap.size < w8.heap.size := (by omega)
      try have le8_6 : w6.heap.size ≤ w8.heap.size := (by omega)
      try have lt8_6 : w6.heap.size < w8.heap.size := (by omega)
      try have le8_7 : w7.heap.size ≤ w8.heap.size := (by omega)
      try have lt8_7 : w7.heap.size < w8.heap.size := (by omega)
      have HB8 : Hid (Below w.heap.size w w8) := Lib.hid (Below.trans (by first | exact HB7.out | exact HB7.out.alloc HB7.out.size _ | exact (HB7.out.alloc HB7.out.size _).alloc (le_al HB7.out.size) _ | exact ((HB7.out.alloc HB7.out.size _).alloc (le_al HB7.out.size) _).alloc (le_al (le_al HB7.out.size)) _ | exact HB6.out | exact HB6.out.alloc HB6.out.size _ | exact (HB6.out.alloc HB6.out.size _).alloc (le_al HB6.out.size) _ | exact ((HB6.out.alloc HB6.out.size _).alloc (le_al HB6.out.size) _).alloc (le_al (le_al HB6.out.size)) _ | exact HB5.out | exact HB5.out.alloc HB5.out.size _ | exact (HB5.out.alloc HB5.out.size _).alloc (le_al HB5.out.size) _ | exact ((HB5.out.alloc HB5.out.size _).alloc (le_al HB5.out.size) _).alloc (le_al (le_al HB5.out.size)) _ | exact HB4.out | exact HB4.out.alloc HB4.out.size _ | exact (HB4.out.alloc HB4.out.size _).alloc (le_al HB4.out.size) _ | exact ((HB4.out.alloc HB4.out.size _).alloc (le_al HB4.out.size) _).alloc (le_al (le_al HB4.out.size)) _ | exact HB3.out | exact HB3.out.alloc HB3.out.size _ | exact (HB3.out.alloc HB3.out.size _).alloc (le_al HB3.out.size) _ | exact ((HB3.out.alloc HB3.out.size _).alloc (le_al HB3.out.size) _).alloc (le_al (le_al HB3.out.size)) _ | exact HB2.out | exact HB2.out.alloc HB2.out.size _ | exact (HB2.out.alloc HB2.out.size _).alloc (le_al HB2.out.size) _ | exact ((HB2.out.alloc HB2.out.size _).alloc (le_al HB2.out.size) _).alloc (le_al (le_al HB2.out.size)) _ | exact HB1.out | exact HB1.out.alloc HB1.out.size _ | exact (HB1.out.alloc HB1.out.size _).alloc (le_al HB1.out.size) _ | exact ((HB1.out.alloc HB1.out.size _).alloc (le_al HB1.out.size) _).alloc (le_al (le_al HB1.out.size)) _ | exact HB0.out | exact HB0.out.alloc HB0.out.size _ | exact (HB0.out.alloc HB0.out.size _).alloc (le_al HB0.out.size) _ | exact ((HB0.out.alloc HB0.out.size _).alloc (le_al HB0.out.size) _).alloc (le_al (le_al HB0.out.size)) _) (hb8.mono (by (try simp only [World.size_alloc]); (try simp only [size_setCell']); omega)))
      have HN8 := Lib.hid hb8
      clear hb8 hs8
      have HM5c := Lib.hid ((HM5b.out.kept ((New.refl _).alloc _).below).kept HN8.out)
      have HM6b := Lib.hid ((HM6a.out.kept ((New.refl _).alloc _).below).kept HN8.out)
      have HM7a := Lib.hid ((HM7.out.kept ((New.refl _).alloc _).below).kept HN8.out)
      go_wp2_with fail
      refine (within_any _ _ _ _ _ (lostOf C A) (lostOf B A) (lostOf C B) _ HM5c.out.sl HM6b.out HM7a.out HSZ.out.2.2.2.1 HSZ.out.2.2.2.2.1 HSZ.out.2.2.2.2.2 HIN.out.2).mono ?_
      rintro e w9 ⟨rfl, hb9⟩
      obtain ⟨hc9, hf9⟩ := bcell hb9
      have hs9 := hb9.size
      try simp only [World.size_alloc] at hs9
      try simp only [size_setCell'] at hs9
      try have le9_0 : w.heap.size ≤ w9.heap.size := (by omega)
      try have lt9_0 : w.heap.size < w9.heap.size := (by omega)
      try have le9_1 : w1.heap.size ≤ w9.heap.size := (by omega)
      try have lt9_1 : w1.heap.size < w9.heap.size := (by omega)
      try have le9_2 : w2.heap.size ≤ w9.heap.size := (by omega)
      try have lt9_2 : w2.heap.size < w9.heap.size := (by omega)
      try have le9_3 : w3.heap.size ≤ w9.heap.size := (by omega)
      try have lt9_3 : w3.heap.size < w9.heap.size := (by omega)
      try have le9_4 : w4.heap.size ≤ w9.heap.size := (by omega)
      try have lt9_4 : w4.heap.size < w9.heap.size := (by omega)
      try have le9_5 : w5.heap.size ≤ w9.heap.size := (by omega)
      try have lt9_5 : w5.heap.size < w9.heap.size := (by omega)
      try have le9_6 : w6.heap.size ≤ w9.heap.size := (by omega)
      try have lt9_6 : w6.heap.size < w9.heap.size := (by omega)
      try have le9_7 : w7.heap.size ≤ w9.heap.size := (by omega)
      try have lt9_7 : w7.heap.size < w9.heap.size := (by omega)
      try have le9_8 : w8.heap.size ≤ w9.heap.size := (by omega)
      try have lt9_8 : w8.heap.size < w9.heap.size := (by omega)
      have HB9 : Hid (Below w.heap.size w w9) := Lib.hid (Below.trans (by first | exact HB8.out | exact HB8.out.alloc HB8.out.size _ | exact (HB8.out.alloc HB8.out.size _).alloc (le_al HB8.out.size) _ | exact ((HB8.out.alloc HB8.out.size _).alloc (le_al HB8.out.size) _).alloc (le_al (le_al HB8.out.size)) _ | exact HB7.out | exact HB7.out.alloc HB7.out.size _ | exact (HB7.out.alloc HB7.out.size _).alloc (le_al HB7.out.size) _ | exact ((HB7.out.alloc HB7.out.size _).alloc (le_al HB7.out.size) _).alloc (le_al (le_al HB7.out.size)) _ | exact HB6.out | exact HB6.out.alloc HB6.out.size _ | exact (HB6.out.alloc HB6.out.size _).alloc (le_al HB6.out.size) _ | exact ((HB6.out.alloc HB6.out.size _).alloc (le_al HB6.out.size) _).alloc (le_al (le_al HB6.out.size)) _ | exact HB5.out | exact HB5.out.alloc HB5.out.size _ | exact (HB5.out.alloc HB5.out.size _).alloc (le_al HB5.out.size) _ | exact ((HB5.out.alloc HB5.out.size _).alloc (le_al HB5.out.size) _).alloc (le_al (le_al HB5.out.size)) _ | exact HB4.out | exact HB4.out.alloc HB4.out.size _ | exact (HB4.out.alloc HB4.out.size _).alloc (le_al HB4.out.size) _ | exact ((HB4.out.alloc HB4.out.size _).alloc (le_al HB4.out.size) _).alloc (le_al (le_al HB4.out.size)) _ | exact HB3.out | exact HB3.out.alloc HB3.out.size _ | exact (HB3.out.alloc HB3.out.size _).alloc (le_al HB3.out.size) _ | exact ((HB3.out.alloc HB3.out.size _).alloc (le_al HB3.out.size) _).alloc (le_al (le_al HB3.out.size)) _ | exact HB2.out | exact HB2.out.alloc HB2.out.size _ | exact (HB2.out.alloc HB2.out.size _).alloc (le_al HB2.out.size) _ | exact ((HB2.out.alloc HB2.out.size _).alloc (le_al HB2.out.size) _).alloc (le_al (le_al HB2.out.size)) _ | exact HB1.out | exact HB1.out.alloc HB1.out.size _ | exact (HB1.out.alloc HB1.out.size _).alloc (le_al HB1.out.size) _ | exact ((HB1.out.alloc HB1.out.size _).alloc (le_al HB1.out.size) _).alloc (le_al (le_al HB1.out.size)) _ | exact HB0.out | exact HB0.out.alloc HB0.out.size _ | exact (HB0.out.alloc HB0.out.size _).alloc (le_al HB0.out.size) _ | exact ((HB0.out.alloc HB0.out.size _).alloc (le_al HB0.out.size) _).alloc (le_al (le_al HB0.out.size)) _) (hb9.mono (by (try simp only [World.size_alloc]); (try simp only [size_setCell']); omega)))
      have HN9 := Lib.hid hb9
      clear hb9 hs9
      go_wp2
      go_ret
      exact ⟨by first | rfl | simp [*], HB9.out⟩
end Go.Proofs.YtlokljaeknmdpaaGreat.L12
