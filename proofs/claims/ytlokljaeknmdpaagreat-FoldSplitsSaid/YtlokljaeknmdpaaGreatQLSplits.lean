/-
  thimblelaw13.FoldSplits: operations done one part behind the other; no condition but the texts' reach.
-/
import Derived.Test.YtlokljaeknmdpaaGreatQL13
import Derived.Test.YtlokljaeknmdpaaGreatKFold
namespace Go.Proofs.YtlokljaeknmdpaaGreat.L13
open Go.RowKit Go.Shelf Go.Proofs

set_option maxRecDepth 100000 in
set_option maxHeartbeats 8000000 in
theorem splits_walk (v1 : Value) (l : List Op) (s : St) (w : World) (hs1 : SlAt w 13 Op.cells v1 l) (hn1 : ∀ o ∈ l, o.Small) :
    Calls Tryz.prog 10 #[v1, s.v] w fun y w' => y = .returned (.bool true) ∧ Below w.heap.size w w' := by
  have HF1 := Lib.hid (fun W (hW : Below w.heap.size w W) => few_any v1 l W (hs1.below hW))
  have HSO := Lib.hid (fun (hl : l.length ≤ 1000) W (hW : Below w.heap.size w W) => sort_any v1 l W (hs1.below hW) hn1 hl)
  have HOF := Lib.hid (fun (hl : l.length ≤ 1000) W (hW : Below w.heap.size w W) => of_any v1 l W (hs1.below hW) hn1 hl)
  have HNS : Hid (∀ o ∈ sortOps l, o.Small) := Lib.hid fun o ho => hn1 o (sort_sub ho)
  have HB0 : Hid (Below w.heap.size w (w.alloc (.cells #[.int .i64 s.t, .int .i64 s.r] 31))) := Lib.hid ((New.refl w).alloc _).below
  obtain ⟨a1, c1, rfl⟩ := hs1.len
  clear hs1 hn1
  unfold St.v
  cases hf1 : decide (l.length ≤ 60) with
  | false =>
    rw [hf1] at HF1
    clear hf1
    go_enter Tryz.func10, Tryz.ntmps10
    go_wp2_with fail
    refine (shown_any _).mono ?_
    rintro e w1 ⟨rfl, hb1⟩
    obtain ⟨hc1, hf1⟩ := bcell hb1
    have hs1 := hb1.size
    try simp only [World.size_alloc] at hs1
    try simp only [size_setCell'] at hs1
    try have le1_0 : w.heap.size ≤ w1.heap.size := (by omega)
    try have lt1_0 : w.heap.size < w1.heap.size := (by omega)
    have HB1 : Hid (Below w.heap.size w w1) := Lib.hid (Below.trans (by first | exact HB0.out | exact HB0.out.alloc HB0.out.size _ | exact (HB0.out.alloc HB0.out.size _).alloc (le_al HB0.out.size) _ | exact ((HB0.out.alloc HB0.out.size _).alloc (le_al HB0.out.size) _).alloc (le_al (le_al HB0.out.size)) _) (hb1.mono (by (try simp only [World.size_alloc]); (try simp only [size_setCell']); omega)))
    have HN1 := Lib.hid hb1
    clear hb1 hs1
    go_wp2_with (go_at_call 35; refine (HF1.out _ HB1.out).mono ?_; rintro y w' ⟨rfl, rfl⟩)
    go_ret
    exact ⟨rfl, HB1.out⟩
  | true =>
    rw [hf1] at HF1
    have HL1 : Hid (l.length ≤ 1000) := Lib.hid (by have := of_decide_eq_true hf1; omega)
    have HLX : Hid ((sortOps l).length ≤ 1000) := Lib.hid (Nat.le_trans (sort_len l) HL1.out)
    have HK : Hid (belowOps (sortOps l) s ≤ (sortOps l).length) := Lib.hid (below_le _ _)
    have HLAW : Hid (∀ k, onOps (ofOps ((sortOps l).take k)) ((sortOps l).drop k) = ofOps l) := Lib.hid (splits_law l)
    clear hf1
    generalize hL : sortOps l = L at *
    go_enter Tryz.func10, Tryz.ntmps10
    go_wp2_with fail
    refine (shown_any _).mono ?_
    rintro e w1 ⟨rfl, hb1⟩
    obtain ⟨hc1, hf1⟩ := bcell hb1
    have hs1 := hb1.size
    try simp only [World.size_alloc] at hs1
    try simp only [size_setCell'] at hs1
    try have le1_0 : w.heap.size ≤ w1.heap.size := (by omega)
    try have lt1_0 : w.heap.size < w1.heap.size := (by omega)
    have HB1 : Hid (Below w.heap.size w w1) := Lib.hid (Below.trans (by first | exact HB0.out | exact HB0.out.alloc HB0.out.size _ | exact (HB0.out.alloc HB0.out.size _).alloc (le_al HB0.out.size) _ | exact ((HB0.out.alloc HB0.out.size _).alloc (le_al HB0.out.size) _).alloc (le_al (le_al HB0.out.size)) _) (hb1.mono (by (try simp only [World.size_alloc]); (try simp only [size_setCell']); omega)))
    have HN1 := Lib.hid hb1
    clear hb1 hs1
    go_wp2_with (go_at_call 35; refine (HF1.out _ HB1.out).mono ?_; rintro y w' ⟨rfl, rfl⟩)
    go_wp2_with fail
    refine (HSO.out HL1.out _ (by first | exact HB1.out | exact HB1.out.alloc HB1.out.size _ | exact (HB1.out.alloc HB1.out.size _).alloc (le_al HB1.out.size) _ | exact ((HB1.out.alloc HB1.out.size _).alloc (le_al HB1.out.size) _).alloc (le_al (le_al HB1.out.size)) _ | exact HB0.out | exact HB0.out.alloc HB0.out.size _ | exact (HB0.out.alloc HB0.out.size _).alloc (le_al HB0.out.size) _ | exact ((HB0.out.alloc HB0.out.size _).alloc (le_al HB0.out.size) _).alloc (le_al (le_al HB0.out.size)) _)).mono ?_
    rintro e w2 ⟨v2, rfl, hr2, hb2⟩
    obtain ⟨hc2, hf2⟩ := bcell hb2
    have hs2 := hb2.size
    try simp only [World.size_alloc] at hs2
    try simp only [size_setCell'] at hs2
    try have le2_0 : w.heap.size ≤ w2.heap.size := (by omega)
    try have lt2_0 : w.heap.size < w2.heap.size := (by omega)
    try have le2_1 : w1.heap.size ≤ w2.heap.size := (by omega)
    try have lt2_1 : w1.heap.size < w2.heap.size := (by omega)
    have HB2 : Hid (Below w.heap.size w w2) := Lib.hid (Below.trans (by first | exact HB1.out | exact HB1.out.alloc HB1.out.size _ | exact (HB1.out.alloc HB1.out.size _).alloc (le_al HB1.out.size) _ | exact ((HB1.out.alloc HB1.out.size _).alloc (le_al HB1.out.size) _).alloc (le_al (le_al HB1.out.size)) _ | exact HB0.out | exact HB0.out.alloc HB0.out.size _ | exact (HB0.out.alloc HB0.out.size _).alloc (le_al HB0.out.size) _ | exact ((HB0.out.alloc HB0.out.size _).alloc (le_al HB0.out.size) _).alloc (le_al (le_al HB0.out.size)) _) (hb2.mono (by (try simp only [World.size_alloc]); (try simp only [size_setCell']); omega)))
    have HN2 := Lib.hid hb2
    clear hb2 hs2
    have HR2 := Lib.hid hr2
    have HBE := Lib.hid (below_any _ L s w2 hr2.sl HLX.out)
    have h2 := hr2.two
    clear hr2
    have hk := HK.out
    generalize belowOps L s = k at *
    rcases h2 with ⟨rfl, rfl⟩ | ⟨g, c, rfl, hc1, hc2⟩
    · obtain rfl : k = 0 := by simpa using hk
      clear hL hk HK
      go_wp2_with fail
      refine (HBE.out).mono ?_
      rintro e w3 ⟨rfl, hb3⟩
      obtain ⟨hc3, hf3⟩ := bcell hb3
      have hs3 := hb3.size
      try simp only [World.size_alloc] at hs3
      try simp only [size_setCell'] at hs3
      try have le3_0 : w.heap.size ≤ w3.heap.size := (by omega)
      try have lt3_0 : w.heap.size < w3.heap.size := (by omega)
      try have le3_1 : w1.heap.size ≤ w3.heap.size := (by omega)
      try have lt3_1 : w1.heap.size < w3.heap.size := (by omega)
      try have le3_2 : w2.heap.size ≤ w3.heap.size := (by omega)
      try have lt3_2 : w2.heap.size < w3.heap.size := (by omega)
      have HB3 : Hid (Below w.heap.size w w3) := Lib.hid (Below.trans (by first | exact HB2.out | exact HB2.out.alloc HB2.out.size _ | exact (HB2.out.alloc HB2.out.size _).alloc (le_al HB2.out.size) _ | exact ((HB2.out.alloc HB2.out.size _).alloc (le_al HB2.out.size) _).alloc (le_al (le_al HB2.out.size)) _ | exact HB1.out | exact HB1.out.alloc HB1.out.size _ | exact (HB1.out.alloc HB1.out.size _).alloc (le_al HB1.out.size) _ | exact ((HB1.out.alloc HB1.out.size _).alloc (le_al HB1.out.size) _).alloc (le_al (le_al HB1.out.size)) _ | exact HB0.out | exact HB0.out.alloc HB0.out.size _ | exact (HB0.out.alloc HB0.out.size _).alloc (le_al HB0.out.size) _ | exact ((HB0.out.alloc HB0.out.size _).alloc (le_al HB0.out.size) _).alloc (le_al (le_al HB0.out.size)) _) (hb3.mono (by (try simp only [World.size_alloc]); (try simp only [size_setCell']); omega)))
      have HN3 := Lib.hid hb3
      clear hb3 hs3
      have HX3 := Lib.hid (HR2.out.sl.below HN3.out)
      go_wp2_with fail
      refine (of_any _ ([] : List Op) w3 HX3.out (fun o ho => by cases ho) (by decide)).mono ?_
      rintro e w4 ⟨v4, rfl, ⟨gb4, mI4, mE4, rfl, hG4, _, _, _⟩, hb4⟩
      obtain ⟨hc4, hf4⟩ := bcell hb4
      have hs4 := hb4.size
      try simp only [World.size_alloc] at hs4
      try simp only [size_setCell'] at hs4
      try have le4_0 : w.heap.size ≤ w4.heap.size := (by omega)
      try have lt4_0 : w.heap.size < w4.heap.size := (by omega)
      try have le4_1 : w1.heap.size ≤ w4.heap.size := (by omega)
      try have lt4_1 : w1.heap.size < w4.heap.size := (by omega)
      try have le4_2 : w2.heap.size ≤ w4.heap.size := (by omega)
      try have lt4_2 : w2.heap.size < w4.heap.size := (by omega)
      try have le4_3 : w3.heap.size ≤ w4.heap.size := (by omega)
      try have lt4_3 : w3.heap.size < w4.heap.size := (by omega)
      have HB4 : Hid (Below w.heap.size w w4) := Lib.hid (Below.trans (by first | exact HB3.out | exact HB3.out.alloc HB3.out.size _ | exact (HB3.out.alloc HB3.out.size _).alloc (le_al HB3.out.size) _ | exact ((HB3.out.alloc HB3.out.size _).alloc (le_al HB3.out.size) _).alloc (le_al (le_al HB3.out.size)) _ | exact HB2.out | exact HB2.out.alloc HB2.out.size _ | exact (HB2.out.alloc HB2.out.size _).alloc (le_al HB2.out.size) _ | exact ((HB2.out.alloc HB2.out.size _).alloc (le_al HB2.out.size) _).alloc (le_al (le_al HB2.out.size)) _ | exact HB1.out | exact HB1.out.alloc HB1.out.size _ | exact (HB1.out.alloc HB1.out.size _).alloc (le_al HB1.out.size) _ | exact ((HB1.out.alloc HB1.out.size _).alloc (le_al HB1.out.size) _).alloc (le_al (le_al HB1.out.size)) _ | exact HB0.out | exact HB0.out.alloc HB0.out.size _ | exact (HB0.out.alloc HB0.out.size _).alloc (le_al HB0.out.size) _ | exact ((HB0.out.alloc HB0.out.size _).alloc (le_al HB0.out.size) _).alloc (le_al (le_al HB0.out.size)) _) (hb4.mono (by (try simp only [World.size_alloc]); (try simp only [size_setCell']); omega)))
      have HN4 := Lib.hid hb4
      clear hb4 hs4
      have HX4 := Lib.hid (HX3.out.below HN4.out)
      have HG4 := Lib.hid hG4
      clear hG4
      go_wp2_with fail
      refine (copy_g gb4 mI4 mE4 _ w4 HG4.out).mono ?_
      rintro e w5 ⟨v5, rfl, ⟨gb5, mI5, mE5, rfl, hG5, _, _, _⟩, hb5⟩
      obtain ⟨hc5, hf5⟩ := bcell hb5
      have hs5 := hb5.size
      try simp only [World.size_alloc] at hs5
      try simp only [size_setCell'] at hs5
      try have le5_0 : w.heap.size ≤ w5.heap.size := (by omega)
      try have lt5_0 : w.heap.size < w5.heap.size := (by omega)
      try have le5_1 : w1.heap.size ≤ w5.heap.size := (by omega)
      try have lt5_1 : w1.heap.size < w5.heap.size := (by omega)
      try have le5_2 : w2.heap.size ≤ w5.heap.size := (by omega)
      try have lt5_2 : w2.heap.size < w5.heap.size := (by omega)
      try have le5_3 : w3.heap.size ≤ w5.heap.size := (by omega)
      try have lt5_3 : w3.heap.size < w5.heap.size := (by omega)
      try have le5_4 : w4.heap.size ≤ w5.heap.size := (by omega)
      try have lt5_4 : w4.heap.size < w5.heap.size := (by omega)
      have HB5 : Hid (Below w.heap.size w w5) := Lib.hid (Below.trans (by first | exact HB4.out | exact HB4.out.alloc HB4.out.size _ | exact (HB4.out.alloc HB4.out.size _).alloc (le_al HB4.out.size) _ | exact ((HB4.out.alloc HB4.out.size _).alloc (le_al HB4.out.size) _).alloc (le_al (le_al HB4.out.size)) _ | exact HB3.out | exact HB3.out.alloc HB3.out.size _ | exact (HB3.out.alloc HB3.out.size _).alloc (le_al HB3.out.size) _ | exact ((HB3.out.alloc HB3.out.size _).alloc (le_al HB3.out.size) _).alloc (le_al (le_al HB3.out.size)) _ | exact HB2.out | exact HB2.out.alloc HB2.out.size _ | exact (HB2.out.alloc HB2.out.size _).alloc (le_al HB2.out.size) _ | exact ((HB2.out.alloc HB2.out.size _).alloc (le_al HB2.out.size) _).alloc (le_al (le_al HB2.out.size)) _ | exact HB1.out | exact HB1.out.alloc HB1.out.size _ | exact (HB1.out.alloc HB1.out.size _).alloc (le_al HB1.out.size) _ | exact ((HB1.out.alloc HB1.out.size _).alloc (le_al HB1.out.size) _).alloc (le_al (le_al HB1.out.size)) _ | exact HB0.out | exact HB0.out.alloc HB0.out.size _ | exact (HB0.out.alloc HB0.out.size _).alloc (le_al HB0.out.size) _ | exact ((HB0.out.alloc HB0.out.size _).alloc (le_al HB0.out.size) _).alloc (le_al (le_al HB0.out.size)) _) (hb5.mono (by (try simp only [World.size_alloc]); (try simp only [size_setCell']); omega)))
      have HN5 := Lib.hid hb5
      clear hb5 hs5
      have HX5 := Lib.hid (HX4.out.below HN5.out)
      have HG5 := Lib.hid hG5
      have HG4a := Lib.hid (HG4.out.below HN5.out)
      clear hG5
      go_wp2_with fail
      refine (on_any gb4 mI4 mE4 _ _ ([] : List Op) w5 HG4a.out (ofOps_ok _) (ofOps_thin _) (.inl ⟨_, _, rfl, rfl⟩) (fun o ho => by cases ho) (by decide)).mono ?_
      rintro e w6 ⟨v6, rfl, ⟨gb6, mI6, mE6, rfl, hG6, _, _, _⟩, hb6⟩
      obtain ⟨hc6, hf6⟩ := bcell hb6
      have hs6 := hb6.size
      try simp only [World.size_alloc] at hs6
      try simp only [size_setCell'] at hs6
      try have le6_0 : w.heap.size ≤ w6.heap.size := (by omega)
      try have lt6_0 : w.heap.size < w6.heap.size := (by omega)
      try have le6_1 : w1.heap.size ≤ w6.heap.size := (by omega)
      try have lt6_1 : w1.heap.size < w6.heap.size := (by omega)
      try have le6_2 : w2.heap.size ≤ w6.heap.size := (by omega)
      try have lt6_2 : w2.heap.size < w6.heap.size := (by omega)
      try have le6_3 : w3.heap.size ≤ w6.heap.size := (by omega)
      try have lt6_3 : w3.heap.size < w6.heap.size := (by omega)
      try have le6_4 : w4.heap.size ≤ w6.heap.size := (by omega)
      try have lt6_4 : w4.heap.size < w6.heap.size := (by omega)
      try have le6_5 : w5.heap.size ≤ w6.heap.size := (by omega)
      try have lt6_5 : w5.heap.size < w6.heap.size := (by omega)
      have HB6 : Hid (Below w.heap.size w w6) := Lib.hid (Below.trans (by first | exact HB5.out | exact HB5.out.alloc HB5.out.size _ | exact (HB5.out.alloc HB5.out.size _).alloc (le_al HB5.out.size) _ | exact ((HB5.out.alloc HB5.out.size _).alloc (le_al HB5.out.size) _).alloc (le_al (le_al HB5.out.size)) _ | exact HB4.out | exact HB4.out.alloc HB4.out.size _ | exact (HB4.out.alloc HB4.out.size _).alloc (le_al HB4.out.size) _ | exact ((HB4.out.alloc HB4.out.size _).alloc (le_al HB4.out.size) _).alloc (le_al (le_al HB4.out.size)) _ | exact HB3.out | exact HB3.out.alloc HB3.out.size _ | exact (HB3.out.alloc HB3.out.size _).alloc (le_al HB3.out.size) _ | exact ((HB3.out.alloc HB3.out.size _).alloc (le_al HB3.out.size) _).alloc (le_al (le_al HB3.out.size)) _ | exact HB2.out | exact HB2.out.alloc HB2.out.size _ | exact (HB2.out.alloc HB2.out.size _).alloc (le_al HB2.out.size) _ | exact ((HB2.out.alloc HB2.out.size _).alloc (le_al HB2.out.size) _).alloc (le_al (le_al HB2.out.size)) _ | exact HB1.out | exact HB1.out.alloc HB1.out.size _ | exact (HB1.out.alloc HB1.out.size _).alloc (le_al HB1.out.size) _ | exact ((HB1.out.alloc HB1.out.size _).alloc (le_al HB1.out.size) _).alloc (le_al (le_al HB1.out.size)) _ | exact HB0.out | exact HB0.out.alloc HB0.out.size _ | exact (HB0.out.alloc HB0.out.size _).alloc (le_al HB0.out.size) _ | exact ((HB0.out.alloc HB0.out.size _).alloc (le_al HB0.out.size) _).alloc (le_al (le_al HB0.out.size)) _) (hb6.mono (by (try simp only [World.size_alloc]); (try simp only [size_setCell']); omega)))
      have HN6 := Lib.hid hb6
      clear hb6 hs6
      rw [show onOps (ofOps []) [] = ofOps l from HLAW.out 0] at hG6
      have HG6 := Lib.hid hG6
      have HG4b := Lib.hid (HG4a.out.below HN6.out)
      have HG5a := Lib.hid (HG5.out.below HN6.out)
      clear hG6
      go_wp2_with fail
      refine (HOF.out HL1.out _ (by first | exact HB6.out | exact HB6.out.alloc HB6.out.size _ | exact (HB6.out.alloc HB6.out.size _).alloc (le_al HB6.out.size) _ | exact ((HB6.out.alloc HB6.out.size _).alloc (le_al HB6.out.size) _).alloc (le_al (le_al HB6.out.size)) _ | exact HB5.out | exact HB5.out.alloc HB5.out.size _ | exact (HB5.out.alloc HB5.out.size _).alloc (le_al HB5.out.size) _ | exact ((HB5.out.alloc HB5.out.size _).alloc (le_al HB5.out.size) _).alloc (le_al (le_al HB5.out.size)) _ | exact HB4.out | exact HB4.out.alloc HB4.out.size _ | exact (HB4.out.alloc HB4.out.size _).alloc (le_al HB4.out.size) _ | exact ((HB4.out.alloc HB4.out.size _).alloc (le_al HB4.out.size) _).alloc (le_al (le_al HB4.out.size)) _ | exact HB3.out | exact HB3.out.alloc HB3.out.size _ | exact (HB3.out.alloc HB3.out.size _).alloc (le_al HB3.out.size) _ | exact ((HB3.out.alloc HB3.out.size _).alloc (le_al HB3.out.size) _).alloc (le_al (le_al HB3.out.size)) _ | exact HB2.out | exact HB2.out.alloc HB2.out.size _ | exact (HB2.out.alloc HB2.out.size _).alloc (le_al HB2.out.size) _ | exact ((HB2.out.alloc HB2.out.size _).alloc (le_al HB2.out.size) _).alloc (le_al (le_al HB2.out.size)) _ | exact HB1.out | exact HB1.out.alloc HB1.out.size _ | exact (HB1.out.alloc HB1.out.size _).alloc (le_al HB1.out.size) _ | exact ((HB1.out.alloc HB1.out.size _).alloc (le_al HB1.out.size) _).alloc (le_al (le_al HB1.out.size)) _ | exact HB0.out | exact HB0.out.alloc HB0.out.size _ | exact (HB0.out.alloc HB0.out.size _).alloc (le_al HB0.out.size) _ | exact ((HB0.out.alloc HB0.out.size _).alloc (le_al HB0.out.size) _).alloc (le_al (le_al HB0.out.size)) _)).mono ?_
      rintro e w7 ⟨v7, rfl, ⟨gb7, mI7, mE7, rfl, hG7, _, _, _⟩, hb7⟩
      obtain ⟨hc7, hf7⟩ := bcell hb7
      have hs7 := hb7.size
      try simp only [World.size_alloc] at hs7
      try simp only [size_setCell'] at hs7
      try have le7_0 : w.heap.size ≤ w7.heap.size := (by omega)
      try have lt7_0 : w.heap.size < w7.heap.size := (by omega)
      try have le7_1 : w1.heap.size ≤ w7.heap.size := (by omega)
      try have lt7_1 : w1.heap.size < w7.heap.size := (by omega)
      try have le7_2 : w2.heap.size ≤ w7.heap.size := (by omega)
      try have lt7_2 : w2.heap.size < w7.heap.size := (by omega)
      try have le7_3 : w3.heap.size ≤ w7.heap.size := (by omega)
      try have lt7_3 : w3.heap.size < w7.heap.size := (by omega)
      try have le7_4 : w4.heap.size ≤ w7.heap.size := (by omega)
      try have lt7_4 : w4.heap.size < w7.heap.size := (by omega)
      try have le7_5 : w5.heap.size ≤ w7.heap.size := (by omega)
      try have lt7_5 : w5.heap.size < w7.heap.size := (by omega)
      try have le7_6 : w6.heap.size ≤ w7.heap.size := (by omega)
      try have lt7_6 : w6.heap.size < w7.heap.size := (by omega)
      have HB7 : Hid (Below w.heap.size w w7) := Lib.hid (Below.trans (by first | exact HB6.out | exact HB6.out.alloc HB6.out.size _ | exact (HB6.out.alloc HB6.out.size _).alloc (le_al HB6.out.size) _ | exact ((HB6.out.alloc HB6.out.size _).alloc (le_al HB6.out.size) _).alloc (le_al (le_al HB6.out.size)) _ | exact HB5.out | exact HB5.out.alloc HB5.out.size _ | exact (HB5.out.alloc HB5.out.size _).alloc (le_al HB5.out.size) _ | exact ((HB5.out.alloc HB5.out.size _).alloc (le_al HB5.out.size) _).alloc (le_al (le_al HB5.out.size)) _ | exact HB4.out | exact HB4.out.alloc HB4.out.size _ | exact (HB4.out.alloc HB4.out.size _).alloc (le_al HB4.out.size) _ | exact ((HB4.out.alloc HB4.out.size _).alloc (le_al HB4.out.size) _).alloc (le_al (le_al HB4.out.size)) _ | exact HB3.out | exact HB3.out.alloc HB3.out.size _ | exact (HB3.out.alloc HB3.out.size _).alloc (le_al HB3.out.size) _ | exact ((HB3.out.alloc HB3.out.size _).alloc (le_al HB3.out.size) _).alloc (le_al (le_al HB3.out.size)) _ | exact HB2.out | exact HB2.out.alloc HB2.out.size _ | exact (HB2.out.alloc HB2.out.size _).alloc (le_al HB2.out.size) _ | exact ((HB2.out.alloc HB2.out.size _).alloc (le_al HB2.out.size) _).alloc (le_al (le_al HB2.out.size)) _ | exact HB1.out | exact HB1.out.alloc HB1.out.size _ | exact (HB1.out.alloc HB1.out.size _).alloc (le_al HB1.out.size) _ | exact ((HB1.out.alloc HB1.out.size _).alloc (le_al HB1.out.size) _).alloc (le_al (le_al HB1.out.size)) _ | exact HB0.out | exact HB0.out.alloc HB0.out.size _ | exact (HB0.out.alloc HB0.out.size _).alloc (le_al HB0.out.size) _ | exact ((HB0.out.alloc HB0.out.size _).alloc (le_al HB0.out.size) _).alloc (le_al (le_al HB0.out.size)) _) (hb7.mono (by (try simp only [World.size_alloc]); (try simp only [size_setCell']); omega)))
      have HN7 := Lib.hid hb7
      clear hb7 hs7
      have HG7 := Lib.hid hG7
      have HG6a := Lib.hid (HG6.out.below HN7.out)
      have HG4c := Lib.hid (HG4b.out.below HN7.out)
      have HG5b := Lib.hid (HG5a.out.below HN7.out)
      clear hG7
      go_wp2_with fail
      refine (same_any gb6 gb7 _ w7 (ofOps_ok l) (HG6a.out.reads (ofOps_ok _) (by have := (ofOps_ok l).few; omega)) (HG7.out.reads (ofOps_ok _) (by have := (ofOps_ok l).few; omega))).mono ?_
      rintro e w8 ⟨rfl, hb8⟩
      obtain ⟨hc8, hf8⟩ := bcell hb8
      have hs8 := hb8.size
      try simp only [World.size_alloc] at hs8
      try simp only [size_setCell'] at hs8
      try have le8_0 : w.heap.size ≤ w8.heap.size := (by omega)
      try have lt8_0 : w.heap.size < w8.heap.size := (by omega)
      try have le8_1 : w1.heap.size ≤ w8.heap.size := (by omega)
      try have lt8_1 : w1.heap.size < w8.heap.size := (by omega)
      try have le8_2 : w2.heap.size ≤ w8.heap.size := (by omega)
      try have lt8_2 : w2.heap.size < w8.heap.size := (by omega)
      try have le8_3 : w3.heap.size ≤ w8.heap.size := (by omega)
      try have lt8_3 : w3.heap.size < w8.heap.size := (by omega)
      try have le8_4 : w4.heap.size ≤ w8.heap.size := (by omega)
      try have lt8_4 : w4.heap.size < w8.heap.size := (by omega)
      try have le8_5 : w5.heap.size ≤ w8.heap.size := (by omega)
      try have lt8_5 : w5.heap.size < w8.heap.size := (by omega)
      try have le8_6 : w6.heap.size ≤ w8.heap.size := (by omega)
      try have lt8_6 : w6.heap.size < w8.heap.size := (by omega)
      try have le8_7 : w7.heap.size ≤ w8.heap.size := (by omega)
      try have lt8_7 : w7.heap.size < w8.heap.size := (by omega)
      have HB8 : Hid (Below w.heap.size w w8) := Lib.hid (Below.trans (by first | exact HB7.out | exact HB7.out.alloc HB7.out.size _ | exact (HB7.out.alloc HB7.out.size _).alloc (le_al HB7.out.size) _ | exact ((HB7.out.alloc HB7.out.size _).alloc (le_al HB7.out.size) _).alloc (le_al (le_al HB7.out.size)) _ | exact HB6.out | exact HB6.out.alloc HB6.out.size _ | exact (HB6.out.alloc HB6.out.size _).alloc (le_al HB6.out.size) _ | exact ((HB6.out.alloc HB6.out.size _).alloc (le_al HB6.out.size) _).alloc (le_al (le_al HB6.out.size)) _ | exact HB5.out | exact HB5.out.alloc HB5.out.size _ | exact (HB5.out.alloc HB5.out.size _).alloc (le_al HB5.out.size) _ | exact ((HB5.out.alloc HB5.out.size _).alloc (le_al HB5.out.size) _).alloc (le_al (le_al HB5.out.size)) _ | exact HB4.out | exact HB4.out.alloc HB4.out.size _ | exact (HB4.out.alloc HB4.out.size _).alloc (le_al HB4.out.size) _ | exact ((HB4.out.alloc HB4.out.size _).alloc (le_al HB4.out.size) _).alloc (le_al (le_al HB4.out.size)) _ | exact HB3.out | exact HB3.out.alloc HB3.out.size _ | exact (HB3.out.alloc HB3.out.size _).alloc (le_al HB3.out.size) _ | exact ((HB3.out.alloc HB3.out.size _).alloc (le_al HB3.out.size) _).alloc (le_al (le_al HB3.out.size)) _ | exact HB2.out | exact HB2.out.alloc HB2.out.size _ | exact (HB2.out.alloc HB2.out.size _).alloc (le_al HB2.out.size) _ | exact ((HB2.out.alloc HB2.out.size _).alloc (le_al HB2.out.size) _).alloc (le_al (le_al HB2.out.size)) _ | exact HB1.out | exact HB1.out.alloc HB1.out.size _ | exact (HB1.out.alloc HB1.out.size _).alloc (le_al HB1.out.size) _ | exact ((HB1.out.alloc HB1.out.size _).alloc (le_al HB1.out.size) _).alloc (le_al (le_al HB1.out.size)) _ | exact HB0.out | exact HB0.out.alloc HB0.out.size _ | exact (HB0.out.alloc HB0.out.size _).alloc (le_al HB0.out.size) _ | exact ((HB0.out.alloc HB0.out.size _).alloc (le_al HB0.out.size) _).alloc (le_al (le_al HB0.out.size)) _) (hb8.mono (by (try simp only [World.size_alloc]); (try simp only [size_setCell']); omega)))
      have HN8 := Lib.hid hb8
      clear hb8 hs8
      have HG4d := Lib.hid (HG4c.out.below HN8.out)
      have HG5c := Lib.hid (HG5b.out.below HN8.out)
      go_wp2_with fail
      refine (same_any gb4 gb5 _ w8 (ofOps_ok ([] : List Op)) (HG4d.out.reads (ofOps_ok _) (by have := (ofOps_ok ([] : List Op)).few; omega)) (HG5c.out.reads (ofOps_ok _) (by have := (ofOps_ok ([] : List Op)).few; omega))).mono ?_
      rintro e w9 ⟨rfl, hb9⟩
      obtain ⟨hc9, hf9⟩ := bcell hb9
      have hs9 := hb9.size
      try simp only [World.size_alloc] at hs9
      try simp only [size_setCell'] at hs9
      try have le9_0 : w.heap.size ≤ w9.heap.size := (by omega)
      try have lt9_0 : w.heap.size < w9.heap.size := (by omega)
      try have le9_1 : w1.heap.size ≤ w9.heap.size := (by omega)
      try have lt9_1 : w1.heap.size < w9.heap.size := (by omega)
      try have le9_2 : w2.heap.size ≤ w9.heap.size := (by omega)
      try have lt9_2 : w2.heap.size < w9.heap.size := (by omega)
      try have le9_3 : w3.heap.size ≤ w9.heap.size := (by omega)
      try have lt9_3 : w3.heap.size < w9.heap.size := (by omega)
      try have le9_4 : w4.heap.size ≤ w9.heap.size := (by omega)
      try have lt9_4 : w4.heap.size < w9.heap.size := (by omega)
      try have le9_5 : w5.heap.size ≤ w9.heap.size := (by omega)
      try have lt9_5 : w5.heap.size < w9.heap.size := (by omega)
      try have le9_6 : w6.heap.size ≤ w9.heap.size := (by omega)
      try have lt9_6 : w6.heap.size < w9.heap.size := (by omega)
      try have le9_7 : w7.heap.size ≤ w9.heap.size := (by omega)
      try have lt9_7 : w7.heap.size < w9.heap.size := (by omega)
      try have le9_8 : w8.heap.size ≤ w9.heap.size := (by omega)
      try have lt9_8 : w8.heap.size < w9.heap.size := (by omega)
      have HB9 : Hid (Below w.heap.size w w9) := Lib.hid (Below.trans (by first | exact HB8.out | exact HB8.out.alloc HB8.out.size _ | exact (HB8.out.alloc HB8.out.size _).alloc (le_al HB8.out.size) _ | exact ((HB8.out.alloc HB8.out.size _).alloc (le_al HB8.out.size) _).alloc (le_al (le_al HB8.out.size)) _ | exact HB7.out | exact HB7.out.alloc HB7.out.size _ | exact (HB7.out.alloc HB7.out.size _).alloc (le_al HB7.out.size) _ | exact ((HB7.out.alloc HB7.out.size _).alloc (le_al HB7.out.size) _).alloc (le_al (le_al HB7.out.size)) _ | exact HB6.out | exact HB6.out.alloc HB6.out.size _ | exact (HB6.out.alloc HB6.out.size _).alloc (le_al HB6.out.size) _ | exact ((HB6.out.alloc HB6.out.size _).alloc (le_al HB6.out.size) _).alloc (le_al (le_al HB6.out.size)) _ | exact HB5.out | exact HB5.out.alloc HB5.out.size _ | exact (HB5.out.alloc HB5.out.size _).alloc (le_al HB5.out.size) _ | exact ((HB5.out.alloc HB5.out.size _).alloc (le_al HB5.out.size) _).alloc (le_al (le_al HB5.out.size)) _ | exact HB4.out | exact HB4.out.alloc HB4.out.size _ | exact (HB4.out.alloc HB4.out.size _).alloc (le_al HB4.out.size) _ | exact ((HB4.out.alloc HB4.out.size _).alloc (le_al HB4.out.size) _).alloc (le_al (le_al HB4.out.size)) _ | exact HB3.out | exact HB3.out.alloc HB3.out.size _ | exact (HB3.out.alloc HB3.out.size _).alloc (le_al HB3.out.size) _ | exact ((HB3.out.alloc HB3.out.size _).alloc (le_al HB3.out.size) _).alloc (le_al (le_al HB3.out.size)) _ | exact HB2.out | exact HB2.out.alloc HB2.out.size _ | exact (HB2.out.alloc HB2.out.size _).alloc (le_al HB2.out.size) _ | exact ((HB2.out.alloc HB2.out.size _).alloc (le_al HB2.out.size) _).alloc (le_al (le_al HB2.out.size)) _ | exact HB1.out | exact HB1.out.alloc HB1.out.size _ | exact (HB1.out.alloc HB1.out.size _).alloc (le_al HB1.out.size) _ | exact ((HB1.out.alloc HB1.out.size _).alloc (le_al HB1.out.size) _).alloc (le_al (le_al HB1.out.size)) _ | exact HB0.out | exact HB0.out.alloc HB0.out.size _ | exact (HB0.out.alloc HB0.out.size _).alloc (le_al HB0.out.size) _ | exact ((HB0.out.alloc HB0.out.size _).alloc (le_al HB0.out.size) _).alloc (le_al (le_al HB0.out.size)) _) (hb9.mono (by (try simp only [World.size_alloc]); (try simp only [size_setCell']); omega)))
      have HN9 := Lib.hid hb9
      clear hb9 hs9
      go_wp2
      go_ret
      exact ⟨rfl, HB9.out⟩
    · have hcm : c ≤ 9223372036854775807 := by unfold maxLen at hc2; omega
      by_cases hkl : k < L.length
      · have hck : ¬ (c = k) := by omega
        have hck2 : k ≤ c := by omega
        have hk0 : decide ((k : Int) < 0) = false := by rw [decide_eq_false_iff_not]; omega
        have hk1 : decide ((L.length : Int) < (k : Int)) = false := by rw [decide_eq_false_iff_not]; omega
        have hk2 : decide (L.length < k) = false := by rw [decide_eq_false_iff_not]; omega
        have hk3 : (0 : Int) ≤ (k : Int) := by omega
        have hk4 : (k : Int) ≤ (L.length : Int) := by omega
        clear hL
        go_wp2_with fail
        refine (HBE.out).mono ?_
        rintro e w3 ⟨rfl, hb3⟩
        obtain ⟨hc3, hf3⟩ := bcell hb3
        have hs3 := hb3.size
        try simp only [World.size_alloc] at hs3
        try simp only [size_setCell'] at hs3
        try have le3_0 : w.heap.size ≤ w3.heap.size := (by omega)
        try have lt3_0 : w.heap.size < w3.heap.size := (by omega)
        try have le3_1 : w1.heap.size ≤ w3.heap.size := (by omega)
        try have lt3_1 : w1.heap.size < w3.heap.size := (by omega)
        try have le3_2 : w2.heap.size ≤ w3.heap.size := (by omega)
        try have lt3_2 : w2.heap.size < w3.heap.size := (by omega)
        have HB3 : Hid (Below w.heap.size w w3) := Lib.hid (Below.trans (by first | exact HB2.out | exact HB2.out.alloc HB2.out.size _ | exact (HB2.out.alloc HB2.out.size _).alloc (le_al HB2.out.size) _ | exact ((HB2.out.alloc HB2.out.size _).alloc (le_al HB2.out.size) _).alloc (le_al (le_al HB2.out.size)) _ | exact HB1.out | exact HB1.out.alloc HB1.out.size _ | exact (HB1.out.alloc HB1.out.size _).alloc (le_al HB1.out.size) _ | exact ((HB1.out.alloc HB1.out.size _).alloc (le_al HB1.out.size) _).alloc (le_al (le_al HB1.out.size)) _ | exact HB0.out | exact HB0.out.alloc HB0.out.size _ | exact (HB0.out.alloc HB0.out.size _).alloc (le_al HB0.out.size) _ | exact ((HB0.out.alloc HB0.out.size _).alloc (le_al HB0.out.size) _).alloc (le_al (le_al HB0.out.size)) _) (hb3.mono (by (try simp only [World.size_alloc]); (try simp only [size_setCell']); omega)))
        have HN3 := Lib.hid hb3
        clear hb3 hs3
        have HX3 := Lib.hid (HR2.out.sl.below HN3.out)
        go_wp2_with fail
        refine (of_any _ (L.take k) w3 (HX3.out.take (by omega)) (fun o ho => HNS.out o (List.mem_of_mem_take ho)) (by rw [List.length_take]; have := HLX.out; omega)).mono ?_
        rintro e w4 ⟨v4, rfl, ⟨gb4, mI4, mE4, rfl, hG4, _, _, _⟩, hb4⟩
        obtain ⟨hc4, hf4⟩ := bcell hb4
        have hs4 := hb4.size
        try simp only [World.size_alloc] at hs4
        try simp only [size_setCell'] at hs4
        try have le4_0 : w.heap.size ≤ w4.heap.size := (by omega)
        try have lt4_0 : w.heap.size < w4.heap.size := (by omega)
        try have le4_1 : w1.heap.size ≤ w4.heap.size := (by omega)
        try have lt4_1 : w1.heap.size < w4.heap.size := (by omega)
        try have le4_2 : w2.heap.size ≤ w4.heap.size := (by omega)
        try have lt4_2 : w2.heap.size < w4.heap.size := (by omega)
        try have le4_3 : w3.heap.size ≤ w4.heap.size := (by omega)
        try have lt4_3 : w3.heap.size < w4.heap.size := (by omega)
        have HB4 : Hid (Below w.heap.size w w4) := Lib.hid (Below.trans (by first | exact HB3.out | exact HB3.out.alloc HB3.out.size _ | exact (HB3.out.alloc HB3.out.size _).alloc (le_al HB3.out.size) _ | exact ((HB3.out.alloc HB3.out.size _).alloc (le_al HB3.out.size) _).alloc (le_al (le_al HB3.out.size)) _ | exact HB2.out | exact HB2.out.alloc HB2.out.size _ | exact (HB2.out.alloc HB2.out.size _).alloc (le_al HB2.out.size) _ | exact ((HB2.out.alloc HB2.out.size _).alloc (le_al HB2.out.size) _).alloc (le_al (le_al HB2.out.size)) _ | exact HB1.out | exact HB1.out.alloc HB1.out.size _ | exact (HB1.out.alloc HB1.out.size _).alloc (le_al HB1.out.size) _ | exact ((HB1.out.alloc HB1.out.size _).alloc (le_al HB1.out.size) _).alloc (le_al (le_al HB1.out.size)) _ | exact HB0.out | exact HB0.out.alloc HB0.out.size _ | exact (HB0.out.alloc HB0.out.size _).alloc (le_al HB0.out.size) _ | exact ((HB0.out.alloc HB0.out.size _).alloc (le_al HB0.out.size) _).alloc (le_al (le_al HB0.out.size)) _) (hb4.mono (by (try simp only [World.size_alloc]); (try simp only [size_setCell']); omega)))
        have HN4 := Lib.hid hb4
        clear hb4 hs4
        have HX4 := Lib.hid (HX3.out.below HN4.out)
        have HG4 := Lib.hid hG4
        clear hG4
        go_wp2_with fail
        refine (copy_g gb4 mI4 mE4 _ w4 HG4.out).mono ?_
        rintro e w5 ⟨v5, rfl, ⟨gb5, mI5, mE5, rfl, hG5, _, _, _⟩, hb5⟩
        obtain ⟨hc5, hf5⟩ := bcell hb5
        have hs5 := hb5.size
        try simp only [World.size_alloc] at hs5
        try simp only [size_setCell'] at hs5
        try have le5_0 : w.heap.size ≤ w5.heap.size := (by omega)
        try have lt5_0 : w.heap.size < w5.heap.size := (by omega)
        try have le5_1 : w1.heap.size ≤ w5.heap.size := (by omega)
        try have lt5_1 : w1.heap.size < w5.heap.size := (by omega)
        try have le5_2 : w2.heap.size ≤ w5.heap.size := (by omega)
        try have lt5_2 : w2.heap.size < w5.heap.size := (by omega)
        try have le5_3 : w3.heap.size ≤ w5.heap.size := (by omega)
        try have lt5_3 : w3.heap.size < w5.heap.size := (by omega)
        try have le5_4 : w4.heap.size ≤ w5.heap.size := (by omega)
        try have lt5_4 : w4.heap.size < w5.heap.size := (by omega)
        have HB5 : Hid (Below w.heap.size w w5) := Lib.hid (Below.trans (by first | exact HB4.out | exact HB4.out.alloc HB4.out.size _ | exact (HB4.out.alloc HB4.out.size _).alloc (le_al HB4.out.size) _ | exact ((HB4.out.alloc HB4.out.size _).alloc (le_al HB4.out.size) _).alloc (le_al (le_al HB4.out.size)) _ | exact HB3.out | exact HB3.out.alloc HB3.out.size _ | exact (HB3.out.alloc HB3.out.size _).alloc (le_al HB3.out.size) _ | exact ((HB3.out.alloc HB3.out.size _).alloc (le_al HB3.out.size) _).alloc (le_al (le_al HB3.out.size)) _ | exact HB2.out | exact HB2.out.alloc HB2.out.size _ | exact (HB2.out.alloc HB2.out.size _).alloc (le_al HB2.out.size) _ | exact ((HB2.out.alloc HB2.out.size _).alloc (le_al HB2.out.size) _).alloc (le_al (le_al HB2.out.size)) _ | exact HB1.out | exact HB1.out.alloc HB1.out.size _ | exact (HB1.out.alloc HB1.out.size _).alloc (le_al HB1.out.size) _ | exact ((HB1.out.alloc HB1.out.size _).alloc (le_al HB1.out.size) _).alloc (le_al (le_al HB1.out.size)) _ | exact HB0.out | exact HB0.out.alloc HB0.out.size _ | exact (HB0.out.alloc HB0.out.size _).alloc (le_al HB0.out.size) _ | exact ((HB0.out.alloc HB0.out.size _).alloc (le_al HB0.out.size) _).alloc (le_al (le_al HB0.out.size)) _) (hb5.mono (by (try simp only [World.size_alloc]); (try simp only [size_setCell']); omega)))
        have HN5 := Lib.hid hb5
        clear hb5 hs5
        have HX5 := Lib.hid (HX4.out.below HN5.out)
        have HG5 := Lib.hid hG5
        have HG4a := Lib.hid (HG4.out.below HN5.out)
        clear hG5
        go_wp2_with fail
        refine (on_any gb4 mI4 mE4 _ _ (L.drop k) w5 HG4a.out (ofOps_ok _) (ofOps_thin _) (by have := HX5.out.drop hkl; rwa [Nat.zero_add] at this) (fun o ho => HNS.out o (List.mem_of_mem_drop ho)) (by rw [List.length_drop]; have := HLX.out; omega)).mono ?_
        rintro e w6 ⟨v6, rfl, ⟨gb6, mI6, mE6, rfl, hG6, _, _, _⟩, hb6⟩
        obtain ⟨hc6, hf6⟩ := bcell hb6
        have hs6 := hb6.size
        try simp only [World.size_alloc] at hs6
        try simp only [size_setCell'] at hs6
        try have le6_0 : w.heap.size ≤ w6.heap.size := (by omega)
        try have lt6_0 : w.heap.size < w6.heap.size := (by omega)
        try have le6_1 : w1.heap.size ≤ w6.heap.size := (by omega)
        try have lt6_1 : w1.heap.size < w6.heap.size := (by omega)
        try have le6_2 : w2.heap.size ≤ w6.heap.size := (by omega)
        try have lt6_2 : w2.heap.size < w6.heap.size := (by omega)
        try have le6_3 : w3.heap.size ≤ w6.heap.size := (by omega)
        try have lt6_3 : w3.heap.size < w6.heap.size := (by omega)
        try have le6_4 : w4.heap.size ≤ w6.heap.size := (by omega)
        try have lt6_4 : w4.heap.size < w6.heap.size := (by omega)
        try have le6_5 : w5.heap.size ≤ w6.heap.size := (by omega)
        try have lt6_5 : w5.heap.size < w6.heap.size := (by omega)
        have HB6 : Hid (Below w.heap.size w w6) := Lib.hid (Below.trans (by first | exact HB5.out | exact HB5.out.alloc HB5.out.size _ | exact (HB5.out.alloc HB5.out.size _).alloc (le_al HB5.out.size) _ | exact ((HB5.out.alloc HB5.out.size _).alloc (le_al HB5.out.size) _).alloc (le_al (le_al HB5.out.size)) _ | exact HB4.out | exact HB4.out.alloc HB4.out.size _ | exact (HB4.out.alloc HB4.out.size _).alloc (le_al HB4.out.size) _ | exact ((HB4.out.alloc HB4.out.size _).alloc (le_al HB4.out.size) _).alloc (le_al (le_al HB4.out.size)) _ | exact HB3.out | exact HB3.out.alloc HB3.out.size _ | exact (HB3.out.alloc HB3.out.size _).alloc (le_al HB3.out.size) _ | exact ((HB3.out.alloc HB3.out.size _).alloc (le_al HB3.out.size) _).alloc (le_al (le_al HB3.out.size)) _ | exact HB2.out | exact HB2.out.alloc HB2.out.size _ | exact (HB2.out.alloc HB2.out.size _).alloc (le_al HB2.out.size) _ | exact ((HB2.out.alloc HB2.out.size _).alloc (le_al HB2.out.size) _).alloc (le_al (le_al HB2.out.size)) _ | exact HB1.out | exact HB1.out.alloc HB1.out.size _ | exact (HB1.out.alloc HB1.out.size _).alloc (le_al HB1.out.size) _ | exact ((HB1.out.alloc HB1.out.size _).alloc (le_al HB1.out.size) _).alloc (le_al (le_al HB1.out.size)) _ | exact HB0.out | exact HB0.out.alloc HB0.out.size _ | exact (HB0.out.alloc HB0.out.size _).alloc (le_al HB0.out.size) _ | exact ((HB0.out.alloc HB0.out.size _).alloc (le_al HB0.out.size) _).alloc (le_al (le_al HB0.out.size)) _) (hb6.mono (by (try simp only [World.size_alloc]); (try simp only [size_setCell']); omega)))
        have HN6 := Lib.hid hb6
        clear hb6 hs6
        rw [HLAW.out] at hG6
        have HG6 := Lib.hid hG6
        have HG4b := Lib.hid (HG4a.out.below HN6.out)
        have HG5a := Lib.hid (HG5.out.below HN6.out)
        clear hG6
        go_wp2_with fail
        refine (HOF.out HL1.out _ (by first | exact HB6.out | exact HB6.out.alloc HB6.out.size _ | exact (HB6.out.alloc HB6.out.size _).alloc (le_al HB6.out.size) _ | exact ((HB6.out.alloc HB6.out.size _).alloc (le_al HB6.out.size) _).alloc (le_al (le_al HB6.out.size)) _ | exact HB5.out | exact HB5.out.alloc HB5.out.size _ | exact (HB5.out.alloc HB5.out.size _).alloc (le_al HB5.out.size) _ | exact ((HB5.out.alloc HB5.out.size _).alloc (le_al HB5.out.size) _).alloc (le_al (le_al HB5.out.size)) _ | exact HB4.out | exact HB4.out.alloc HB4.out.size _ | exact (HB4.out.alloc HB4.out.size _).alloc (le_al HB4.out.size) _ | exact ((HB4.out.alloc HB4.out.size _).alloc (le_al HB4.out.size) _).alloc (le_al (le_al HB4.out.size)) _ | exact HB3.out | exact HB3.out.alloc HB3.out.size _ | exact (HB3.out.alloc HB3.out.size _).alloc (le_al HB3.out.size) _ | exact ((HB3.out.alloc HB3.out.size _).alloc (le_al HB3.out.size) _).alloc (le_al (le_al HB3.out.size)) _ | exact HB2.out | exact HB2.out.alloc HB2.out.size _ | exact (HB2.out.alloc HB2.out.size _).alloc (le_al HB2.out.size) _ | exact ((HB2.out.alloc HB2.out.size _).alloc (le_al HB2.out.size) _).alloc (le_al (le_al HB2.out.size)) _ | exact HB1.out | exact HB1.out.alloc HB1.out.size _ | exact (HB1.out.alloc HB1.out.size _).alloc (le_al HB1.out.size) _ | exact ((HB1.out.alloc HB1.out.size _).alloc (le_al HB1.out.size) _).alloc (le_al (le_al HB1.out.size)) _ | exact HB0.out | exact HB0.out.alloc HB0.out.size _ | exact (HB0.out.alloc HB0.out.size _).alloc (le_al HB0.out.size) _ | exact ((HB0.out.alloc HB0.out.size _).alloc (le_al HB0.out.size) _).alloc (le_al (le_al HB0.out.size)) _)).mono ?_
        rintro e w7 ⟨v7, rfl, ⟨gb7, mI7, mE7, rfl, hG7, _, _, _⟩, hb7⟩
        obtain ⟨hc7, hf7⟩ := bcell hb7
        have hs7 := hb7.size
        try simp only [World.size_alloc] at hs7
        try simp only [size_setCell'] at hs7
        try have le7_0 : w.heap.size ≤ w7.heap.size := (by omega)
        try have lt7_0 : w.heap.size < w7.heap.size := (by omega)
        try have le7_1 : w1.heap.size ≤ w7.heap.size := (by omega)
        try have lt7_1 : w1.heap.size < w7.heap.size := (by omega)
        try have le7_2 : w2.heap.size ≤ w7.heap.size := (by omega)
        try have lt7_2 : w2.heap.size < w7.heap.size := (by omega)
        try have le7_3 : w3.heap.size ≤ w7.heap.size := (by omega)
        try have lt7_3 : w3.heap.size < w7.heap.size := (by omega)
        try have le7_4 : w4.heap.size ≤ w7.heap.size := (by omega)
        try have lt7_4 : w4.heap.size < w7.heap.size := (by omega)
        try have le7_5 : w5.heap.size ≤ w7.heap.size := (by omega)
        try have lt7_5 : w5.heap.size < w7.heap.size := (by omega)
        try have le7_6 : w6.heap.size ≤ w7.heap.size := (by omega)
        try have lt7_6 : w6.heap.size < w7.heap.size := (by omega)
        have HB7 : Hid (Below w.heap.size w w7) := Lib.hid (Below.trans (by first | exact HB6.out | exact HB6.out.alloc HB6.out.size _ | exact (HB6.out.alloc HB6.out.size _).alloc (le_al HB6.out.size) _ | exact ((HB6.out.alloc HB6.out.size _).alloc (le_al HB6.out.size) _).alloc (le_al (le_al HB6.out.size)) _ | exact HB5.out | exact HB5.out.alloc HB5.out.size _ | exact (HB5.out.alloc HB5.out.size _).alloc (le_al HB5.out.size) _ | exact ((HB5.out.alloc HB5.out.size _).alloc (le_al HB5.out.size) _).alloc (le_al (le_al HB5.out.size)) _ | exact HB4.out | exact HB4.out.alloc HB4.out.size _ | exact (HB4.out.alloc HB4.out.size _).alloc (le_al HB4.out.size) _ | exact ((HB4.out.alloc HB4.out.size _).alloc (le_al HB4.out.size) _).alloc (le_al (le_al HB4.out.size)) _ | exact HB3.out | exact HB3.out.alloc HB3.out.size _ | exact (HB3.out.alloc HB3.out.size _).alloc (le_al HB3.out.size) _ | exact ((HB3.out.alloc HB3.out.size _).alloc (le_al HB3.out.size) _).alloc (le_al (le_al HB3.out.size)) _ | exact HB2.out | exact HB2.out.alloc HB2.out.size _ | exact (HB2.out.alloc HB2.out.size _).alloc (le_al HB2.out.size) _ | exact ((HB2.out.alloc HB2.out.size _).alloc (le_al HB2.out.size) _).alloc (le_al (le_al HB2.out.size)) _ | exact HB1.out | exact HB1.out.alloc HB1.out.size _ | exact (HB1.out.alloc HB1.out.size _).alloc (le_al HB1.out.size) _ | exact ((HB1.out.alloc HB1.out.size _).alloc (le_al HB1.out.size) _).alloc (le_al (le_al HB1.out.size)) _ | exact HB0.out | exact HB0.out.alloc HB0.out.size _ | exact (HB0.out.alloc HB0.out.size _).alloc (le_al HB0.out.size) _ | exact ((HB0.out.alloc HB0.out.size _).alloc (le_al HB0.out.size) _).alloc (le_al (le_al HB0.out.size)) _) (hb7.mono (by (try simp only [World.size_alloc]); (try simp only [size_setCell']); omega)))
        have HN7 := Lib.hid hb7
        clear hb7 hs7
        have HG7 := Lib.hid hG7
        have HG6a := Lib.hid (HG6.out.below HN7.out)
        have HG4c := Lib.hid (HG4b.out.below HN7.out)
        have HG5b := Lib.hid (HG5a.out.below HN7.out)
        clear hG7
        go_wp2_with fail
        refine (same_any gb6 gb7 _ w7 (ofOps_ok l) (HG6a.out.reads (ofOps_ok _) (by have := (ofOps_ok l).few; omega)) (HG7.out.reads (ofOps_ok _) (by have := (ofOps_ok l).few; omega))).mono ?_
        rintro e w8 ⟨rfl, hb8⟩
        obtain ⟨hc8, hf8⟩ := bcell hb8
        have hs8 := hb8.size
        try simp only [World.size_alloc] at hs8
        try simp only [size_setCell'] at hs8
        try have le8_0 : w.heap.size ≤ w8.heap.size := (by omega)
        try have lt8_0 : w.heap.size < w8.heap.size := (by omega)
        try have le8_1 : w1.heap.size ≤ w8.heap.size := (by omega)
        try have lt8_1 : w1.heap.size < w8.heap.size := (by omega)
        try have le8_2 : w2.heap.size ≤ w8.heap.size := (by omega)
        try have lt8_2 : w2.heap.size < w8.heap.size := (by omega)
        try have le8_3 : w3.heap.size ≤ w8.heap.size := (by omega)
        try have lt8_3 : w3.heap.size < w8.heap.size := (by omega)
        try have le8_4 : w4.heap.size ≤ w8.heap.size := (by omega)
        try have lt8_4 : w4.heap.size < w8.heap.size := (by omega)
        try have le8_5 : w5.heap.size ≤ w8.heap.size := (by omega)
        try have lt8_5 : w5.heap.size < w8.heap.size := (by omega)
        try have le8_6 : w6.heap.size ≤ w8.heap.size := (by omega)
        try have lt8_6 : w6.heap.size < w8.heap.size := (by omega)
        try have le8_7 : w7.heap.size ≤ w8.heap.size := (by omega)
        try have lt8_7 : w7.heap.size < w8.heap.size := (by omega)
        have HB8 : Hid (Below w.heap.size w w8) := Lib.hid (Below.trans (by first | exact HB7.out | exact HB7.out.alloc HB7.out.size _ | exact (HB7.out.alloc HB7.out.size _).alloc (le_al HB7.out.size) _ | exact ((HB7.out.alloc HB7.out.size _).alloc (le_al HB7.out.size) _).alloc (le_al (le_al HB7.out.size)) _ | exact HB6.out | exact HB6.out.alloc HB6.out.size _ | exact (HB6.out.alloc HB6.out.size _).alloc (le_al HB6.out.size) _ | exact ((HB6.out.alloc HB6.out.size _).alloc (le_al HB6.out.size) _).alloc (le_al (le_al HB6.out.size)) _ | exact HB5.out | exact HB5.out.alloc HB5.out.size _ | exact (HB5.out.alloc HB5.out.size _).alloc (le_al HB5.out.size) _ | exact ((HB5.out.alloc HB5.out.size _).alloc (le_al HB5.out.size) _).alloc (le_al (le_al HB5.out.size)) _ | exact HB4.out | exact HB4.out.alloc HB4.out.size _ | exact (HB4.out.alloc HB4.out.size _).alloc (le_al HB4.out.size) _ | exact ((HB4.out.alloc HB4.out.size _).alloc (le_al HB4.out.size) _).alloc (le_al (le_al HB4.out.size)) _ | exact HB3.out | exact HB3.out.alloc HB3.out.size _ | exact (HB3.out.alloc HB3.out.size _).alloc (le_al HB3.out.size) _ | exact ((HB3.out.alloc HB3.out.size _).alloc (le_al HB3.out.size) _).alloc (le_al (le_al HB3.out.size)) _ | exact HB2.out | exact HB2.out.alloc HB2.out.size _ | exact (HB2.out.alloc HB2.out.size _).alloc (le_al HB2.out.size) _ | exact ((HB2.out.alloc HB2.out.size _).alloc (le_al HB2.out.size) _).alloc (le_al (le_al HB2.out.size)) _ | exact HB1.out | exact HB1.out.alloc HB1.out.size _ | exact (HB1.out.alloc HB1.out.size _).alloc (le_al HB1.out.size) _ | exact ((HB1.out.alloc HB1.out.size _).alloc (le_al HB1.out.size) _).alloc (le_al (le_al HB1.out.size)) _ | exact HB0.out | exact HB0.out.alloc HB0.out.size _ | exact (HB0.out.alloc HB0.out.size _).alloc (le_al HB0.out.size) _ | exact ((HB0.out.alloc HB0.out.size _).alloc (le_al HB0.out.size) _).alloc (le_al (le_al HB0.out.size)) _) (hb8.mono (by (try simp only [World.size_alloc]); (try simp only [size_setCell']); omega)))
        have HN8 := Lib.hid hb8
        clear hb8 hs8
        have HG4d := Lib.hid (HG4c.out.below HN8.out)
        have HG5c := Lib.hid (HG5b.out.below HN8.out)
        go_wp2_with fail
        refine (same_any gb4 gb5 _ w8 (ofOps_ok (L.take k)) (HG4d.out.reads (ofOps_ok _) (by have := (ofOps_ok (L.take k)).few; omega)) (HG5c.out.reads (ofOps_ok _) (by have := (ofOps_ok (L.take k)).few; omega))).mono ?_
        rintro e w9 ⟨rfl, hb9⟩
        obtain ⟨hc9, hf9⟩ := bcell hb9
        have hs9 := hb9.size
        try simp only [World.size_alloc] at hs9
        try simp only [size_setCell'] at hs9
        try have le9_0 : w.heap.size ≤ w9.heap.size := (by omega)
        try have lt9_0 : w.heap.size < w9.heap.size := (by omega)
        try have le9_1 : w1.heap.size ≤ w9.heap.size := (by omega)
        try have lt9_1 : w1.heap.size < w9.heap.size := (by omega)
        try have le9_2 : w2.heap.size ≤ w9.heap.size := (by omega)
        try have lt9_2 : w2.heap.size < w9.heap.size := (by omega)
        try have le9_3 : w3.heap.size ≤ w9.heap.size := (by omega)
        try have lt9_3 : w3.heap.size < w9.heap.size := (by omega)
        try have le9_4 : w4.heap.size ≤ w9.heap.size := (by omega)
        try have lt9_4 : w4.heap.size < w9.heap.size := (by omega)
        try have le9_5 : w5.heap.size ≤ w9.heap.size := (by omega)
        try have lt9_5 : w5.heap.size < w9.heap.size := (by omega)
        try have le9_6 : w6.heap.size ≤ w9.heap.size := (by omega)
        try have lt9_6 : w6.heap.size < w9.heap.size := (by omega)
        try have le9_7 : w7.heap.size ≤ w9.heap.size := (by omega)
        try have lt9_7 : w7.heap.size < w9.heap.size := (by omega)
        try have le9_8 : w8.heap.size ≤ w9.heap.size := (by omega)
        try have lt9_8 : w8.heap.size < w9.heap.size := (by omega)
        have HB9 : Hid (Below w.heap.size w w9) := Lib.hid (Below.trans (by first | exact HB8.out | exact HB8.out.alloc HB8.out.size _ | exact (HB8.out.alloc HB8.out.size _).alloc (le_al HB8.out.size) _ | exact ((HB8.out.alloc HB8.out.size _).alloc (le_al HB8.out.size) _).alloc (le_al (le_al HB8.out.size)) _ | exact HB7.out | exact HB7.out.alloc HB7.out.size _ | exact (HB7.out.alloc HB7.out.size _).alloc (le_al HB7.out.size) _ | exact ((HB7.out.alloc HB7.out.size _).alloc (le_al HB7.out.size) _).alloc (le_al (le_al HB7.out.size)) _ | exact HB6.out | exact HB6.out.alloc HB6.out.size _ | exact (HB6.out.alloc HB6.out.size _).alloc (le_al HB6.out.size) _ | exact ((HB6.out.alloc HB6.out.size _).alloc (le_al HB6.out.size) _).alloc (le_al (le_al HB6.out.size)) _ | exact HB5.out | exact HB5.out.alloc HB5.out.size _ | exact (HB5.out.alloc HB5.out.size _).alloc (le_al HB5.out.size) _ | exact ((HB5.out.alloc HB5.out.size _).alloc (le_al HB5.out.size) _).alloc (le_al (le_al HB5.out.size)) _ | exact HB4.out | exact HB4.out.alloc HB4.out.size _ | exact (HB4.out.alloc HB4.out.size _).alloc (le_al HB4.out.size) _ | exact ((HB4.out.alloc HB4.out.size _).alloc (le_al HB4.out.size) _).alloc (le_al (le_al HB4.out.size)) _ | exact HB3.out | exact HB3.out.alloc HB3.out.size _ | exact (HB3.out.alloc HB3.out.size _).alloc (le_al HB3.out.size) _ | exact ((HB3.out.alloc HB3.out.size _).alloc (le_al HB3.out.size) _).alloc (le_al (le_al HB3.out.size)) _ | exact HB2.out | exact HB2.out.alloc HB2.out.size _ | exact (HB2.out.alloc HB2.out.size _).alloc (le_al HB2.out.size) _ | exact ((HB2.out.alloc HB2.out.size _).alloc (le_al HB2.out.size) _).alloc (le_al (le_al HB2.out.size)) _ | exact HB1.out | exact HB1.out.alloc HB1.out.size _ | exact (HB1.out.alloc HB1.out.size _).alloc (le_al HB1.out.size) _ | exact ((HB1.out.alloc HB1.out.size _).alloc (le_al HB1.out.size) _).alloc (le_al (le_al HB1.out.size)) _ | exact HB0.out | exact HB0.out.alloc HB0.out.size _ | exact (HB0.out.alloc HB0.out.size _).alloc (le_al HB0.out.size) _ | exact ((HB0.out.alloc HB0.out.size _).alloc (le_al HB0.out.size) _).alloc (le_al (le_al HB0.out.size)) _) (hb9.mono (by (try simp only [World.size_alloc]); (try simp only [size_setCell']); omega)))
        have HN9 := Lib.hid hb9
        clear hb9 hs9
        go_wp2
        go_ret
        exact ⟨rfl, HB9.out⟩
      · obtain rfl : k = L.length := by omega
        by_cases hck : c = L.length
        · subst hck
          have hk0 : decide ((L.length : Int) < 0) = false := by rw [decide_eq_false_iff_not]; omega
          have hk1 : decide ((L.length : Int) < (L.length : Int)) = false := by rw [decide_eq_false_iff_not]; omega
          have hk2 : decide (L.length < L.length) = false := by rw [decide_eq_false_iff_not]; omega
          have hk3 : (0 : Int) ≤ (L.length : Int) := by omega
          have hk4 : (L.length : Int) ≤ (L.length : Int) := by omega
          clear hL hkl
          go_wp2_with fail
          refine (HBE.out).mono ?_
          rintro e w3 ⟨rfl, hb3⟩
          obtain ⟨hc3, hf3⟩ := bcell hb3
          have hs3 := hb3.size
          try simp only [World.size_alloc] at hs3
          try simp only [size_setCell'] at hs3
          try have le3_0 : w.heap.size ≤ w3.heap.size := (by omega)
          try have lt3_0 : w.heap.size < w3.heap.size := (by omega)
          try have le3_1 : w1.heap.size ≤ w3.heap.size := (by omega)
          try have lt3_1 : w1.heap.size < w3.heap.size := (by omega)
          try have le3_2 : w2.heap.size ≤ w3.heap.size := (by omega)
          try have lt3_2 : w2.heap.size < w3.heap.size := (by omega)
          have HB3 : Hid (Below w.heap.size w w3) := Lib.hid (Below.trans (by first | exact HB2.out | exact HB2.out.alloc HB2.out.size _ | exact (HB2.out.alloc HB2.out.size _).alloc (le_al HB2.out.size) _ | exact ((HB2.out.alloc HB2.out.size _).alloc (le_al HB2.out.size) _).alloc (le_al (le_al HB2.out.size)) _ | exact HB1.out | exact HB1.out.alloc HB1.out.size _ | exact (HB1.out.alloc HB1.out.size _).alloc (le_al HB1.out.size) _ | exact ((HB1.out.alloc HB1.out.size _).alloc (le_al HB1.out.size) _).alloc (le_al (le_al HB1.out.size)) _ | exact HB0.out | exact HB0.out.alloc HB0.out.size _ | exact (HB0.out.alloc HB0.out.size _).alloc (le_al HB0.out.size) _ | exact ((HB0.out.alloc HB0.out.size _).alloc (le_al HB0.out.size) _).alloc (le_al (le_al HB0.out.size)) _) (hb3.mono (by (try simp only [World.size_alloc]); (try simp only [size_setCell']); omega)))
          have HN3 := Lib.hid hb3
          clear hb3 hs3
          have HX3 := Lib.hid (HR2.out.sl.below HN3.out)
          go_wp2_with fail
          refine (of_any _ (L.take L.length) w3 (HX3.out.take (Nat.le_refl _)) (fun o ho => HNS.out o (List.mem_of_mem_take ho)) (by rw [List.length_take]; have := HLX.out; omega)).mono ?_
          rintro e w4 ⟨v4, rfl, ⟨gb4, mI4, mE4, rfl, hG4, _, _, _⟩, hb4⟩
          obtain ⟨hc4, hf4⟩ := bcell hb4
          have hs4 := hb4.size
          try simp only [World.size_alloc] at hs4
          try simp only [size_setCell'] at hs4
          try have le4_0 : w.heap.size ≤ w4.heap.size := (by omega)
          try have lt4_0 : w.heap.size < w4.heap.size := (by omega)
          try have le4_1 : w1.heap.size ≤ w4.heap.size := (by omega)
          try have lt4_1 : w1.heap.size < w4.heap.size := (by omega)
          try have le4_2 : w2.heap.size ≤ w4.heap.size := (by omega)
          try have lt4_2 : w2.heap.size < w4.heap.size := (by omega)
          try have le4_3 : w3.heap.size ≤ w4.heap.size := (by omega)
          try have lt4_3 : w3.heap.size < w4.heap.size := (by omega)
          have HB4 : Hid (Below w.heap.size w w4) := Lib.hid (Below.trans (by first | exact HB3.out | exact HB3.out.alloc HB3.out.size _ | exact (HB3.out.alloc HB3.out.size _).alloc (le_al HB3.out.size) _ | exact ((HB3.out.alloc HB3.out.size _).alloc (le_al HB3.out.size) _).alloc (le_al (le_al HB3.out.size)) _ | exact HB2.out | exact HB2.out.alloc HB2.out.size _ | exact (HB2.out.alloc HB2.out.size _).alloc (le_al HB2.out.size) _ | exact ((HB2.out.alloc HB2.out.size _).alloc (le_al HB2.out.size) _).alloc (le_al (le_al HB2.out.size)) _ | exact HB1.out | exact HB1.out.alloc HB1.out.size _ | exact (HB1.out.alloc HB1.out.size _).alloc (le_al HB1.out.size) _ | exact ((HB1.out.alloc HB1.out.size _).alloc (le_al HB1.out.size) _).alloc (le_al (le_al HB1.out.size)) _ | exact HB0.out | exact HB0.out.alloc HB0.out.size _ | exact (HB0.out.alloc HB0.out.size _).alloc (le_al HB0.out.size) _ | exact ((HB0.out.alloc HB0.out.size _).alloc (le_al HB0.out.size) _).alloc (le_al (le_al HB0.out.size)) _) (hb4.mono (by (try simp only [World.size_alloc]); (try simp only [size_setCell']); omega)))
          have HN4 := Lib.hid hb4
          clear hb4 hs4
          have HX4 := Lib.hid (HX3.out.below HN4.out)
          have HG4 := Lib.hid hG4
          clear hG4
          go_wp2_with fail
          refine (copy_g gb4 mI4 mE4 _ w4 HG4.out).mono ?_
          rintro e w5 ⟨v5, rfl, ⟨gb5, mI5, mE5, rfl, hG5, _, _, _⟩, hb5⟩
          obtain ⟨hc5, hf5⟩ := bcell hb5
          have hs5 := hb5.size
          try simp only [World.size_alloc] at hs5
          try simp only [size_setCell'] at hs5
          try have le5_0 : w.heap.size ≤ w5.heap.size := (by omega)
          try have lt5_0 : w.heap.size < w5.heap.size := (by omega)
          try have le5_1 : w1.heap.size ≤ w5.heap.size := (by omega)
          try have lt5_1 : w1.heap.size < w5.heap.size := (by omega)
          try have le5_2 : w2.heap.size ≤ w5.heap.size := (by omega)
          try have lt5_2 : w2.heap.size < w5.heap.size := (by omega)
          try have le5_3 : w3.heap.size ≤ w5.heap.size := (by omega)
          try have lt5_3 : w3.heap.size < w5.heap.size := (by omega)
          try have le5_4 : w4.heap.size ≤ w5.heap.size := (by omega)
          try have lt5_4 : w4.heap.size < w5.heap.size := (by omega)
          have HB5 : Hid (Below w.heap.size w w5) := Lib.hid (Below.trans (by first | exact HB4.out | exact HB4.out.alloc HB4.out.size _ | exact (HB4.out.alloc HB4.out.size _).alloc (le_al HB4.out.size) _ | exact ((HB4.out.alloc HB4.out.size _).alloc (le_al HB4.out.size) _).alloc (le_al (le_al HB4.out.size)) _ | exact HB3.out | exact HB3.out.alloc HB3.out.size _ | exact (HB3.out.alloc HB3.out.size _).alloc (le_al HB3.out.size) _ | exact ((HB3.out.alloc HB3.out.size _).alloc (le_al HB3.out.size) _).alloc (le_al (le_al HB3.out.size)) _ | exact HB2.out | exact HB2.out.alloc HB2.out.size _ | exact (HB2.out.alloc HB2.out.size _).alloc (le_al HB2.out.size) _ | exact ((HB2.out.alloc HB2.out.size _).alloc (le_al HB2.out.size) _).alloc (le_al (le_al HB2.out.size)) _ | exact HB1.out | exact HB1.out.alloc HB1.out.size _ | exact (HB1.out.alloc HB1.out.size _).alloc (le_al HB1.out.size) _ | exact ((HB1.out.alloc HB1.out.size _).alloc (le_al HB1.out.size) _).alloc (le_al (le_al HB1.out.size)) _ | exact HB0.out | exact HB0.out.alloc HB0.out.size _ | exact (HB0.out.alloc HB0.out.size _).alloc (le_al HB0.out.size) _ | exact ((HB0.out.alloc HB0.out.size _).alloc (le_al HB0.out.size) _).alloc (le_al (le_al HB0.out.size)) _) (hb5.mono (by (try simp only [World.size_alloc]); (try simp only [size_setCell']); omega)))
          have HN5 := Lib.hid hb5
          clear hb5 hs5
          have HX5 := Lib.hid (HX4.out.below HN5.out)
          have HG5 := Lib.hid hG5
          have HG4a := Lib.hid (HG4.out.below HN5.out)
          clear hG5
          go_wp2_with fail
          refine (on_any gb4 mI4 mE4 _ _ (L.drop L.length) w5 HG4a.out (ofOps_ok _) (ofOps_thin _) (SlAt.none_drop (Nat.le_refl _)) (fun o ho => HNS.out o (List.mem_of_mem_drop ho)) (by rw [List.length_drop]; have := HLX.out; omega)).mono ?_
          rintro e w6 ⟨v6, rfl, ⟨gb6, mI6, mE6, rfl, hG6, _, _, _⟩, hb6⟩
          obtain ⟨hc6, hf6⟩ := bcell hb6
          have hs6 := hb6.size
          try simp only [World.size_alloc] at hs6
          try simp only [size_setCell'] at hs6
          try have le6_0 : w.heap.size ≤ w6.heap.size := (by omega)
          try have lt6_0 : w.heap.size < w6.heap.size := (by omega)
          try have le6_1 : w1.heap.size ≤ w6.heap.size := (by omega)
          try have lt6_1 : w1.heap.size < w6.heap.size := (by omega)
          try have le6_2 : w2.heap.size ≤ w6.heap.size := (by omega)
          try have lt6_2 : w2.heap.size < w6.heap.size := (by omega)
          try have le6_3 : w3.heap.size ≤ w6.heap.size := (by omega)
          try have lt6_3 : w3.heap.size < w6.heap.size := (by omega)
          try have le6_4 : w4.heap.size ≤ w6.heap.size := (by omega)
          try have lt6_4 : w4.heap.size < w6.heap.size := (by omega)
          try have le6_5 : w5.heap.size ≤ w6.heap.size := (by omega)
          try have lt6_5 : w5.heap.size < w6.heap.size := (by omega)
          have HB6 : Hid (Below w.heap.size w w6) := Lib.hid (Below.trans (by first | exact HB5.out | exact HB5.out.alloc HB5.out.size _ | exact (HB5.out.alloc HB5.out.size _).alloc (le_al HB5.out.size) _ | exact ((HB5.out.alloc HB5.out.size _).alloc (le_al HB5.out.size) _).alloc (le_al (le_al HB5.out.size)) _ | exact HB4.out | exact HB4.out.alloc HB4.out.size _ | exact (HB4.out.alloc HB4.out.size _).alloc (le_al HB4.out.size) _ | exact ((HB4.out.alloc HB4.out.size _).alloc (le_al HB4.out.size) _).alloc (le_al (le_al HB4.out.size)) _ | exact HB3.out | exact HB3.out.alloc HB3.out.size _ | exact (HB3.out.alloc HB3.out.size _).alloc (le_al HB3.out.size) _ | exact ((HB3.out.alloc HB3.out.size _).alloc (le_al HB3.out.size) _).alloc (le_al (le_al HB3.out.size)) _ | exact HB2.out | exact HB2.out.alloc HB2.out.size _ | exact (HB2.out.alloc HB2.out.size _).alloc (le_al HB2.out.size) _ | exact ((HB2.out.alloc HB2.out.size _).alloc (le_al HB2.out.size) _).alloc (le_al (le_al HB2.out.size)) _ | exact HB1.out | exact HB1.out.alloc HB1.out.size _ | exact (HB1.out.alloc HB1.out.size _).alloc (le_al HB1.out.size) _ | exact ((HB1.out.alloc HB1.out.size _).alloc (le_al HB1.out.size) _).alloc (le_al (le_al HB1.out.size)) _ | exact HB0.out | exact HB0.out.alloc HB0.out.size _ | exact (HB0.out.alloc HB0.out.size _).alloc (le_al HB0.out.size) _ | exact ((HB0.out.alloc HB0.out.size _).alloc (le_al HB0.out.size) _).alloc (le_al (le_al HB0.out.size)) _) (hb6.mono (by (try simp only [World.size_alloc]); (try simp only [size_setCell']); omega)))
          have HN6 := Lib.hid hb6
          clear hb6 hs6
          rw [HLAW.out] at hG6
          have HG6 := Lib.hid hG6
          have HG4b := Lib.hid (HG4a.out.below HN6.out)
          have HG5a := Lib.hid (HG5.out.below HN6.out)
          clear hG6
          go_wp2_with fail
          refine (HOF.out HL1.out _ (by first | exact HB6.out | exact HB6.out.alloc HB6.out.size _ | exact (HB6.out.alloc HB6.out.size _).alloc (le_al HB6.out.size) _ | exact ((HB6.out.alloc HB6.out.size _).alloc (le_al HB6.out.size) _).alloc (le_al (le_al HB6.out.size)) _ | exact HB5.out | exact HB5.out.alloc HB5.out.size _ | exact (HB5.out.alloc HB5.out.size _).alloc (le_al HB5.out.size) _ | exact ((HB5.out.alloc HB5.out.size _).alloc (le_al HB5.out.size) _).alloc (le_al (le_al HB5.out.size)) _ | exact HB4.out | exact HB4.out.alloc HB4.out.size _ | exact (HB4.out.alloc HB4.out.size _).alloc (le_al HB4.out.size) _ | exact ((HB4.out.alloc HB4.out.size _).alloc (le_al HB4.out.size) _).alloc (le_al (le_al HB4.out.size)) _ | exact HB3.out | exact HB3.out.alloc HB3.out.size _ | exact (HB3.out.alloc HB3.out.size _).alloc (le_al HB3.out.size) _ | exact ((HB3.out.alloc HB3.out.size _).alloc (le_al HB3.out.size) _).alloc (le_al (le_al HB3.out.size)) _ | exact HB2.out | exact HB2.out.alloc HB2.out.size _ | exact (HB2.out.alloc HB2.out.size _).alloc (le_al HB2.out.size) _ | exact ((HB2.out.alloc HB2.out.size _).alloc (le_al HB2.out.size) _).alloc (le_al (le_al HB2.out.size)) _ | exact HB1.out | exact HB1.out.alloc HB1.out.size _ | exact (HB1.out.alloc HB1.out.size _).alloc (le_al HB1.out.size) _ | exact ((HB1.out.alloc HB1.out.size _).alloc (le_al HB1.out.size) _).alloc (le_al (le_al HB1.out.size)) _ | exact HB0.out | exact HB0.out.alloc HB0.out.size _ | exact (HB0.out.alloc HB0.out.size _).alloc (le_al HB0.out.size) _ | exact ((HB0.out.alloc HB0.out.size _).alloc (le_al HB0.out.size) _).alloc (le_al (le_al HB0.out.size)) _)).mono ?_
          rintro e w7 ⟨v7, rfl, ⟨gb7, mI7, mE7, rfl, hG7, _, _, _⟩, hb7⟩
          obtain ⟨hc7, hf7⟩ := bcell hb7
          have hs7 := hb7.size
          try simp only [World.size_alloc] at hs7
          try simp only [size_setCell'] at hs7
          try have le7_0 : w.heap.size ≤ w7.heap.size := (by omega)
          try have lt7_0 : w.heap.size < w7.heap.size := (by omega)
          try have le7_1 : w1.heap.size ≤ w7.heap.size := (by omega)
          try have lt7_1 : w1.heap.size < w7.heap.size := (by omega)
          try have le7_2 : w2.heap.size ≤ w7.heap.size := (by omega)
          try have lt7_2 : w2.heap.size < w7.heap.size := (by omega)
          try have le7_3 : w3.heap.size ≤ w7.heap.size := (by omega)
          try have lt7_3 : w3.heap.size < w7.heap.size := (by omega)
          try have le7_4 : w4.heap.size ≤ w7.heap.size := (by omega)
          try have lt7_4 : w4.heap.size < w7.heap.size := (by omega)
          try have le7_5 : w5.heap.size ≤ w7.heap.size := (by omega)
          try have lt7_5 : w5.heap.size < w7.heap.size := (by omega)
          try have le7_6 : w6.heap.size ≤ w7.heap.size := (by omega)
          try have lt7_6 : w6.heap.size < w7.heap.size := (by omega)
          have HB7 : Hid (Below w.heap.size w w7) := Lib.hid (Below.trans (by first | exact HB6.out | exact HB6.out.alloc HB6.out.size _ | exact (HB6.out.alloc HB6.out.size _).alloc (le_al HB6.out.size) _ | exact ((HB6.out.alloc HB6.out.size _).alloc (le_al HB6.out.size) _).alloc (le_al (le_al HB6.out.size)) _ | exact HB5.out | exact HB5.out.alloc HB5.out.size _ | exact (HB5.out.alloc HB5.out.size _).alloc (le_al HB5.out.size) _ | exact ((HB5.out.alloc HB5.out.size _).alloc (le_al HB5.out.size) _).alloc (le_al (le_al HB5.out.size)) _ | exact HB4.out | exact HB4.out.alloc HB4.out.size _ | exact (HB4.out.alloc HB4.out.size _).alloc (le_al HB4.out.size) _ | exact ((HB4.out.alloc HB4.out.size _).alloc (le_al HB4.out.size) _).alloc (le_al (le_al HB4.out.size)) _ | exact HB3.out | exact HB3.out.alloc HB3.out.size _ | exact (HB3.out.alloc HB3.out.size _).alloc (le_al HB3.out.size) _ | exact ((HB3.out.alloc HB3.out.size _).alloc (le_al HB3.out.size) _).alloc (le_al (le_al HB3.out.size)) _ | exact HB2.out | exact HB2.out.alloc HB2.out.size _ | exact (HB2.out.alloc HB2.out.size _).alloc (le_al HB2.out.size) _ | exact ((HB2.out.alloc HB2.out.size _).alloc (le_al HB2.out.size) _).alloc (le_al (le_al HB2.out.size)) _ | exact HB1.out | exact HB1.out.alloc HB1.out.size _ | exact (HB1.out.alloc HB1.out.size _).alloc (le_al HB1.out.size) _ | exact ((HB1.out.alloc HB1.out.size _).alloc (le_al HB1.out.size) _).alloc (le_al (le_al HB1.out.size)) _ | exact HB0.out | exact HB0.out.alloc HB0.out.size _ | exact (HB0.out.alloc HB0.out.size _).alloc (le_al HB0.out.size) _ | exact ((HB0.out.alloc HB0.out.size _).alloc (le_al HB0.out.size) _).alloc (le_al (le_al HB0.out.size)) _) (hb7.mono (by (try simp only [World.size_alloc]); (try simp only [size_setCell']); omega)))
          have HN7 := Lib.hid hb7
          clear hb7 hs7
          have HG7 := Lib.hid hG7
          have HG6a := Lib.hid (HG6.out.below HN7.out)
          have HG4c := Lib.hid (HG4b.out.below HN7.out)
          have HG5b := Lib.hid (HG5a.out.below HN7.out)
          clear hG7
          go_wp2_with fail
          refine (same_any gb6 gb7 _ w7 (ofOps_ok l) (HG6a.out.reads (ofOps_ok _) (by have := (ofOps_ok l).few; omega)) (HG7.out.reads (ofOps_ok _) (by have := (ofOps_ok l).few; omega))).mono ?_
          rintro e w8 ⟨rfl, hb8⟩
          obtain ⟨hc8, hf8⟩ := bcell hb8
          have hs8 := hb8.size
          try simp only [World.size_alloc] at hs8
          try simp only [size_setCell'] at hs8
          try have le8_0 : w.heap.size ≤ w8.heap.size := (by omega)
          try have lt8_0 : w.heap.size < w8.heap.size := (by omega)
          try have le8_1 : w1.heap.size ≤ w8.heap.size := (by omega)
          try have lt8_1 : w1.heap.size < w8.heap.size := (by omega)
          try have le8_2 : w2.heap.size ≤ w8.heap.size := (by omega)
          try have lt8_2 : w2.heap.size < w8.heap.size := (by omega)
          try have le8_3 : w3.heap.size ≤ w8.heap.size := (by omega)
          try have lt8_3 : w3.heap.size < w8.heap.size := (by omega)
          try have le8_4 : w4.heap.size ≤ w8.heap.size := (by omega)
          try have lt8_4 : w4.heap.size < w8.heap.size := (by omega)
          try have le8_5 : w5.heap.size ≤ w8.heap.size := (by omega)
          try have lt8_5 : w5.heap.size < w8.heap.size := (by omega)
          try have le8_6 : w6.heap.size ≤ w8.heap.size := (by omega)
          try have lt8_6 : w6.heap.size < w8.heap.size := (by omega)
          try have le8_7 : w7.heap.size ≤ w8.heap.size := (by omega)
          try have lt8_7 : w7.heap.size < w8.heap.size := (by omega)
          have HB8 : Hid (Below w.heap.size w w8) := Lib.hid (Below.trans (by first | exact HB7.out | exact HB7.out.alloc HB7.out.size _ | exact (HB7.out.alloc HB7.out.size _).alloc (le_al HB7.out.size) _ | exact ((HB7.out.alloc HB7.out.size _).alloc (le_al HB7.out.size) _).alloc (le_al (le_al HB7.out.size)) _ | exact HB6.out | exact HB6.out.alloc HB6.out.size _ | exact (HB6.out.alloc HB6.out.size _).alloc (le_al HB6.out.size) _ | exact ((HB6.out.alloc HB6.out.size _).alloc (le_al HB6.out.size) _).alloc (le_al (le_al HB6.out.size)) _ | exact HB5.out | exact HB5.out.alloc HB5.out.size _ | exact (HB5.out.alloc HB5.out.size _).alloc (le_al HB5.out.size) _ | exact ((HB5.out.alloc HB5.out.size _).alloc (le_al HB5.out.size) _).alloc (le_al (le_al HB5.out.size)) _ | exact HB4.out | exact HB4.out.alloc HB4.out.size _ | exact (HB4.out.alloc HB4.out.size _).alloc (le_al HB4.out.size) _ | exact ((HB4.out.alloc HB4.out.size _).alloc (le_al HB4.out.size) _).alloc (le_al (le_al HB4.out.size)) _ | exact HB3.out | exact HB3.out.alloc HB3.out.size _ | exact (HB3.out.alloc HB3.out.size _).alloc (le_al HB3.out.size) _ | exact ((HB3.out.alloc HB3.out.size _).alloc (le_al HB3.out.size) _).alloc (le_al (le_al HB3.out.size)) _ | exact HB2.out | exact HB2.out.alloc HB2.out.size _ | exact (HB2.out.alloc HB2.out.size _).alloc (le_al HB2.out.size) _ | exact ((HB2.out.alloc HB2.out.size _).alloc (le_al HB2.out.size) _).alloc (le_al (le_al HB2.out.size)) _ | exact HB1.out | exact HB1.out.alloc HB1.out.size _ | exact (HB1.out.alloc HB1.out.size _).alloc (le_al HB1.out.size) _ | exact ((HB1.out.alloc HB1.out.size _).alloc (le_al HB1.out.size) _).alloc (le_al (le_al HB1.out.size)) _ | exact HB0.out | exact HB0.out.alloc HB0.out.size _ | exact (HB0.out.alloc HB0.out.size _).alloc (le_al HB0.out.size) _ | exact ((HB0.out.alloc HB0.out.size _).alloc (le_al HB0.out.size) _).alloc (le_al (le_al HB0.out.size)) _) (hb8.mono (by (try simp only [World.size_alloc]); (try simp only [size_setCell']); omega)))
          have HN8 := Lib.hid hb8
          clear hb8 hs8
          have HG4d := Lib.hid (HG4c.out.below HN8.out)
          have HG5c := Lib.hid (HG5b.out.below HN8.out)
          go_wp2_with fail
          refine (same_any gb4 gb5 _ w8 (ofOps_ok (L.take L.length)) (HG4d.out.reads (ofOps_ok _) (by have := (ofOps_ok (L.take L.length)).few; omega)) (HG5c.out.reads (ofOps_ok _) (by have := (ofOps_ok (L.take L.length)).few; omega))).mono ?_
          rintro e w9 ⟨rfl, hb9⟩
          obtain ⟨hc9, hf9⟩ := bcell hb9
          have hs9 := hb9.size
          try simp only [World.size_alloc] at hs9
          try simp only [size_setCell'] at hs9
          try have le9_0 : w.heap.size ≤ w9.heap.size := (by omega)
          try have lt9_0 : w.heap.size < w9.heap.size := (by omega)
          try have le9_1 : w1.heap.size ≤ w9.heap.size := (by omega)
          try have lt9_1 : w1.heap.size < w9.heap.size := (by omega)
          try have le9_2 : w2.heap.size ≤ w9.heap.size := (by omega)
          try have lt9_2 : w2.heap.size < w9.heap.size := (by omega)
          try have le9_3 : w3.heap.size ≤ w9.heap.size := (by omega)
          try have lt9_3 : w3.heap.size < w9.heap.size := (by omega)
          try have le9_4 : w4.heap.size ≤ w9.heap.size := (by omega)
          try have lt9_4 : w4.heap.size < w9.heap.size := (by omega)
          try have le9_5 : w5.heap.size ≤ w9.heap.size := (by omega)
          try have lt9_5 : w5.heap.size < w9.heap.size := (by omega)
          try have le9_6 : w6.heap.size ≤ w9.heap.size := (by omega)
          try have lt9_6 : w6.heap.size < w9.heap.size := (by omega)
          try have le9_7 : w7.heap.size ≤ w9.heap.size := (by omega)
          try have lt9_7 : w7.heap.size < w9.heap.size := (by omega)
          try have le9_8 : w8.heap.size ≤ w9.heap.size := (by omega)
          try have lt9_8 : w8.heap.size < w9.heap.size := (by omega)
          have HB9 : Hid (Below w.heap.size w w9) := Lib.hid (Below.trans (by first | exact HB8.out | exact HB8.out.alloc HB8.out.size _ | exact (HB8.out.alloc HB8.out.size _).alloc (le_al HB8.out.size) _ | exact ((HB8.out.alloc HB8.out.size _).alloc (le_al HB8.out.size) _).alloc (le_al (le_al HB8.out.size)) _ | exact HB7.out | exact HB7.out.alloc HB7.out.size _ | exact (HB7.out.alloc HB7.out.size _).alloc (le_al HB7.out.size) _ | exact ((HB7.out.alloc HB7.out.size _).alloc (le_al HB7.out.size) _).alloc (le_al (le_al HB7.out.size)) _ | exact HB6.out | exact HB6.out.alloc HB6.out.size _ | exact (HB6.out.alloc HB6.out.size _).alloc (le_al HB6.out.size) _ | exact ((HB6.out.alloc HB6.out.size _).alloc (le_al HB6.out.size) _).alloc (le_al (le_al HB6.out.size)) _ | exact HB5.out | exact HB5.out.alloc HB5.out.size _ | exact (HB5.out.alloc HB5.out.size _).alloc (le_al HB5.out.size) _ | exact ((HB5.out.alloc HB5.out.size _).alloc (le_al HB5.out.size) _).alloc (le_al (le_al HB5.out.size)) _ | exact HB4.out | exact HB4.out.alloc HB4.out.size _ | exact (HB4.out.alloc HB4.out.size _).alloc (le_al HB4.out.size) _ | exact ((HB4.out.alloc HB4.out.size _).alloc (le_al HB4.out.size) _).alloc (le_al (le_al HB4.out.size)) _ | exact HB3.out | exact HB3.out.alloc HB3.out.size _ | exact (HB3.out.alloc HB3.out.size _).alloc (le_al HB3.out.size) _ | exact ((HB3.out.alloc HB3.out.size _).alloc (le_al HB3.out.size) _).alloc (le_al (le_al HB3.out.size)) _ | exact HB2.out | exact HB2.out.alloc HB2.out.size _ | exact (HB2.out.alloc HB2.out.size _).alloc (le_al HB2.out.size) _ | exact ((HB2.out.alloc HB2.out.size _).alloc (le_al HB2.out.size) _).alloc (le_al (le_al HB2.out.size)) _ | exact HB1.out | exact HB1.out.alloc HB1.out.size _ | exact (HB1.out.alloc HB1.out.size _).alloc (le_al HB1.out.size) _ | exact ((HB1.out.alloc HB1.out.size _).alloc (le_al HB1.out.size) _).alloc (le_al (le_al HB1.out.size)) _ | exact HB0.out | exact HB0.out.alloc HB0.out.size _ | exact (HB0.out.alloc HB0.out.size _).alloc (le_al HB0.out.size) _ | exact ((HB0.out.alloc HB0.out.size _).alloc (le_al HB0.out.size) _).alloc (le_al (le_al HB0.out.size)) _) (hb9.mono (by (try simp only [World.size_alloc]); (try simp only [size_setCell']); omega)))
          have HN9 := Lib.hid hb9
          clear hb9 hs9
          go_wp2
          go_ret
          exact ⟨rfl, HB9.out⟩
        · have hck2 : L.length ≤ c := by omega
          have hk0 : decide ((L.length : Int) < 0) = false := by rw [decide_eq_false_iff_not]; omega
          have hk1 : decide ((L.length : Int) < (L.length : Int)) = false := by rw [decide_eq_false_iff_not]; omega
          have hk2 : decide (L.length < L.length) = false := by rw [decide_eq_false_iff_not]; omega
          have hk3 : (0 : Int) ≤ (L.length : Int) := by omega
          have hk4 : (L.length : Int) ≤ (L.length : Int) := by omega
          clear hL hkl
          go_wp2_with fail
          refine (HBE.out).mono ?_
          rintro e w3 ⟨rfl, hb3⟩
          obtain ⟨hc3, hf3⟩ := bcell hb3
          have hs3 := hb3.size
          try simp only [World.size_alloc] at hs3
          try simp only [size_setCell'] at hs3
          try have le3_0 : w.heap.size ≤ w3.heap.size := (by omega)
          try have lt3_0 : w.heap.size < w3.heap.size := (by omega)
          try have le3_1 : w1.heap.size ≤ w3.heap.size := (by omega)
          try have lt3_1 : w1.heap.size < w3.heap.size := (by omega)
          try have le3_2 : w2.heap.size ≤ w3.heap.size := (by omega)
          try have lt3_2 : w2.heap.size < w3.heap.size := (by omega)
          have HB3 : Hid (Below w.heap.size w w3) := Lib.hid (Below.trans (by first | exact HB2.out | exact HB2.out.alloc HB2.out.size _ | exact (HB2.out.alloc HB2.out.size _).alloc (le_al HB2.out.size) _ | exact ((HB2.out.alloc HB2.out.size _).alloc (le_al HB2.out.size) _).alloc (le_al (le_al HB2.out.size)) _ | exact HB1.out | exact HB1.out.alloc HB1.out.size _ | exact (HB1.out.alloc HB1.out.size _).alloc (le_al HB1.out.size) _ | exact ((HB1.out.alloc HB1.out.size _).alloc (le_al HB1.out.size) _).alloc (le_al (le_al HB1.out.size)) _ | exact HB0.out | exact HB0.out.alloc HB0.out.size _ | exact (HB0.out.alloc HB0.out.size _).alloc (le_al HB0.out.size) _ | exact ((HB0.out.alloc HB0.out.size _).alloc (le_al HB0.out.size) _).alloc (le_al (le_al HB0.out.size)) _) (hb3.mono (by (try simp only [World.size_alloc]); (try simp only [size_setCell']); omega)))
          have HN3 := Lib.hid hb3
          clear hb3 hs3
          have HX3 := Lib.hid (HR2.out.sl.below HN3.out)
          go_wp2_with fail
          refine (of_any _ (L.take L.length) w3 (HX3.out.take (Nat.le_refl _)) (fun o ho => HNS.out o (List.mem_of_mem_take ho)) (by rw [List.length_take]; have := HLX.out; omega)).mono ?_
          rintro e w4 ⟨v4, rfl, ⟨gb4, mI4, mE4, rfl, hG4, _, _, _⟩, hb4⟩
          obtain ⟨hc4, hf4⟩ := bcell hb4
          have hs4 := hb4.size
          try simp only [World.size_alloc] at hs4
          try simp only [size_setCell'] at hs4
          try have le4_0 : w.heap.size ≤ w4.heap.size := (by omega)
          try have lt4_0 : w.heap.size < w4.heap.size := (by omega)
          try have le4_1 : w1.heap.size ≤ w4.heap.size := (by omega)
          try have lt4_1 : w1.heap.size < w4.heap.size := (by omega)
          try have le4_2 : w2.heap.size ≤ w4.heap.size := (by omega)
          try have lt4_2 : w2.heap.size < w4.heap.size := (by omega)
          try have le4_3 : w3.heap.size ≤ w4.heap.size := (by omega)
          try have lt4_3 : w3.heap.size < w4.heap.size := (by omega)
          have HB4 : Hid (Below w.heap.size w w4) := Lib.hid (Below.trans (by first | exact HB3.out | exact HB3.out.alloc HB3.out.size _ | exact (HB3.out.alloc HB3.out.size _).alloc (le_al HB3.out.size) _ | exact ((HB3.out.alloc HB3.out.size _).alloc (le_al HB3.out.size) _).alloc (le_al (le_al HB3.out.size)) _ | exact HB2.out | exact HB2.out.alloc HB2.out.size _ | exact (HB2.out.alloc HB2.out.size _).alloc (le_al HB2.out.size) _ | exact ((HB2.out.alloc HB2.out.size _).alloc (le_al HB2.out.size) _).alloc (le_al (le_al HB2.out.size)) _ | exact HB1.out | exact HB1.out.alloc HB1.out.size _ | exact (HB1.out.alloc HB1.out.size _).alloc (le_al HB1.out.size) _ | exact ((HB1.out.alloc HB1.out.size _).alloc (le_al HB1.out.size) _).alloc (le_al (le_al HB1.out.size)) _ | exact HB0.out | exact HB0.out.alloc HB0.out.size _ | exact (HB0.out.alloc HB0.out.size _).alloc (le_al HB0.out.size) _ | exact ((HB0.out.alloc HB0.out.size _).alloc (le_al HB0.out.size) _).alloc (le_al (le_al HB0.out.size)) _) (hb4.mono (by (try simp only [World.size_alloc]); (try simp only [size_setCell']); omega)))
          have HN4 := Lib.hid hb4
          clear hb4 hs4
          have HX4 := Lib.hid (HX3.out.below HN4.out)
          have HG4 := Lib.hid hG4
          clear hG4
          go_wp2_with fail
          refine (copy_g gb4 mI4 mE4 _ w4 HG4.out).mono ?_
          rintro e w5 ⟨v5, rfl, ⟨gb5, mI5, mE5, rfl, hG5, _, _, _⟩, hb5⟩
          obtain ⟨hc5, hf5⟩ := bcell hb5
          have hs5 := hb5.size
          try simp only [World.size_alloc] at hs5
          try simp only [size_setCell'] at hs5
          try have le5_0 : w.heap.size ≤ w5.heap.size := (by omega)
          try have lt5_0 : w.heap.size < w5.heap.size := (by omega)
          try have le5_1 : w1.heap.size ≤ w5.heap.size := (by omega)
          try have lt5_1 : w1.heap.size < w5.heap.size := (by omega)
          try have le5_2 : w2.heap.size ≤ w5.heap.size := (by omega)
          try have lt5_2 : w2.heap.size < w5.heap.size := (by omega)
          try have le5_3 : w3.heap.size ≤ w5.heap.size := (by omega)
          try have lt5_3 : w3.heap.size < w5.heap.size := (by omega)
          try have le5_4 : w4.heap.size ≤ w5.heap.size := (by omega)
          try have lt5_4 : w4.heap.size < w5.heap.size := (by omega)
          have HB5 : Hid (Below w.heap.size w w5) := Lib.hid (Below.trans (by first | exact HB4.out | exact HB4.out.alloc HB4.out.size _ | exact (HB4.out.alloc HB4.out.size _).alloc (le_al HB4.out.size) _ | exact ((HB4.out.alloc HB4.out.size _).alloc (le_al HB4.out.size) _).alloc (le_al (le_al HB4.out.size)) _ | exact HB3.out | exact HB3.out.alloc HB3.out.size _ | exact (HB3.out.alloc HB3.out.size _).alloc (le_al HB3.out.size) _ | exact ((HB3.out.alloc HB3.out.size _).alloc (le_al HB3.out.size) _).alloc (le_al (le_al HB3.out.size)) _ | exact HB2.out | exact HB2.out.alloc HB2.out.size _ | exact (HB2.out.alloc HB2.out.size _).alloc (le_al HB2.out.size) _ | exact ((HB2.out.alloc HB2.out.size _).alloc (le_al HB2.out.size) _).alloc (le_al (le_al HB2.out.size)) _ | exact HB1.out | exact HB1.out.alloc HB1.out.size _ | exact (HB1.out.alloc HB1.out.size _).alloc (le_al HB1.out.size) _ | exact ((HB1.out.alloc HB1.out.size _).alloc (le_al HB1.out.size) _).alloc (le_al (le_al HB1.out.size)) _ | exact HB0.out | exact HB0.out.alloc HB0.out.size _ | exact (HB0.out.alloc HB0.out.size _).alloc (le_al HB0.out.size) _ | exact ((HB0.out.alloc HB0.out.size _).alloc (le_al HB0.out.size) _).alloc (le_al (le_al HB0.out.size)) _) (hb5.mono (by (try simp only [World.size_alloc]); (try simp only [size_setCell']); omega)))
          have HN5 := Lib.hid hb5
          clear hb5 hs5
          have HX5 := Lib.hid (HX4.out.below HN5.out)
          have HG5 := Lib.hid hG5
          have HG4a := Lib.hid (HG4.out.below HN5.out)
          clear hG5
          go_wp2_with fail
          refine (on_any gb4 mI4 mE4 _ _ (L.drop L.length) w5 HG4a.out (ofOps_ok _) (ofOps_thin _) (SlAt.none_drop (Nat.le_refl _)) (fun o ho => HNS.out o (List.mem_of_mem_drop ho)) (by rw [List.length_drop]; have := HLX.out; omega)).mono ?_
          rintro e w6 ⟨v6, rfl, ⟨gb6, mI6, mE6, rfl, hG6, _, _, _⟩, hb6⟩
          obtain ⟨hc6, hf6⟩ := bcell hb6
          have hs6 := hb6.size
          try simp only [World.size_alloc] at hs6
          try simp only [size_setCell'] at hs6
          try have le6_0 : w.heap.size ≤ w6.heap.size := (by omega)
          try have lt6_0 : w.heap.size < w6.heap.size := (by omega)
          try have le6_1 : w1.heap.size ≤ w6.heap.size := (by omega)
          try have lt6_1 : w1.heap.size < w6.heap.size := (by omega)
          try have le6_2 : w2.heap.size ≤ w6.heap.size := (by omega)
          try have lt6_2 : w2.heap.size < w6.heap.size := (by omega)
          try have le6_3 : w3.heap.size ≤ w6.heap.size := (by omega)
          try have lt6_3 : w3.heap.size < w6.heap.size := (by omega)
          try have le6_4 : w4.heap.size ≤ w6.heap.size := (by omega)
          try have lt6_4 : w4.heap.size < w6.heap.size := (by omega)
          try have le6_5 : w5.heap.size ≤ w6.heap.size := (by omega)
          try have lt6_5 : w5.heap.size < w6.heap.size := (by omega)
          have HB6 : Hid (Below w.heap.size w w6) := Lib.hid (Below.trans (by first | exact HB5.out | exact HB5.out.alloc HB5.out.size _ | exact (HB5.out.alloc HB5.out.size _).alloc (le_al HB5.out.size) _ | exact ((HB5.out.alloc HB5.out.size _).alloc (le_al HB5.out.size) _).alloc (le_al (le_al HB5.out.size)) _ | exact HB4.out | exact HB4.out.alloc HB4.out.size _ | exact (HB4.out.alloc HB4.out.size _).alloc (le_al HB4.out.size) _ | exact ((HB4.out.alloc HB4.out.size _).alloc (le_al HB4.out.size) _).alloc (le_al (le_al HB4.out.size)) _ | exact HB3.out | exact HB3.out.alloc HB3.out.size _ | exact (HB3.out.alloc HB3.out.size _).alloc (le_al HB3.out.size) _ | exact ((HB3.out.alloc HB3.out.size _).alloc (le_al HB3.out.size) _).alloc (le_al (le_al HB3.out.size)) _ | exact HB2.out | exact HB2.out.alloc HB2.out.size _ | exact (HB2.out.alloc HB2.out.size _).alloc (le_al HB2.out.size) _ | exact ((HB2.out.alloc HB2.out.size _).alloc (le_al HB2.out.size) _).alloc (le_al (le_al HB2.out.size)) _ | exact HB1.out | exact HB1.out.alloc HB1.out.size _ | exact (HB1.out.alloc HB1.out.size _).alloc (le_al HB1.out.size) _ | exact ((HB1.out.alloc HB1.out.size _).alloc (le_al HB1.out.size) _).alloc (le_al (le_al HB1.out.size)) _ | exact HB0.out | exact HB0.out.alloc HB0.out.size _ | exact (HB0.out.alloc HB0.out.size _).alloc (le_al HB0.out.size) _ | exact ((HB0.out.alloc HB0.out.size _).alloc (le_al HB0.out.size) _).alloc (le_al (le_al HB0.out.size)) _) (hb6.mono (by (try simp only [World.size_alloc]); (try simp only [size_setCell']); omega)))
          have HN6 := Lib.hid hb6
          clear hb6 hs6
          rw [HLAW.out] at hG6
          have HG6 := Lib.hid hG6
          have HG4b := Lib.hid (HG4a.out.below HN6.out)
          have HG5a := Lib.hid (HG5.out.below HN6.out)
          clear hG6
          go_wp2_with fail
          refine (HOF.out HL1.out _ (by first | exact HB6.out | exact HB6.out.alloc HB6.out.size _ | exact (HB6.out.alloc HB6.out.size _).alloc (le_al HB6.out.size) _ | exact ((HB6.out.alloc HB6.out.size _).alloc (le_al HB6.out.size) _).alloc (le_al (le_al HB6.out.size)) _ | exact HB5.out | exact HB5.out.alloc HB5.out.size _ | exact (HB5.out.alloc HB5.out.size _).alloc (le_al HB5.out.size) _ | exact ((HB5.out.alloc HB5.out.size _).alloc (le_al HB5.out.size) _).alloc (le_al (le_al HB5.out.size)) _ | exact HB4.out | exact HB4.out.alloc HB4.out.size _ | exact (HB4.out.alloc HB4.out.size _).alloc (le_al HB4.out.size) _ | exact ((HB4.out.alloc HB4.out.size _).alloc (le_al HB4.out.size) _).alloc (le_al (le_al HB4.out.size)) _ | exact HB3.out | exact HB3.out.alloc HB3.out.size _ | exact (HB3.out.alloc HB3.out.size _).alloc (le_al HB3.out.size) _ | exact ((HB3.out.alloc HB3.out.size _).alloc (le_al HB3.out.size) _).alloc (le_al (le_al HB3.out.size)) _ | exact HB2.out | exact HB2.out.alloc HB2.out.size _ | exact (HB2.out.alloc HB2.out.size _).alloc (le_al HB2.out.size) _ | exact ((HB2.out.alloc HB2.out.size _).alloc (le_al HB2.out.size) _).alloc (le_al (le_al HB2.out.size)) _ | exact HB1.out | exact HB1.out.alloc HB1.out.size _ | exact (HB1.out.alloc HB1.out.size _).alloc (le_al HB1.out.size) _ | exact ((HB1.out.alloc HB1.out.size _).alloc (le_al HB1.out.size) _).alloc (le_al (le_al HB1.out.size)) _ | exact HB0.out | exact HB0.out.alloc HB0.out.size _ | exact (HB0.out.alloc HB0.out.size _).alloc (le_al HB0.out.size) _ | exact ((HB0.out.alloc HB0.out.size _).alloc (le_al HB0.out.size) _).alloc (le_al (le_al HB0.out.size)) _)).mono ?_
          rintro e w7 ⟨v7, rfl, ⟨gb7, mI7, mE7, rfl, hG7, _, _, _⟩, hb7⟩
          obtain ⟨hc7, hf7⟩ := bcell hb7
          have hs7 := hb7.size
          try simp only [World.size_alloc] at hs7
          try simp only [size_setCell'] at hs7
          try have le7_0 : w.heap.size ≤ w7.heap.size := (by omega)
          try have lt7_0 : w.heap.size < w7.heap.size := (by omega)
          try have le7_1 : w1.heap.size ≤ w7.heap.size := (by omega)
          try have lt7_1 : w1.heap.size < w7.heap.size := (by omega)
          try have le7_2 : w2.heap.size ≤ w7.heap.size := (by omega)
          try have lt7_2 : w2.heap.size < w7.heap.size := (by omega)
          try have le7_3 : w3.heap.size ≤ w7.heap.size := (by omega)
          try have lt7_3 : w3.heap.size < w7.heap.size := (by omega)
          try have le7_4 : w4.heap.size ≤ w7.heap.size := (by omega)
          try have lt7_4 : w4.heap.size < w7.heap.size := (by omega)
          try have le7_5 : w5.heap.size ≤ w7.heap.size := (by omega)
          try have lt7_5 : w5.heap.size < w7.heap.size := (by omega)
          try have le7_6 : w6.heap.size ≤ w7.heap.size := (by omega)
          try have lt7_6 : w6.heap.size < w7.heap.size := (by omega)
          have HB7 : Hid (Below w.heap.size w w7) := Lib.hid (Below.trans (by first | exact HB6.out | exact HB6.out.alloc HB6.out.size _ | exact (HB6.out.alloc HB6.out.size _).alloc (le_al HB6.out.size) _ | exact ((HB6.out.alloc HB6.out.size _).alloc (le_al HB6.out.size) _).alloc (le_al (le_al HB6.out.size)) _ | exact HB5.out | exact HB5.out.alloc HB5.out.size _ | exact (HB5.out.alloc HB5.out.size _).alloc (le_al HB5.out.size) _ | exact ((HB5.out.alloc HB5.out.size _).alloc (le_al HB5.out.size) _).alloc (le_al (le_al HB5.out.size)) _ | exact HB4.out | exact HB4.out.alloc HB4.out.size _ | exact (HB4.out.alloc HB4.out.size _).alloc (le_al HB4.out.size) _ | exact ((HB4.out.alloc HB4.out.size _).alloc (le_al HB4.out.size) _).alloc (le_al (le_al HB4.out.size)) _ | exact HB3.out | exact HB3.out.alloc HB3.out.size _ | exact (HB3.out.alloc HB3.out.size _).alloc (le_al HB3.out.size) _ | exact ((HB3.out.alloc HB3.out.size _).alloc (le_al HB3.out.size) _).alloc (le_al (le_al HB3.out.size)) _ | exact HB2.out | exact HB2.out.alloc HB2.out.size _ | exact (HB2.out.alloc HB2.out.size _).alloc (le_al HB2.out.size) _ | exact ((HB2.out.alloc HB2.out.size _).alloc (le_al HB2.out.size) _).alloc (le_al (le_al HB2.out.size)) _ | exact HB1.out | exact HB1.out.alloc HB1.out.size _ | exact (HB1.out.alloc HB1.out.size _).alloc (le_al HB1.out.size) _ | exact ((HB1.out.alloc HB1.out.size _).alloc (le_al HB1.out.size) _).alloc (le_al (le_al HB1.out.size)) _ | exact HB0.out | exact HB0.out.alloc HB0.out.size _ | exact (HB0.out.alloc HB0.out.size _).alloc (le_al HB0.out.size) _ | exact ((HB0.out.alloc HB0.out.size _).alloc (le_al HB0.out.size) _).alloc (le_al (le_al HB0.out.size)) _) (hb7.mono (by (try simp only [World.size_alloc]); (try simp only [size_setCell']); omega)))
          have HN7 := Lib.hid hb7
          clear hb7 hs7
          have HG7 := Lib.hid hG7
          have HG6a := Lib.hid (HG6.out.below HN7.out)
          have HG4c := Lib.hid (HG4b.out.below HN7.out)
          have HG5b := Lib.hid (HG5a.out.below HN7.out)
          clear hG7
          go_wp2_with fail
          refine (same_any gb6 gb7 _ w7 (ofOps_ok l) (HG6a.out.reads (ofOps_ok _) (by have := (ofOps_ok l).few; omega)) (HG7.out.reads (ofOps_ok _) (by have := (ofOps_ok l).few; omega))).mono ?_
          rintro e w8 ⟨rfl, hb8⟩
          obtain ⟨hc8, hf8⟩ := bcell hb8
          have hs8 := hb8.size
          try simp only [World.size_alloc] at hs8
          try simp only [size_setCell'] at hs8
          try have le8_0 : w.heap.size ≤ w8.heap.size := (by omega)
          try have lt8_0 : w.heap.size < w8.heap.size := (by omega)
          try have le8_1 : w1.heap.size ≤ w8.heap.size := (by omega)
          try have lt8_1 : w1.heap.size < w8.heap.size := (by omega)
          try have le8_2 : w2.heap.size ≤ w8.heap.size := (by omega)
          try have lt8_2 : w2.heap.size < w8.heap.size := (by omega)
          try have le8_3 : w3.heap.size ≤ w8.heap.size := (by omega)
          try have lt8_3 : w3.heap.size < w8.heap.size := (by omega)
          try have le8_4 : w4.heap.size ≤ w8.heap.size := (by omega)
          try have lt8_4 : w4.heap.size < w8.heap.size := (by omega)
          try have le8_5 : w5.heap.size ≤ w8.heap.size := (by omega)
          try have lt8_5 : w5.heap.size < w8.heap.size := (by omega)
          try have le8_6 : w6.heap.size ≤ w8.heap.size := (by omega)
          try have lt8_6 : w6.heap.size < w8.heap.size := (by omega)
          try have le8_7 : w7.heap.size ≤ w8.heap.size := (by omega)
          try have lt8_7 : w7.heap.size < w8.heap.size := (by omega)
          have HB8 : Hid (Below w.heap.size w w8) := Lib.hid (Below.trans (by first | exact HB7.out | exact HB7.out.alloc HB7.out.size _ | exact (HB7.out.alloc HB7.out.size _).alloc (le_al HB7.out.size) _ | exact ((HB7.out.alloc HB7.out.size _).alloc (le_al HB7.out.size) _).alloc (le_al (le_al HB7.out.size)) _ | exact HB6.out | exact HB6.out.alloc HB6.out.size _ | exact (HB6.out.alloc HB6.out.size _).alloc (le_al HB6.out.size) _ | exact ((HB6.out.alloc HB6.out.size _).alloc (le_al HB6.out.size) _).alloc (le_al (le_al HB6.out.size)) _ | exact HB5.out | exact HB5.out.alloc HB5.out.size _ | exact (HB5.out.alloc HB5.out.size _).alloc (le_al HB5.out.size) _ | exact ((HB5.out.alloc HB5.out.size _).alloc (le_al HB5.out.size) _).alloc (le_al (le_al HB5.out.size)) _ | exact HB4.out | exact HB4.out.alloc HB4.out.size _ | exact (HB4.out.alloc HB4.out.size _).alloc (le_al HB4.out.size) _ | exact ((HB4.out.alloc HB4.out.size _).alloc (le_al HB4.out.size) _).alloc (le_al (le_al HB4.out.size)) _ | exact HB3.out | exact HB3.out.alloc HB3.out.size _ | exact (HB3.out.alloc HB3.out.size _).alloc (le_al HB3.out.size) _ | exact ((HB3.out.alloc HB3.out.size _).alloc (le_al HB3.out.size) _).alloc (le_al (le_al HB3.out.size)) _ | exact HB2.out | exact HB2.out.alloc HB2.out.size _ | exact (HB2.out.alloc HB2.out.size _).alloc (le_al HB2.out.size) _ | exact ((HB2.out.alloc HB2.out.size _).alloc (le_al HB2.out.size) _).alloc (le_al (le_al HB2.out.size)) _ | exact HB1.out | exact HB1.out.alloc HB1.out.size _ | exact (HB1.out.alloc HB1.out.size _).alloc (le_al HB1.out.size) _ | exact ((HB1.out.alloc HB1.out.size _).alloc (le_al HB1.out.size) _).alloc (le_al (le_al HB1.out.size)) _ | exact HB0.out | exact HB0.out.alloc HB0.out.size _ | exact (HB0.out.alloc HB0.out.size _).alloc (le_al HB0.out.size) _ | exact ((HB0.out.alloc HB0.out.size _).alloc (le_al HB0.out.size) _).alloc (le_al (le_al HB0.out.size)) _) (hb8.mono (by (try simp only [World.size_alloc]); (try simp only [size_setCell']); omega)))
          have HN8 := Lib.hid hb8
          clear hb8 hs8
          have HG4d := Lib.hid (HG4c.out.below HN8.out)
          have HG5c := Lib.hid (HG5b.out.below HN8.out)
          go_wp2_with fail
          refine (same_any gb4 gb5 _ w8 (ofOps_ok (L.take L.length)) (HG4d.out.reads (ofOps_ok _) (by have := (ofOps_ok (L.take L.length)).few; omega)) (HG5c.out.reads (ofOps_ok _) (by have := (ofOps_ok (L.take L.length)).few; omega))).mono ?_
          rintro e w9 ⟨rfl, hb9⟩
          obtain ⟨hc9, hf9⟩ := bcell hb9
          have hs9 := hb9.size
          try simp only [World.size_alloc] at hs9
          try simp only [size_setCell'] at hs9
          try have le9_0 : w.heap.size ≤ w9.heap.size := (by omega)
          try have lt9_0 : w.heap.size < w9.heap.size := (by omega)
          try have le9_1 : w1.heap.size ≤ w9.heap.size := (by omega)
          try have lt9_1 : w1.heap.size < w9.heap.size := (by omega)
          try have le9_2 : w2.heap.size ≤ w9.heap.size := (by omega)
          try have lt9_2 : w2.heap.size < w9.heap.size := (by omega)
          try have le9_3 : w3.heap.size ≤ w9.heap.size := (by omega)
          try have lt9_3 : w3.heap.size < w9.heap.size := (by omega)
          try have le9_4 : w4.heap.size ≤ w9.heap.size := (by omega)
          try have lt9_4 : w4.heap.size < w9.heap.size := (by omega)
          try have le9_5 : w5.heap.size ≤ w9.heap.size := (by omega)
          try have lt9_5 : w5.heap.size < w9.heap.size := (by omega)
          try have le9_6 : w6.heap.size ≤ w9.heap.size := (by omega)
          try have lt9_6 : w6.heap.size < w9.heap.size := (by omega)
          try have le9_7 : w7.heap.size ≤ w9.heap.size := (by omega)
          try have lt9_7 : w7.heap.size < w9.heap.size := (by omega)
          try have le9_8 : w8.heap.size ≤ w9.heap.size := (by omega)
          try have lt9_8 : w8.heap.size < w9.heap.size := (by omega)
          have HB9 : Hid (Below w.heap.size w w9) := Lib.hid (Below.trans (by first | exact HB8.out | exact HB8.out.alloc HB8.out.size _ | exact (HB8.out.alloc HB8.out.size _).alloc (le_al HB8.out.size) _ | exact ((HB8.out.alloc HB8.out.size _).alloc (le_al HB8.out.size) _).alloc (le_al (le_al HB8.out.size)) _ | exact HB7.out | exact HB7.out.alloc HB7.out.size _ | exact (HB7.out.alloc HB7.out.size _).alloc (le_al HB7.out.size) _ | exact ((HB7.out.alloc HB7.out.size _).alloc (le_al HB7.out.size) _).alloc (le_al (le_al HB7.out.size)) _ | exact HB6.out | exact HB6.out.alloc HB6.out.size _ | exact (HB6.out.alloc HB6.out.size _).alloc (le_al HB6.out.size) _ | exact ((HB6.out.alloc HB6.out.size _).alloc (le_al HB6.out.size) _).alloc (le_al (le_al HB6.out.size)) _ | exact HB5.out | exact HB5.out.alloc HB5.out.size _ | exact (HB5.out.alloc HB5.out.size _).alloc (le_al HB5.out.size) _ | exact ((HB5.out.alloc HB5.out.size _).alloc (le_al HB5.out.size) _).alloc (le_al (le_al HB5.out.size)) _ | exact HB4.out | exact HB4.out.alloc HB4.out.size _ | exact (HB4.out.alloc HB4.out.size _).alloc (le_al HB4.out.size) _ | exact ((HB4.out.alloc HB4.out.size _).alloc (le_al HB4.out.size) _).alloc (le_al (le_al HB4.out.size)) _ | exact HB3.out | exact HB3.out.alloc HB3.out.size _ | exact (HB3.out.alloc HB3.out.size _).alloc (le_al HB3.out.size) _ | exact ((HB3.out.alloc HB3.out.size _).alloc (le_al HB3.out.size) _).alloc (le_al (le_al HB3.out.size)) _ | exact HB2.out | exact HB2.out.alloc HB2.out.size _ | exact (HB2.out.alloc HB2.out.size _).alloc (le_al HB2.out.size) _ | exact ((HB2.out.alloc HB2.out.size _).alloc (le_al HB2.out.size) _).alloc (le_al (le_al HB2.out.size)) _ | exact HB1.out | exact HB1.out.alloc HB1.out.size _ | exact (HB1.out.alloc HB1.out.size _).alloc (le_al HB1.out.size) _ | exact ((HB1.out.alloc HB1.out.size _).alloc (le_al HB1.out.size) _).alloc (le_al (le_al HB1.out.size)) _ | exact HB0.out | exact HB0.out.alloc HB0.out.size _ | exact (HB0.out.alloc HB0.out.size _).alloc (le_al HB0.out.size) _ | exact ((HB0.out.alloc HB0.out.size _).alloc (le_al HB0.out.size) _).alloc (le_al (le_al HB0.out.size)) _) (hb9.mono (by (try simp only [World.size_alloc]); (try simp only [size_setCell']); omega)))
          have HN9 := Lib.hid hb9
          clear hb9 hs9
          go_wp2
          go_ret
          exact ⟨rfl, HB9.out⟩
end Go.Proofs.YtlokljaeknmdpaaGreat.L13
