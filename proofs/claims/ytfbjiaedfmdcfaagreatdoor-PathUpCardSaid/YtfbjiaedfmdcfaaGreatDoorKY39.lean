/-
  apply.Why, apply.Do: an operation done to a graph; condition: the graph is in order, its data short, the texts within reach.
-/
import Derived.Test.YtfbjiaedfmdcfaaGreatDoorKY37
import Derived.Test.YtfbjiaedfmdcfaaGreatDoorKY38
/-! ## ApG -/
namespace Go.Proofs.YtfbjiaedfmdcfaaGreatDoor
open Go.RowKit Go.Shelf Go.Proofs

set_option maxRecDepth 100000 in
set_option maxHeartbeats 8000000 in
theorem why_any (gb : Nat) (g : Gr) (o : Op) (w : World) (h0 : Reads gb g w) (hs : o.Small) :
    Calls Tryz.prog 56 #[.pointer (some ⟨gb, 0, none⟩), o.v] w fun x w' => x = .returned (.int .i64 (g.opWhy o)) ∧ Below w.heap.size w w' := by
  obtain ⟨W0, hW0⟩ : ∃ W0, W0 = w.alloc (.cells #[.int .i64 o.stamp.t, .int .i64 o.stamp.r, .int .i64 o.kind, .int .i64 o.at_.t, .int .i64 o.at_.r, .int .i64 o.ino.t, .int .i64 o.ino.r, .int .i64 o.to.t, .int .i64 o.to.r, .string o.name, .string o.new, .int .i64 o.off, .string o.data] 42) := ⟨_, rfl⟩
  have HW : Hid (Below w.heap.size w W0) := Lib.hid (by rw [hW0]; exact (Below.refl _ _).alloc (Nat.le_refl _) _)
  have hz : w.heap.size < W0.heap.size := by rw [hW0]; simp
  have HJ : Hid (∀ W, Below W0.heap.size W0 W → (fun W : World => W.cell? ⟨w.heap.size, 0, none⟩ = some (.int .i64 o.stamp.t) ∧ W.cell? ⟨w.heap.size, 1, none⟩ = some (.int .i64 o.stamp.r) ∧ W.cell? ⟨w.heap.size, 2, none⟩ = some (.int .i64 o.kind) ∧ W.cell? ⟨w.heap.size, 3, none⟩ = some (.int .i64 o.at_.t) ∧ W.cell? ⟨w.heap.size, 4, none⟩ = some (.int .i64 o.at_.r) ∧ W.cell? ⟨w.heap.size, 5, none⟩ = some (.int .i64 o.ino.t) ∧ W.cell? ⟨w.heap.size, 6, none⟩ = some (.int .i64 o.ino.r) ∧ W.cell? ⟨w.heap.size, 7, none⟩ = some (.int .i64 o.to.t) ∧ W.cell? ⟨w.heap.size, 8, none⟩ = some (.int .i64 o.to.r) ∧ W.cell? ⟨w.heap.size, 9, none⟩ = some (.string o.name) ∧ W.cell? ⟨w.heap.size, 10, none⟩ = some (.string o.new) ∧ W.cell? ⟨w.heap.size, 11, none⟩ = some (.int .i64 o.off) ∧ W.cell? ⟨w.heap.size, 12, none⟩ = some (.string o.data)) W ∧ w.heap.size < W.heap.size) := Lib.hid (by rw [hW0]; exact fun W hW => ⟨obox hW, by have := hW.size; simp at this; omega⟩)
  have HB0 : Hid (Below W0.heap.size W0 W0) := Lib.hid (Below.refl _ _)
  have h := h0.below HW.out
  have HM := Lib.hid (fun W => opMay_any o W hs)
  clear h0 hs
  unfold Op.v at HM ⊢
  cases hm : opMay o with
  | false =>
    have HR : Hid (g.opWhy o = 1) := Lib.hid (by unfold Gr.opWhy; rw [hm]; rfl)
    rw [hm] at HM
    clear hm h
    obtain ⟨⟨_, _, _, _, _, _, _, _, _, _, _, _, _⟩, _⟩ := HJ.out W0 HB0.out
    go_enter Tryz.func56, Tryz.ntmps56
    go_wp2_with fail
    rw [← hW0]
    have HW0 := Lib.hid hW0
    clear hW0
    go_wp2_with fail
    refine (HM.out _).mono ?_
    rintro e w1 ⟨rfl, hb1⟩
    obtain ⟨hc1, hf1⟩ := bcell hb1
    have hs1 := hb1.size
    try simp only [size_drew] at hs1
    try simp only [World.size_alloc] at hs1
    try simp only [size_setCell'] at hs1
    try have le1_0 : W0.heap.size ≤ w1.heap.size := (by omega)
    try have lt1_0 : W0.heap.size < w1.heap.size := (by omega)
    have HB1 : Hid (Below W0.heap.size W0 w1) := Lib.hid (Below.trans (by first | exact HB0.out | exact HB0.out.alloc HB0.out.size _ | exact (HB0.out.alloc HB0.out.size _).alloc (le_al HB0.out.size) _ | exact ((HB0.out.alloc HB0.out.size _).alloc (le_al HB0.out.size) _).alloc (le_al (le_al HB0.out.size)) _ | exact HB0.out.drew | exact (HB0.out.alloc HB0.out.size _).drew | exact ((HB0.out.alloc HB0.out.size _).alloc (le_al HB0.out.size) _).drew) (hb1.mono (by (try simp only [size_drew]); (try simp only [World.size_alloc]); (try simp only [size_setCell']); omega)))
    have HN1 := Lib.hid hb1
    clear hb1 hs1
    obtain ⟨⟨_, _, _, _, _, _, _, _, _, _, _, _, _⟩, _⟩ := HJ.out w1 HB1.out
    go_wp2
    go_ret
    exact ⟨ret_int' HR.out.symm, HW.out.trans ((show Below W0.heap.size W0 _ from (by first | exact HB1.out | exact HB1.out.alloc HB1.out.size _ | exact (HB1.out.alloc HB1.out.size _).alloc (le_al HB1.out.size) _ | exact ((HB1.out.alloc HB1.out.size _).alloc (le_al HB1.out.size) _).alloc (le_al (le_al HB1.out.size)) _ | exact HB1.out.drew | exact (HB1.out.alloc HB1.out.size _).drew | exact ((HB1.out.alloc HB1.out.size _).alloc (le_al HB1.out.size) _).drew)).mono HW.out.size)⟩
  | true =>
    have hkk := opMay_kind hm
    have HR : Hid (g.opWhy o = g.kindWhy o) := Lib.hid (by unfold Gr.opWhy; rw [hm]; rfl)
    rw [hm] at HM
    clear hm
    have HF := Lib.hid (fun W => whyFn_any o.kind W hkk.1 hkk.2)
    have hc : (o.kind = 1 ∨ o.kind = 2 ∨ o.kind = 3) ∨ o.kind = 4 ∨ o.kind = 5 ∨ o.kind = 6 ∨ o.kind = 7 ∨ (o.kind = 8 ∨ o.kind = 9) ∨ o.kind = 10 := by omega
    clear hkk
    rcases hc with hk | hk | hk | hk | hk | hk | hk
    · have HR2 : Hid (g.opWhy o = g.makesWhy o) := Lib.hid (HR.out.trans (kindWhy_make hk))
      have hf : fnOf o.kind = 132 := by unfold fnOf; rw [if_pos hk]
      rw [hf] at HF
      unfold fnV at HF
      clear hf hk
      have HK := Lib.hid (fun W (hW : Below W0.heap.size W0 W) => makes_any gb g o W (h.below hW))
      clear h
      obtain ⟨⟨_, _, _, _, _, _, _, _, _, _, _, _, _⟩, _⟩ := HJ.out W0 HB0.out
      go_enter Tryz.func56, Tryz.ntmps56
      go_wp2_with fail
      rw [← hW0]
      have HW0 := Lib.hid hW0
      clear hW0
      go_wp2_with fail
      refine (HM.out _).mono ?_
      rintro e w1 ⟨rfl, hb1⟩
      obtain ⟨hc1, hf1⟩ := bcell hb1
      have hs1 := hb1.size
      try simp only [size_drew] at hs1
      try simp only [World.size_alloc] at hs1
      try simp only [size_setCell'] at hs1
      try have le1_0 : W0.heap.size ≤ w1.heap.size := (by omega)
      try have lt1_0 : W0.heap.size < w1.heap.size := (by omega)
      have HB1 : Hid (Below W0.heap.size W0 w1) := Lib.hid (Below.trans (by first | exact HB0.out | exact HB0.out.alloc HB0.out.size _ | exact (HB0.out.alloc HB0.out.size _).alloc (le_al HB0.out.size) _ | exact ((HB0.out.alloc HB0.out.size _).alloc (le_al HB0.out.size) _).alloc (le_al (le_al HB0.out.size)) _ | exact HB0.out.drew | exact (HB0.out.alloc HB0.out.size _).drew | exact ((HB0.out.alloc HB0.out.size _).alloc (le_al HB0.out.size) _).drew) (hb1.mono (by (try simp only [size_drew]); (try simp only [World.size_alloc]); (try simp only [size_setCell']); omega)))
      have HN1 := Lib.hid hb1
      clear hb1 hs1
      obtain ⟨⟨_, _, _, _, _, _, _, _, _, _, _, _, _⟩, _⟩ := HJ.out w1 HB1.out
      go_wp2_with fail
      go_region_held3 (fun W : World => W.cell? ⟨w.heap.size, 0, none⟩ = some (.int .i64 o.stamp.t) ∧ W.cell? ⟨w.heap.size, 1, none⟩ = some (.int .i64 o.stamp.r) ∧ W.cell? ⟨w.heap.size, 2, none⟩ = some (.int .i64 o.kind) ∧ W.cell? ⟨w.heap.size, 3, none⟩ = some (.int .i64 o.at_.t) ∧ W.cell? ⟨w.heap.size, 4, none⟩ = some (.int .i64 o.at_.r) ∧ W.cell? ⟨w.heap.size, 5, none⟩ = some (.int .i64 o.ino.t) ∧ W.cell? ⟨w.heap.size, 6, none⟩ = some (.int .i64 o.ino.r) ∧ W.cell? ⟨w.heap.size, 7, none⟩ = some (.int .i64 o.to.t) ∧ W.cell? ⟨w.heap.size, 8, none⟩ = some (.int .i64 o.to.r) ∧ W.cell? ⟨w.heap.size, 9, none⟩ = some (.string o.name) ∧ W.cell? ⟨w.heap.size, 10, none⟩ = some (.string o.new) ∧ W.cell? ⟨w.heap.size, 11, none⟩ = some (.int .i64 o.off) ∧ W.cell? ⟨w.heap.size, 12, none⟩ = some (.string o.data)) (first | exact (HJ.out _ (by first | exact HB3.out | exact HB3.out.alloc HB3.out.size _ | exact (HB3.out.alloc HB3.out.size _).alloc (le_al HB3.out.size) _ | exact ((HB3.out.alloc HB3.out.size _).alloc (le_al HB3.out.size) _).alloc (le_al (le_al HB3.out.size)) _ | exact HB3.out.drew | exact (HB3.out.alloc HB3.out.size _).drew | exact ((HB3.out.alloc HB3.out.size _).alloc (le_al HB3.out.size) _).drew | exact HB2.out | exact HB2.out.alloc HB2.out.size _ | exact (HB2.out.alloc HB2.out.size _).alloc (le_al HB2.out.size) _ | exact ((HB2.out.alloc HB2.out.size _).alloc (le_al HB2.out.size) _).alloc (le_al (le_al HB2.out.size)) _ | exact HB2.out.drew | exact (HB2.out.alloc HB2.out.size _).drew | exact ((HB2.out.alloc HB2.out.size _).alloc (le_al HB2.out.size) _).drew | exact HB1.out | exact HB1.out.alloc HB1.out.size _ | exact (HB1.out.alloc HB1.out.size _).alloc (le_al HB1.out.size) _ | exact ((HB1.out.alloc HB1.out.size _).alloc (le_al HB1.out.size) _).alloc (le_al (le_al HB1.out.size)) _ | exact HB1.out.drew | exact (HB1.out.alloc HB1.out.size _).drew | exact ((HB1.out.alloc HB1.out.size _).alloc (le_al HB1.out.size) _).drew | exact HB0.out | exact HB0.out.alloc HB0.out.size _ | exact (HB0.out.alloc HB0.out.size _).alloc (le_al HB0.out.size) _ | exact ((HB0.out.alloc HB0.out.size _).alloc (le_al HB0.out.size) _).alloc (le_al (le_al HB0.out.size)) _ | exact HB0.out.drew | exact (HB0.out.alloc HB0.out.size _).drew | exact ((HB0.out.alloc HB0.out.size _).alloc (le_al HB0.out.size) _).drew)).1 | go_keep) (first
        | (go_at_call 97; (with_reducible refine (HF.out _).mono ?_); rintro e w2 ⟨rfl, hb2⟩; obtain ⟨hc2, hf2⟩ := bcell hb2; have hs2 := hb2.size; (try simp only [size_drew] at hs2); (try simp only [World.size_alloc] at hs2); (try simp only [size_setCell'] at hs2); (try have le2_0 : W0.heap.size ≤ w2.heap.size := (by omega)); (try have lt2_0 : W0.heap.size < w2.heap.size := (by omega)); (try have le2_1 : w1.heap.size ≤ w2.heap.size := (by omega)); (try have lt2_1 : w1.heap.size < w2.heap.size := (by omega)); have HB2 : Hid (Below W0.heap.size W0 w2) := Lib.hid (Below.trans (by first | exact HB1.out | exact HB1.out.alloc HB1.out.size _ | exact (HB1.out.alloc HB1.out.size _).alloc (le_al HB1.out.size) _ | exact ((HB1.out.alloc HB1.out.size _).alloc (le_al HB1.out.size) _).alloc (le_al (le_al HB1.out.size)) _ | exact HB1.out.drew | exact (HB1.out.alloc HB1.out.size _).drew | exact ((HB1.out.alloc HB1.out.size _).alloc (le_al HB1.out.size) _).drew | exact HB0.out | exact HB0.out.alloc HB0.out.size _ | exact (HB0.out.alloc HB0.out.size _).alloc (le_al HB0.out.size) _ | exact ((HB0.out.alloc HB0.out.size _).alloc (le_al HB0.out.size) _).alloc (le_al (le_al HB0.out.size)) _ | exact HB0.out.drew | exact (HB0.out.alloc HB0.out.size _).drew | exact ((HB0.out.alloc HB0.out.size _).alloc (le_al HB0.out.size) _).drew) (hb2.mono (by (try simp only [size_drew]); (try simp only [World.size_alloc]); (try simp only [size_setCell']); omega))); have HN2 := Lib.hid hb2; clear hb2 hs2)
        | (go_at_call 132; (with_reducible refine (HK.out _ (by first | exact HB2.out | exact HB2.out.alloc HB2.out.size _ | exact (HB2.out.alloc HB2.out.size _).alloc (le_al HB2.out.size) _ | exact ((HB2.out.alloc HB2.out.size _).alloc (le_al HB2.out.size) _).alloc (le_al (le_al HB2.out.size)) _ | exact HB2.out.drew | exact (HB2.out.alloc HB2.out.size _).drew | exact ((HB2.out.alloc HB2.out.size _).alloc (le_al HB2.out.size) _).drew | exact HB1.out | exact HB1.out.alloc HB1.out.size _ | exact (HB1.out.alloc HB1.out.size _).alloc (le_al HB1.out.size) _ | exact ((HB1.out.alloc HB1.out.size _).alloc (le_al HB1.out.size) _).alloc (le_al (le_al HB1.out.size)) _ | exact HB1.out.drew | exact (HB1.out.alloc HB1.out.size _).drew | exact ((HB1.out.alloc HB1.out.size _).alloc (le_al HB1.out.size) _).drew | exact HB0.out | exact HB0.out.alloc HB0.out.size _ | exact (HB0.out.alloc HB0.out.size _).alloc (le_al HB0.out.size) _ | exact ((HB0.out.alloc HB0.out.size _).alloc (le_al HB0.out.size) _).alloc (le_al (le_al HB0.out.size)) _ | exact HB0.out.drew | exact (HB0.out.alloc HB0.out.size _).drew | exact ((HB0.out.alloc HB0.out.size _).alloc (le_al HB0.out.size) _).drew)).mono ?_); rintro e w3 ⟨rfl, hb3⟩; obtain ⟨hc3, hf3⟩ := bcell hb3; have hs3 := hb3.size; (try simp only [size_drew] at hs3); (try simp only [World.size_alloc] at hs3); (try simp only [size_setCell'] at hs3); (try have le3_0 : W0.heap.size ≤ w3.heap.size := (by omega)); (try have lt3_0 : W0.heap.size < w3.heap.size := (by omega)); (try have le3_1 : w1.heap.size ≤ w3.heap.size := (by omega)); (try have lt3_1 : w1.heap.size < w3.heap.size := (by omega)); (try have le3_2 : w2.heap.size ≤ w3.heap.size := (by omega)); (try have lt3_2 : w2.heap.size < w3.heap.size := (by omega)); have HB3 : Hid (Below W0.heap.size W0 w3) := Lib.hid (Below.trans (by first | exact HB2.out | exact HB2.out.alloc HB2.out.size _ | exact (HB2.out.alloc HB2.out.size _).alloc (le_al HB2.out.size) _ | exact ((HB2.out.alloc HB2.out.size _).alloc (le_al HB2.out.size) _).alloc (le_al (le_al HB2.out.size)) _ | exact HB2.out.drew | exact (HB2.out.alloc HB2.out.size _).drew | exact ((HB2.out.alloc HB2.out.size _).alloc (le_al HB2.out.size) _).drew | exact HB1.out | exact HB1.out.alloc HB1.out.size _ | exact (HB1.out.alloc HB1.out.size _).alloc (le_al HB1.out.size) _ | exact ((HB1.out.alloc HB1.out.size _).alloc (le_al HB1.out.size) _).alloc (le_al (le_al HB1.out.size)) _ | exact HB1.out.drew | exact (HB1.out.alloc HB1.out.size _).drew | exact ((HB1.out.alloc HB1.out.size _).alloc (le_al HB1.out.size) _).drew | exact HB0.out | exact HB0.out.alloc HB0.out.size _ | exact (HB0.out.alloc HB0.out.size _).alloc (le_al HB0.out.size) _ | exact ((HB0.out.alloc HB0.out.size _).alloc (le_al HB0.out.size) _).alloc (le_al (le_al HB0.out.size)) _ | exact HB0.out.drew | exact (HB0.out.alloc HB0.out.size _).drew | exact ((HB0.out.alloc HB0.out.size _).alloc (le_al HB0.out.size) _).drew) (hb3.mono (by (try simp only [size_drew]); (try simp only [World.size_alloc]); (try simp only [size_setCell']); omega))); have HN3 := Lib.hid hb3; clear hb3 hs3))
      go_wp2
      go_ret
      exact ⟨ret_int' HR2.out.symm, HW.out.trans ((show Below W0.heap.size W0 _ from (by first | exact HB3.out | exact HB3.out.alloc HB3.out.size _ | exact (HB3.out.alloc HB3.out.size _).alloc (le_al HB3.out.size) _ | exact ((HB3.out.alloc HB3.out.size _).alloc (le_al HB3.out.size) _).alloc (le_al (le_al HB3.out.size)) _ | exact HB3.out.drew | exact (HB3.out.alloc HB3.out.size _).drew | exact ((HB3.out.alloc HB3.out.size _).alloc (le_al HB3.out.size) _).drew)).mono HW.out.size)⟩
    · have HR2 : Hid (g.opWhy o = g.linksWhy o) := Lib.hid (HR.out.trans (kindWhy_link hk))
      have hf : fnOf o.kind = 133 := by unfold fnOf; simp [hk]
      rw [hf] at HF
      unfold fnV at HF
      clear hf hk
      have HK := Lib.hid (fun W (hW : Below W0.heap.size W0 W) => links_any gb g o W (h.below hW))
      clear h
      obtain ⟨⟨_, _, _, _, _, _, _, _, _, _, _, _, _⟩, _⟩ := HJ.out W0 HB0.out
      go_enter Tryz.func56, Tryz.ntmps56
      go_wp2_with fail
      rw [← hW0]
      have HW0 := Lib.hid hW0
      clear hW0
      go_wp2_with fail
      refine (HM.out _).mono ?_
      rintro e w1 ⟨rfl, hb1⟩
      obtain ⟨hc1, hf1⟩ := bcell hb1
      have hs1 := hb1.size
      try simp only [size_drew] at hs1
      try simp only [World.size_alloc] at hs1
      try simp only [size_setCell'] at hs1
      try have le1_0 : W0.heap.size ≤ w1.heap.size := (by omega)
      try have lt1_0 : W0.heap.size < w1.heap.size := (by omega)
      have HB1 : Hid (Below W0.heap.size W0 w1) := Lib.hid (Below.trans (by first | exact HB0.out | exact HB0.out.alloc HB0.out.size _ | exact (HB0.out.alloc HB0.out.size _).alloc (le_al HB0.out.size) _ | exact ((HB0.out.alloc HB0.out.size _).alloc (le_al HB0.out.size) _).alloc (le_al (le_al HB0.out.size)) _ | exact HB0.out.drew | exact (HB0.out.alloc HB0.out.size _).drew | exact ((HB0.out.alloc HB0.out.size _).alloc (le_al HB0.out.size) _).drew) (hb1.mono (by (try simp only [size_drew]); (try simp only [World.size_alloc]); (try simp only [size_setCell']); omega)))
      have HN1 := Lib.hid hb1
      clear hb1 hs1
      obtain ⟨⟨_, _, _, _, _, _, _, _, _, _, _, _, _⟩, _⟩ := HJ.out w1 HB1.out
      go_wp2_with fail
      go_region_held3 (fun W : World => W.cell? ⟨w.heap.size, 0, none⟩ = some (.int .i64 o.stamp.t) ∧ W.cell? ⟨w.heap.size, 1, none⟩ = some (.int .i64 o.stamp.r) ∧ W.cell? ⟨w.heap.size, 2, none⟩ = some (.int .i64 o.kind) ∧ W.cell? ⟨w.heap.size, 3, none⟩ = some (.int .i64 o.at_.t) ∧ W.cell? ⟨w.heap.size, 4, none⟩ = some (.int .i64 o.at_.r) ∧ W.cell? ⟨w.heap.size, 5, none⟩ = some (.int .i64 o.ino.t) ∧ W.cell? ⟨w.heap.size, 6, none⟩ = some (.int .i64 o.ino.r) ∧ W.cell? ⟨w.heap.size, 7, none⟩ = some (.int .i64 o.to.t) ∧ W.cell? ⟨w.heap.size, 8, none⟩ = some (.int .i64 o.to.r) ∧ W.cell? ⟨w.heap.size, 9, none⟩ = some (.string o.name) ∧ W.cell? ⟨w.heap.size, 10, none⟩ = some (.string o.new) ∧ W.cell? ⟨w.heap.size, 11, none⟩ = some (.int .i64 o.off) ∧ W.cell? ⟨w.heap.size, 12, none⟩ = some (.string o.data)) (first | exact (HJ.out _ (by first | exact HB3.out | exact HB3.out.alloc HB3.out.size _ | exact (HB3.out.alloc HB3.out.size _).alloc (le_al HB3.out.size) _ | exact ((HB3.out.alloc HB3.out.size _).alloc (le_al HB3.out.size) _).alloc (le_al (le_al HB3.out.size)) _ | exact HB3.out.drew | exact (HB3.out.alloc HB3.out.size _).drew | exact ((HB3.out.alloc HB3.out.size _).alloc (le_al HB3.out.size) _).drew | exact HB2.out | exact HB2.out.alloc HB2.out.size _ | exact (HB2.out.alloc HB2.out.size _).alloc (le_al HB2.out.size) _ | exact ((HB2.out.alloc HB2.out.size _).alloc (le_al HB2.out.size) _).alloc (le_al (le_al HB2.out.size)) _ | exact HB2.out.drew | exact (HB2.out.alloc HB2.out.size _).drew | exact ((HB2.out.alloc HB2.out.size _).alloc (le_al HB2.out.size) _).drew | exact HB1.out | exact HB1.out.alloc HB1.out.size _ | exact (HB1.out.alloc HB1.out.size _).alloc (le_al HB1.out.size) _ | exact ((HB1.out.alloc HB1.out.size _).alloc (le_al HB1.out.size) _).alloc (le_al (le_al HB1.out.size)) _ | exact HB1.out.drew | exact (HB1.out.alloc HB1.out.size _).drew | exact ((HB1.out.alloc HB1.out.size _).alloc (le_al HB1.out.size) _).drew | exact HB0.out | exact HB0.out.alloc HB0.out.size _ | exact (HB0.out.alloc HB0.out.size _).alloc (le_al HB0.out.size) _ | exact ((HB0.out.alloc HB0.out.size _).alloc (le_al HB0.out.size) _).alloc (le_al (le_al HB0.out.size)) _ | exact HB0.out.drew | exact (HB0.out.alloc HB0.out.size _).drew | exact ((HB0.out.alloc HB0.out.size _).alloc (le_al HB0.out.size) _).drew)).1 | go_keep) (first
        | (go_at_call 97; (with_reducible refine (HF.out _).mono ?_); rintro e w2 ⟨rfl, hb2⟩; obtain ⟨hc2, hf2⟩ := bcell hb2; have hs2 := hb2.size; (try simp only [size_drew] at hs2); (try simp only [World.size_alloc] at hs2); (try simp only [size_setCell'] at hs2); (try have le2_0 : W0.heap.size ≤ w2.heap.size := (by omega)); (try have lt2_0 : W0.heap.size < w2.heap.size := (by omega)); (try have le2_1 : w1.heap.size ≤ w2.heap.size := (by omega)); (try have lt2_1 : w1.heap.size < w2.heap.size := (by omega)); have HB2 : Hid (Below W0.heap.size W0 w2) := Lib.hid (Below.trans (by first | exact HB1.out | exact HB1.out.alloc HB1.out.size _ | exact (HB1.out.alloc HB1.out.size _).alloc (le_al HB1.out.size) _ | exact ((HB1.out.alloc HB1.out.size _).alloc (le_al HB1.out.size) _).alloc (le_al (le_al HB1.out.size)) _ | exact HB1.out.drew | exact (HB1.out.alloc HB1.out.size _).drew | exact ((HB1.out.alloc HB1.out.size _).alloc (le_al HB1.out.size) _).drew | exact HB0.out | exact HB0.out.alloc HB0.out.size _ | exact (HB0.out.alloc HB0.out.size _).alloc (le_al HB0.out.size) _ | exact ((HB0.out.alloc HB0.out.size _).alloc (le_al HB0.out.size) _).alloc (le_al (le_al HB0.out.size)) _ | exact HB0.out.drew | exact (HB0.out.alloc HB0.out.size _).drew | exact ((HB0.out.alloc HB0.out.size _).alloc (le_al HB0.out.size) _).drew) (hb2.mono (by (try simp only [size_drew]); (try simp only [World.size_alloc]); (try simp only [size_setCell']); omega))); have HN2 := Lib.hid hb2; clear hb2 hs2)
        | (go_at_call 133; (with_reducible refine (HK.out _ (by first | exact HB2.out | exact HB2.out.alloc HB2.out.size _ | exact (HB2.out.alloc HB2.out.size _).alloc (le_al HB2.out.size) _ | exact ((HB2.out.alloc HB2.out.size _).alloc (le_al HB2.out.size) _).alloc (le_al (le_al HB2.out.size)) _ | exact HB2.out.drew | exact (HB2.out.alloc HB2.out.size _).drew | exact ((HB2.out.alloc HB2.out.size _).alloc (le_al HB2.out.size) _).drew | exact HB1.out | exact HB1.out.alloc HB1.out.size _ | exact (HB1.out.alloc HB1.out.size _).alloc (le_al HB1.out.size) _ | exact ((HB1.out.alloc HB1.out.size _).alloc (le_al HB1.out.size) _).alloc (le_al (le_al HB1.out.size)) _ | exact HB1.out.drew | exact (HB1.out.alloc HB1.out.size _).drew | exact ((HB1.out.alloc HB1.out.size _).alloc (le_al HB1.out.size) _).drew | exact HB0.out | exact HB0.out.alloc HB0.out.size _ | exact (HB0.out.alloc HB0.out.size _).alloc (le_al HB0.out.size) _ | exact ((HB0.out.alloc HB0.out.size _).alloc (le_al HB0.out.size) _).alloc (le_al (le_al HB0.out.size)) _ | exact HB0.out.drew | exact (HB0.out.alloc HB0.out.size _).drew | exact ((HB0.out.alloc HB0.out.size _).alloc (le_al HB0.out.size) _).drew)).mono ?_); rintro e w3 ⟨rfl, hb3⟩; obtain ⟨hc3, hf3⟩ := bcell hb3; have hs3 := hb3.size; (try simp only [size_drew] at hs3); (try simp only [World.size_alloc] at hs3); (try simp only [size_setCell'] at hs3); (try have le3_0 : W0.heap.size ≤ w3.heap.size := (by omega)); (try have lt3_0 : W0.heap.size < w3.heap.size := (by omega)); (try have le3_1 : w1.heap.size ≤ w3.heap.size := (by omega)); (try have lt3_1 : w1.heap.size < w3.heap.size := (by omega)); (try have le3_2 : w2.heap.size ≤ w3.heap.size := (by omega)); (try have lt3_2 : w2.heap.size < w3.heap.size := (by omega)); have HB3 : Hid (Below W0.heap.size W0 w3) := Lib.hid (Below.trans (by first | exact HB2.out | exact HB2.out.alloc HB2.out.size _ | exact (HB2.out.alloc HB2.out.size _).alloc (le_al HB2.out.size) _ | exact ((HB2.out.alloc HB2.out.size _).alloc (le_al HB2.out.size) _).alloc (le_al (le_al HB2.out.size)) _ | exact HB2.out.drew | exact (HB2.out.alloc HB2.out.size _).drew | exact ((HB2.out.alloc HB2.out.size _).alloc (le_al HB2.out.size) _).drew | exact HB1.out | exact HB1.out.alloc HB1.out.size _ | exact (HB1.out.alloc HB1.out.size _).alloc (le_al HB1.out.size) _ | exact ((HB1.out.alloc HB1.out.size _).alloc (le_al HB1.out.size) _).alloc (le_al (le_al HB1.out.size)) _ | exact HB1.out.drew | exact (HB1.out.alloc HB1.out.size _).drew | exact ((HB1.out.alloc HB1.out.size _).alloc (le_al HB1.out.size) _).drew | exact HB0.out | exact HB0.out.alloc HB0.out.size _ | exact (HB0.out.alloc HB0.out.size _).alloc (le_al HB0.out.size) _ | exact ((HB0.out.alloc HB0.out.size _).alloc (le_al HB0.out.size) _).alloc (le_al (le_al HB0.out.size)) _ | exact HB0.out.drew | exact (HB0.out.alloc HB0.out.size _).drew | exact ((HB0.out.alloc HB0.out.size _).alloc (le_al HB0.out.size) _).drew) (hb3.mono (by (try simp only [size_drew]); (try simp only [World.size_alloc]); (try simp only [size_setCell']); omega))); have HN3 := Lib.hid hb3; clear hb3 hs3))
      go_wp2
      go_ret
      exact ⟨ret_int' HR2.out.symm, HW.out.trans ((show Below W0.heap.size W0 _ from (by first | exact HB3.out | exact HB3.out.alloc HB3.out.size _ | exact (HB3.out.alloc HB3.out.size _).alloc (le_al HB3.out.size) _ | exact ((HB3.out.alloc HB3.out.size _).alloc (le_al HB3.out.size) _).alloc (le_al (le_al HB3.out.size)) _ | exact HB3.out.drew | exact (HB3.out.alloc HB3.out.size _).drew | exact ((HB3.out.alloc HB3.out.size _).alloc (le_al HB3.out.size) _).drew)).mono HW.out.size)⟩
    · have HR2 : Hid (g.opWhy o = g.unlinksWhy o) := Lib.hid (HR.out.trans (kindWhy_unlink hk))
      have hf : fnOf o.kind = 134 := by unfold fnOf; simp [hk]
      rw [hf] at HF
      unfold fnV at HF
      clear hf hk
      have HK := Lib.hid (fun W (hW : Below W0.heap.size W0 W) => unlinks_any gb g o W (h.below hW))
      clear h
      obtain ⟨⟨_, _, _, _, _, _, _, _, _, _, _, _, _⟩, _⟩ := HJ.out W0 HB0.out
      go_enter Tryz.func56, Tryz.ntmps56
      go_wp2_with fail
      rw [← hW0]
      have HW0 := Lib.hid hW0
      clear hW0
      go_wp2_with fail
      refine (HM.out _).mono ?_
      rintro e w1 ⟨rfl, hb1⟩
      obtain ⟨hc1, hf1⟩ := bcell hb1
      have hs1 := hb1.size
      try simp only [size_drew] at hs1
      try simp only [World.size_alloc] at hs1
      try simp only [size_setCell'] at hs1
      try have le1_0 : W0.heap.size ≤ w1.heap.size := (by omega)
      try have lt1_0 : W0.heap.size < w1.heap.size := (by omega)
      have HB1 : Hid (Below W0.heap.size W0 w1) := Lib.hid (Below.trans (by first | exact HB0.out | exact HB0.out.alloc HB0.out.size _ | exact (HB0.out.alloc HB0.out.size _).alloc (le_al HB0.out.size) _ | exact ((HB0.out.alloc HB0.out.size _).alloc (le_al HB0.out.size) _).alloc (le_al (le_al HB0.out.size)) _ | exact HB0.out.drew | exact (HB0.out.alloc HB0.out.size _).drew | exact ((HB0.out.alloc HB0.out.size _).alloc (le_al HB0.out.size) _).drew) (hb1.mono (by (try simp only [size_drew]); (try simp only [World.size_alloc]); (try simp only [size_setCell']); omega)))
      have HN1 := Lib.hid hb1
      clear hb1 hs1
      obtain ⟨⟨_, _, _, _, _, _, _, _, _, _, _, _, _⟩, _⟩ := HJ.out w1 HB1.out
      go_wp2_with fail
      go_region_held3 (fun W : World => W.cell? ⟨w.heap.size, 0, none⟩ = some (.int .i64 o.stamp.t) ∧ W.cell? ⟨w.heap.size, 1, none⟩ = some (.int .i64 o.stamp.r) ∧ W.cell? ⟨w.heap.size, 2, none⟩ = some (.int .i64 o.kind) ∧ W.cell? ⟨w.heap.size, 3, none⟩ = some (.int .i64 o.at_.t) ∧ W.cell? ⟨w.heap.size, 4, none⟩ = some (.int .i64 o.at_.r) ∧ W.cell? ⟨w.heap.size, 5, none⟩ = some (.int .i64 o.ino.t) ∧ W.cell? ⟨w.heap.size, 6, none⟩ = some (.int .i64 o.ino.r) ∧ W.cell? ⟨w.heap.size, 7, none⟩ = some (.int .i64 o.to.t) ∧ W.cell? ⟨w.heap.size, 8, none⟩ = some (.int .i64 o.to.r) ∧ W.cell? ⟨w.heap.size, 9, none⟩ = some (.string o.name) ∧ W.cell? ⟨w.heap.size, 10, none⟩ = some (.string o.new) ∧ W.cell? ⟨w.heap.size, 11, none⟩ = some (.int .i64 o.off) ∧ W.cell? ⟨w.heap.size, 12, none⟩ = some (.string o.data)) (first | exact (HJ.out _ (by first | exact HB3.out | exact HB3.out.alloc HB3.out.size _ | exact (HB3.out.alloc HB3.out.size _).alloc (le_al HB3.out.size) _ | exact ((HB3.out.alloc HB3.out.size _).alloc (le_al HB3.out.size) _).alloc (le_al (le_al HB3.out.size)) _ | exact HB3.out.drew | exact (HB3.out.alloc HB3.out.size _).drew | exact ((HB3.out.alloc HB3.out.size _).alloc (le_al HB3.out.size) _).drew | exact HB2.out | exact HB2.out.alloc HB2.out.size _ | exact (HB2.out.alloc HB2.out.size _).alloc (le_al HB2.out.size) _ | exact ((HB2.out.alloc HB2.out.size _).alloc (le_al HB2.out.size) _).alloc (le_al (le_al HB2.out.size)) _ | exact HB2.out.drew | exact (HB2.out.alloc HB2.out.size _).drew | exact ((HB2.out.alloc HB2.out.size _).alloc (le_al HB2.out.size) _).drew | exact HB1.out | exact HB1.out.alloc HB1.out.size _ | exact (HB1.out.alloc HB1.out.size _).alloc (le_al HB1.out.size) _ | exact ((HB1.out.alloc HB1.out.size _).alloc (le_al HB1.out.size) _).alloc (le_al (le_al HB1.out.size)) _ | exact HB1.out.drew | exact (HB1.out.alloc HB1.out.size _).drew | exact ((HB1.out.alloc HB1.out.size _).alloc (le_al HB1.out.size) _).drew | exact HB0.out | exact HB0.out.alloc HB0.out.size _ | exact (HB0.out.alloc HB0.out.size _).alloc (le_al HB0.out.size) _ | exact ((HB0.out.alloc HB0.out.size _).alloc (le_al HB0.out.size) _).alloc (le_al (le_al HB0.out.size)) _ | exact HB0.out.drew | exact (HB0.out.alloc HB0.out.size _).drew | exact ((HB0.out.alloc HB0.out.size _).alloc (le_al HB0.out.size) _).drew)).1 | go_keep) (first
        | (go_at_call 97; (with_reducible refine (HF.out _).mono ?_); rintro e w2 ⟨rfl, hb2⟩; obtain ⟨hc2, hf2⟩ := bcell hb2; have hs2 := hb2.size; (try simp only [size_drew] at hs2); (try simp only [World.size_alloc] at hs2); (try simp only [size_setCell'] at hs2); (try have le2_0 : W0.heap.size ≤ w2.heap.size := (by omega)); (try have lt2_0 : W0.heap.size < w2.heap.size := (by omega)); (try have le2_1 : w1.heap.size ≤ w2.heap.size := (by omega)); (try have lt2_1 : w1.heap.size < w2.heap.size := (by omega)); have HB2 : Hid (Below W0.heap.size W0 w2) := Lib.hid (Below.trans (by first | exact HB1.out | exact HB1.out.alloc HB1.out.size _ | exact (HB1.out.alloc HB1.out.size _).alloc (le_al HB1.out.size) _ | exact ((HB1.out.alloc HB1.out.size _).alloc (le_al HB1.out.size) _).alloc (le_al (le_al HB1.out.size)) _ | exact HB1.out.drew | exact (HB1.out.alloc HB1.out.size _).drew | exact ((HB1.out.alloc HB1.out.size _).alloc (le_al HB1.out.size) _).drew | exact HB0.out | exact HB0.out.alloc HB0.out.size _ | exact (HB0.out.alloc HB0.out.size _).alloc (le_al HB0.out.size) _ | exact ((HB0.out.alloc HB0.out.size _).alloc (le_al HB0.out.size) _).alloc (le_al (le_al HB0.out.size)) _ | exact HB0.out.drew | exact (HB0.out.alloc HB0.out.size _).drew | exact ((HB0.out.alloc HB0.out.size _).alloc (le_al HB0.out.size) _).drew) (hb2.mono (by (try simp only [size_drew]); (try simp only [World.size_alloc]); (try simp only [size_setCell']); omega))); have HN2 := Lib.hid hb2; clear hb2 hs2)
        | (go_at_call 134; (with_reducible refine (HK.out _ (by first | exact HB2.out | exact HB2.out.alloc HB2.out.size _ | exact (HB2.out.alloc HB2.out.size _).alloc (le_al HB2.out.size) _ | exact ((HB2.out.alloc HB2.out.size _).alloc (le_al HB2.out.size) _).alloc (le_al (le_al HB2.out.size)) _ | exact HB2.out.drew | exact (HB2.out.alloc HB2.out.size _).drew | exact ((HB2.out.alloc HB2.out.size _).alloc (le_al HB2.out.size) _).drew | exact HB1.out | exact HB1.out.alloc HB1.out.size _ | exact (HB1.out.alloc HB1.out.size _).alloc (le_al HB1.out.size) _ | exact ((HB1.out.alloc HB1.out.size _).alloc (le_al HB1.out.size) _).alloc (le_al (le_al HB1.out.size)) _ | exact HB1.out.drew | exact (HB1.out.alloc HB1.out.size _).drew | exact ((HB1.out.alloc HB1.out.size _).alloc (le_al HB1.out.size) _).drew | exact HB0.out | exact HB0.out.alloc HB0.out.size _ | exact (HB0.out.alloc HB0.out.size _).alloc (le_al HB0.out.size) _ | exact ((HB0.out.alloc HB0.out.size _).alloc (le_al HB0.out.size) _).alloc (le_al (le_al HB0.out.size)) _ | exact HB0.out.drew | exact (HB0.out.alloc HB0.out.size _).drew | exact ((HB0.out.alloc HB0.out.size _).alloc (le_al HB0.out.size) _).drew)).mono ?_); rintro e w3 ⟨rfl, hb3⟩; obtain ⟨hc3, hf3⟩ := bcell hb3; have hs3 := hb3.size; (try simp only [size_drew] at hs3); (try simp only [World.size_alloc] at hs3); (try simp only [size_setCell'] at hs3); (try have le3_0 : W0.heap.size ≤ w3.heap.size := (by omega)); (try have lt3_0 : W0.heap.size < w3.heap.size := (by omega)); (try have le3_1 : w1.heap.size ≤ w3.heap.size := (by omega)); (try have lt3_1 : w1.heap.size < w3.heap.size := (by omega)); (try have le3_2 : w2.heap.size ≤ w3.heap.size := (by omega)); (try have lt3_2 : w2.heap.size < w3.heap.size := (by omega)); have HB3 : Hid (Below W0.heap.size W0 w3) := Lib.hid (Below.trans (by first | exact HB2.out | exact HB2.out.alloc HB2.out.size _ | exact (HB2.out.alloc HB2.out.size _).alloc (le_al HB2.out.size) _ | exact ((HB2.out.alloc HB2.out.size _).alloc (le_al HB2.out.size) _).alloc (le_al (le_al HB2.out.size)) _ | exact HB2.out.drew | exact (HB2.out.alloc HB2.out.size _).drew | exact ((HB2.out.alloc HB2.out.size _).alloc (le_al HB2.out.size) _).drew | exact HB1.out | exact HB1.out.alloc HB1.out.size _ | exact (HB1.out.alloc HB1.out.size _).alloc (le_al HB1.out.size) _ | exact ((HB1.out.alloc HB1.out.size _).alloc (le_al HB1.out.size) _).alloc (le_al (le_al HB1.out.size)) _ | exact HB1.out.drew | exact (HB1.out.alloc HB1.out.size _).drew | exact ((HB1.out.alloc HB1.out.size _).alloc (le_al HB1.out.size) _).drew | exact HB0.out | exact HB0.out.alloc HB0.out.size _ | exact (HB0.out.alloc HB0.out.size _).alloc (le_al HB0.out.size) _ | exact ((HB0.out.alloc HB0.out.size _).alloc (le_al HB0.out.size) _).alloc (le_al (le_al HB0.out.size)) _ | exact HB0.out.drew | exact (HB0.out.alloc HB0.out.size _).drew | exact ((HB0.out.alloc HB0.out.size _).alloc (le_al HB0.out.size) _).drew) (hb3.mono (by (try simp only [size_drew]); (try simp only [World.size_alloc]); (try simp only [size_setCell']); omega))); have HN3 := Lib.hid hb3; clear hb3 hs3))
      go_wp2
      go_ret
      exact ⟨ret_int' HR2.out.symm, HW.out.trans ((show Below W0.heap.size W0 _ from (by first | exact HB3.out | exact HB3.out.alloc HB3.out.size _ | exact (HB3.out.alloc HB3.out.size _).alloc (le_al HB3.out.size) _ | exact ((HB3.out.alloc HB3.out.size _).alloc (le_al HB3.out.size) _).alloc (le_al (le_al HB3.out.size)) _ | exact HB3.out.drew | exact (HB3.out.alloc HB3.out.size _).drew | exact ((HB3.out.alloc HB3.out.size _).alloc (le_al HB3.out.size) _).drew)).mono HW.out.size)⟩
    · have HR2 : Hid (g.opWhy o = g.rmdirsWhy o) := Lib.hid (HR.out.trans (kindWhy_rmdir hk))
      have hf : fnOf o.kind = 135 := by unfold fnOf; simp [hk]
      rw [hf] at HF
      unfold fnV at HF
      clear hf hk
      have HK := Lib.hid (fun W (hW : Below W0.heap.size W0 W) => rmdirs_any gb g o W (h.below hW))
      clear h
      obtain ⟨⟨_, _, _, _, _, _, _, _, _, _, _, _, _⟩, _⟩ := HJ.out W0 HB0.out
      go_enter Tryz.func56, Tryz.ntmps56
      go_wp2_with fail
      rw [← hW0]
      have HW0 := Lib.hid hW0
      clear hW0
      go_wp2_with fail
      refine (HM.out _).mono ?_
      rintro e w1 ⟨rfl, hb1⟩
      obtain ⟨hc1, hf1⟩ := bcell hb1
      have hs1 := hb1.size
      try simp only [size_drew] at hs1
      try simp only [World.size_alloc] at hs1
      try simp only [size_setCell'] at hs1
      try have le1_0 : W0.heap.size ≤ w1.heap.size := (by omega)
      try have lt1_0 : W0.heap.size < w1.heap.size := (by omega)
      have HB1 : Hid (Below W0.heap.size W0 w1) := Lib.hid (Below.trans (by first | exact HB0.out | exact HB0.out.alloc HB0.out.size _ | exact (HB0.out.alloc HB0.out.size _).alloc (le_al HB0.out.size) _ | exact ((HB0.out.alloc HB0.out.size _).alloc (le_al HB0.out.size) _).alloc (le_al (le_al HB0.out.size)) _ | exact HB0.out.drew | exact (HB0.out.alloc HB0.out.size _).drew | exact ((HB0.out.alloc HB0.out.size _).alloc (le_al HB0.out.size) _).drew) (hb1.mono (by (try simp only [size_drew]); (try simp only [World.size_alloc]); (try simp only [size_setCell']); omega)))
      have HN1 := Lib.hid hb1
      clear hb1 hs1
      obtain ⟨⟨_, _, _, _, _, _, _, _, _, _, _, _, _⟩, _⟩ := HJ.out w1 HB1.out
      go_wp2_with fail
      go_region_held3 (fun W : World => W.cell? ⟨w.heap.size, 0, none⟩ = some (.int .i64 o.stamp.t) ∧ W.cell? ⟨w.heap.size, 1, none⟩ = some (.int .i64 o.stamp.r) ∧ W.cell? ⟨w.heap.size, 2, none⟩ = some (.int .i64 o.kind) ∧ W.cell? ⟨w.heap.size, 3, none⟩ = some (.int .i64 o.at_.t) ∧ W.cell? ⟨w.heap.size, 4, none⟩ = some (.int .i64 o.at_.r) ∧ W.cell? ⟨w.heap.size, 5, none⟩ = some (.int .i64 o.ino.t) ∧ W.cell? ⟨w.heap.size, 6, none⟩ = some (.int .i64 o.ino.r) ∧ W.cell? ⟨w.heap.size, 7, none⟩ = some (.int .i64 o.to.t) ∧ W.cell? ⟨w.heap.size, 8, none⟩ = some (.int .i64 o.to.r) ∧ W.cell? ⟨w.heap.size, 9, none⟩ = some (.string o.name) ∧ W.cell? ⟨w.heap.size, 10, none⟩ = some (.string o.new) ∧ W.cell? ⟨w.heap.size, 11, none⟩ = some (.int .i64 o.off) ∧ W.cell? ⟨w.heap.size, 12, none⟩ = some (.string o.data)) (first | exact (HJ.out _ (by first | exact HB3.out | exact HB3.out.alloc HB3.out.size _ | exact (HB3.out.alloc HB3.out.size _).alloc (le_al HB3.out.size) _ | exact ((HB3.out.alloc HB3.out.size _).alloc (le_al HB3.out.size) _).alloc (le_al (le_al HB3.out.size)) _ | exact HB3.out.drew | exact (HB3.out.alloc HB3.out.size _).drew | exact ((HB3.out.alloc HB3.out.size _).alloc (le_al HB3.out.size) _).drew | exact HB2.out | exact HB2.out.alloc HB2.out.size _ | exact (HB2.out.alloc HB2.out.size _).alloc (le_al HB2.out.size) _ | exact ((HB2.out.alloc HB2.out.size _).alloc (le_al HB2.out.size) _).alloc (le_al (le_al HB2.out.size)) _ | exact HB2.out.drew | exact (HB2.out.alloc HB2.out.size _).drew | exact ((HB2.out.alloc HB2.out.size _).alloc (le_al HB2.out.size) _).drew | exact HB1.out | exact HB1.out.alloc HB1.out.size _ | exact (HB1.out.alloc HB1.out.size _).alloc (le_al HB1.out.size) _ | exact ((HB1.out.alloc HB1.out.size _).alloc (le_al HB1.out.size) _).alloc (le_al (le_al HB1.out.size)) _ | exact HB1.out.drew | exact (HB1.out.alloc HB1.out.size _).drew | exact ((HB1.out.alloc HB1.out.size _).alloc (le_al HB1.out.size) _).drew | exact HB0.out | exact HB0.out.alloc HB0.out.size _ | exact (HB0.out.alloc HB0.out.size _).alloc (le_al HB0.out.size) _ | exact ((HB0.out.alloc HB0.out.size _).alloc (le_al HB0.out.size) _).alloc (le_al (le_al HB0.out.size)) _ | exact HB0.out.drew | exact (HB0.out.alloc HB0.out.size _).drew | exact ((HB0.out.alloc HB0.out.size _).alloc (le_al HB0.out.size) _).drew)).1 | go_keep) (first
        | (go_at_call 97; (with_reducible refine (HF.out _).mono ?_); rintro e w2 ⟨rfl, hb2⟩; obtain ⟨hc2, hf2⟩ := bcell hb2; have hs2 := hb2.size; (try simp only [size_drew] at hs2); (try simp only [World.size_alloc] at hs2); (try simp only [size_setCell'] at hs2); (try have le2_0 : W0.heap.size ≤ w2.heap.size := (by omega)); (try have lt2_0 : W0.heap.size < w2.heap.size := (by omega)); (try have le2_1 : w1.heap.size ≤ w2.heap.size := (by omega)); (try have lt2_1 : w1.heap.size < w2.heap.size := (by omega)); have HB2 : Hid (Below W0.heap.size W0 w2) := Lib.hid (Below.trans (by first | exact HB1.out | exact HB1.out.alloc HB1.out.size _ | exact (HB1.out.alloc HB1.out.size _).alloc (le_al HB1.out.size) _ | exact ((HB1.out.alloc HB1.out.size _).alloc (le_al HB1.out.size) _).alloc (le_al (le_al HB1.out.size)) _ | exact HB1.out.drew | exact (HB1.out.alloc HB1.out.size _).drew | exact ((HB1.out.alloc HB1.out.size _).alloc (le_al HB1.out.size) _).drew | exact HB0.out | exact HB0.out.alloc HB0.out.size _ | exact (HB0.out.alloc HB0.out.size _).alloc (le_al HB0.out.size) _ | exact ((HB0.out.alloc HB0.out.size _).alloc (le_al HB0.out.size) _).alloc (le_al (le_al HB0.out.size)) _ | exact HB0.out.drew | exact (HB0.out.alloc HB0.out.size _).drew | exact ((HB0.out.alloc HB0.out.size _).alloc (le_al HB0.out.size) _).drew) (hb2.mono (by (try simp only [size_drew]); (try simp only [World.size_alloc]); (try simp only [size_setCell']); omega))); have HN2 := Lib.hid hb2; clear hb2 hs2)
        | (go_at_call 135; (with_reducible refine (HK.out _ (by first | exact HB2.out | exact HB2.out.alloc HB2.out.size _ | exact (HB2.out.alloc HB2.out.size _).alloc (le_al HB2.out.size) _ | exact ((HB2.out.alloc HB2.out.size _).alloc (le_al HB2.out.size) _).alloc (le_al (le_al HB2.out.size)) _ | exact HB2.out.drew | exact (HB2.out.alloc HB2.out.size _).drew | exact ((HB2.out.alloc HB2.out.size _).alloc (le_al HB2.out.size) _).drew | exact HB1.out | exact HB1.out.alloc HB1.out.size _ | exact (HB1.out.alloc HB1.out.size _).alloc (le_al HB1.out.size) _ | exact ((HB1.out.alloc HB1.out.size _).alloc (le_al HB1.out.size) _).alloc (le_al (le_al HB1.out.size)) _ | exact HB1.out.drew | exact (HB1.out.alloc HB1.out.size _).drew | exact ((HB1.out.alloc HB1.out.size _).alloc (le_al HB1.out.size) _).drew | exact HB0.out | exact HB0.out.alloc HB0.out.size _ | exact (HB0.out.alloc HB0.out.size _).alloc (le_al HB0.out.size) _ | exact ((HB0.out.alloc HB0.out.size _).alloc (le_al HB0.out.size) _).alloc (le_al (le_al HB0.out.size)) _ | exact HB0.out.drew | exact (HB0.out.alloc HB0.out.size _).drew | exact ((HB0.out.alloc HB0.out.size _).alloc (le_al HB0.out.size) _).drew)).mono ?_); rintro e w3 ⟨rfl, hb3⟩; obtain ⟨hc3, hf3⟩ := bcell hb3; have hs3 := hb3.size; (try simp only [size_drew] at hs3); (try simp only [World.size_alloc] at hs3); (try simp only [size_setCell'] at hs3); (try have le3_0 : W0.heap.size ≤ w3.heap.size := (by omega)); (try have lt3_0 : W0.heap.size < w3.heap.size := (by omega)); (try have le3_1 : w1.heap.size ≤ w3.heap.size := (by omega)); (try have lt3_1 : w1.heap.size < w3.heap.size := (by omega)); (try have le3_2 : w2.heap.size ≤ w3.heap.size := (by omega)); (try have lt3_2 : w2.heap.size < w3.heap.size := (by omega)); have HB3 : Hid (Below W0.heap.size W0 w3) := Lib.hid (Below.trans (by first | exact HB2.out | exact HB2.out.alloc HB2.out.size _ | exact (HB2.out.alloc HB2.out.size _).alloc (le_al HB2.out.size) _ | exact ((HB2.out.alloc HB2.out.size _).alloc (le_al HB2.out.size) _).alloc (le_al (le_al HB2.out.size)) _ | exact HB2.out.drew | exact (HB2.out.alloc HB2.out.size _).drew | exact ((HB2.out.alloc HB2.out.size _).alloc (le_al HB2.out.size) _).drew | exact HB1.out | exact HB1.out.alloc HB1.out.size _ | exact (HB1.out.alloc HB1.out.size _).alloc (le_al HB1.out.size) _ | exact ((HB1.out.alloc HB1.out.size _).alloc (le_al HB1.out.size) _).alloc (le_al (le_al HB1.out.size)) _ | exact HB1.out.drew | exact (HB1.out.alloc HB1.out.size _).drew | exact ((HB1.out.alloc HB1.out.size _).alloc (le_al HB1.out.size) _).drew | exact HB0.out | exact HB0.out.alloc HB0.out.size _ | exact (HB0.out.alloc HB0.out.size _).alloc (le_al HB0.out.size) _ | exact ((HB0.out.alloc HB0.out.size _).alloc (le_al HB0.out.size) _).alloc (le_al (le_al HB0.out.size)) _ | exact HB0.out.drew | exact (HB0.out.alloc HB0.out.size _).drew | exact ((HB0.out.alloc HB0.out.size _).alloc (le_al HB0.out.size) _).drew) (hb3.mono (by (try simp only [size_drew]); (try simp only [World.size_alloc]); (try simp only [size_setCell']); omega))); have HN3 := Lib.hid hb3; clear hb3 hs3))
      go_wp2
      go_ret
      exact ⟨ret_int' HR2.out.symm, HW.out.trans ((show Below W0.heap.size W0 _ from (by first | exact HB3.out | exact HB3.out.alloc HB3.out.size _ | exact (HB3.out.alloc HB3.out.size _).alloc (le_al HB3.out.size) _ | exact ((HB3.out.alloc HB3.out.size _).alloc (le_al HB3.out.size) _).alloc (le_al (le_al HB3.out.size)) _ | exact HB3.out.drew | exact (HB3.out.alloc HB3.out.size _).drew | exact ((HB3.out.alloc HB3.out.size _).alloc (le_al HB3.out.size) _).drew)).mono HW.out.size)⟩
    · have HR2 : Hid (g.opWhy o = g.renamesWhy o) := Lib.hid (HR.out.trans (kindWhy_rename hk))
      have hf : fnOf o.kind = 136 := by unfold fnOf; simp [hk]
      rw [hf] at HF
      unfold fnV at HF
      clear hf hk
      have HK := Lib.hid (fun W (hW : Below W0.heap.size W0 W) => renames_any gb g o W (h.below hW))
      clear h
      obtain ⟨⟨_, _, _, _, _, _, _, _, _, _, _, _, _⟩, _⟩ := HJ.out W0 HB0.out
      go_enter Tryz.func56, Tryz.ntmps56
      go_wp2_with fail
      rw [← hW0]
      have HW0 := Lib.hid hW0
      clear hW0
      go_wp2_with fail
      refine (HM.out _).mono ?_
      rintro e w1 ⟨rfl, hb1⟩
      obtain ⟨hc1, hf1⟩ := bcell hb1
      have hs1 := hb1.size
      try simp only [size_drew] at hs1
      try simp only [World.size_alloc] at hs1
      try simp only [size_setCell'] at hs1
      try have le1_0 : W0.heap.size ≤ w1.heap.size := (by omega)
      try have lt1_0 : W0.heap.size < w1.heap.size := (by omega)
      have HB1 : Hid (Below W0.heap.size W0 w1) := Lib.hid (Below.trans (by first | exact HB0.out | exact HB0.out.alloc HB0.out.size _ | exact (HB0.out.alloc HB0.out.size _).alloc (le_al HB0.out.size) _ | exact ((HB0.out.alloc HB0.out.size _).alloc (le_al HB0.out.size) _).alloc (le_al (le_al HB0.out.size)) _ | exact HB0.out.drew | exact (HB0.out.alloc HB0.out.size _).drew | exact ((HB0.out.alloc HB0.out.size _).alloc (le_al HB0.out.size) _).drew) (hb1.mono (by (try simp only [size_drew]); (try simp only [World.size_alloc]); (try simp only [size_setCell']); omega)))
      have HN1 := Lib.hid hb1
      clear hb1 hs1
      obtain ⟨⟨_, _, _, _, _, _, _, _, _, _, _, _, _⟩, _⟩ := HJ.out w1 HB1.out
      go_wp2_with fail
      go_region_held3 (fun W : World => W.cell? ⟨w.heap.size, 0, none⟩ = some (.int .i64 o.stamp.t) ∧ W.cell? ⟨w.heap.size, 1, none⟩ = some (.int .i64 o.stamp.r) ∧ W.cell? ⟨w.heap.size, 2, none⟩ = some (.int .i64 o.kind) ∧ W.cell? ⟨w.heap.size, 3, none⟩ = some (.int .i64 o.at_.t) ∧ W.cell? ⟨w.heap.size, 4, none⟩ = some (.int .i64 o.at_.r) ∧ W.cell? ⟨w.heap.size, 5, none⟩ = some (.int .i64 o.ino.t) ∧ W.cell? ⟨w.heap.size, 6, none⟩ = some (.int .i64 o.ino.r) ∧ W.cell? ⟨w.heap.size, 7, none⟩ = some (.int .i64 o.to.t) ∧ W.cell? ⟨w.heap.size, 8, none⟩ = some (.int .i64 o.to.r) ∧ W.cell? ⟨w.heap.size, 9, none⟩ = some (.string o.name) ∧ W.cell? ⟨w.heap.size, 10, none⟩ = some (.string o.new) ∧ W.cell? ⟨w.heap.size, 11, none⟩ = some (.int .i64 o.off) ∧ W.cell? ⟨w.heap.size, 12, none⟩ = some (.string o.data)) (first | exact (HJ.out _ (by first | exact HB3.out | exact HB3.out.alloc HB3.out.size _ | exact (HB3.out.alloc HB3.out.size _).alloc (le_al HB3.out.size) _ | exact ((HB3.out.alloc HB3.out.size _).alloc (le_al HB3.out.size) _).alloc (le_al (le_al HB3.out.size)) _ | exact HB3.out.drew | exact (HB3.out.alloc HB3.out.size _).drew | exact ((HB3.out.alloc HB3.out.size _).alloc (le_al HB3.out.size) _).drew | exact HB2.out | exact HB2.out.alloc HB2.out.size _ | exact (HB2.out.alloc HB2.out.size _).alloc (le_al HB2.out.size) _ | exact ((HB2.out.alloc HB2.out.size _).alloc (le_al HB2.out.size) _).alloc (le_al (le_al HB2.out.size)) _ | exact HB2.out.drew | exact (HB2.out.alloc HB2.out.size _).drew | exact ((HB2.out.alloc HB2.out.size _).alloc (le_al HB2.out.size) _).drew | exact HB1.out | exact HB1.out.alloc HB1.out.size _ | exact (HB1.out.alloc HB1.out.size _).alloc (le_al HB1.out.size) _ | exact ((HB1.out.alloc HB1.out.size _).alloc (le_al HB1.out.size) _).alloc (le_al (le_al HB1.out.size)) _ | exact HB1.out.drew | exact (HB1.out.alloc HB1.out.size _).drew | exact ((HB1.out.alloc HB1.out.size _).alloc (le_al HB1.out.size) _).drew | exact HB0.out | exact HB0.out.alloc HB0.out.size _ | exact (HB0.out.alloc HB0.out.size _).alloc (le_al HB0.out.size) _ | exact ((HB0.out.alloc HB0.out.size _).alloc (le_al HB0.out.size) _).alloc (le_al (le_al HB0.out.size)) _ | exact HB0.out.drew | exact (HB0.out.alloc HB0.out.size _).drew | exact ((HB0.out.alloc HB0.out.size _).alloc (le_al HB0.out.size) _).drew)).1 | go_keep) (first
        | (go_at_call 97; (with_reducible refine (HF.out _).mono ?_); rintro e w2 ⟨rfl, hb2⟩; obtain ⟨hc2, hf2⟩ := bcell hb2; have hs2 := hb2.size; (try simp only [size_drew] at hs2); (try simp only [World.size_alloc] at hs2); (try simp only [size_setCell'] at hs2); (try have le2_0 : W0.heap.size ≤ w2.heap.size := (by omega)); (try have lt2_0 : W0.heap.size < w2.heap.size := (by omega)); (try have le2_1 : w1.heap.size ≤ w2.heap.size := (by omega)); (try have lt2_1 : w1.heap.size < w2.heap.size := (by omega)); have HB2 : Hid (Below W0.heap.size W0 w2) := Lib.hid (Below.trans (by first | exact HB1.out | exact HB1.out.alloc HB1.out.size _ | exact (HB1.out.alloc HB1.out.size _).alloc (le_al HB1.out.size) _ | exact ((HB1.out.alloc HB1.out.size _).alloc (le_al HB1.out.size) _).alloc (le_al (le_al HB1.out.size)) _ | exact HB1.out.drew | exact (HB1.out.alloc HB1.out.size _).drew | exact ((HB1.out.alloc HB1.out.size _).alloc (le_al HB1.out.size) _).drew | exact HB0.out | exact HB0.out.alloc HB0.out.size _ | exact (HB0.out.alloc HB0.out.size _).alloc (le_al HB0.out.size) _ | exact ((HB0.out.alloc HB0.out.size _).alloc (le_al HB0.out.size) _).alloc (le_al (le_al HB0.out.size)) _ | exact HB0.out.drew | exact (HB0.out.alloc HB0.out.size _).drew | exact ((HB0.out.alloc HB0.out.size _).alloc (le_al HB0.out.size) _).drew) (hb2.mono (by (try simp only [size_drew]); (try simp only [World.size_alloc]); (try simp only [size_setCell']); omega))); have HN2 := Lib.hid hb2; clear hb2 hs2)
        | (go_at_call 136; (with_reducible refine (HK.out _ (by first | exact HB2.out | exact HB2.out.alloc HB2.out.size _ | exact (HB2.out.alloc HB2.out.size _).alloc (le_al HB2.out.size) _ | exact ((HB2.out.alloc HB2.out.size _).alloc (le_al HB2.out.size) _).alloc (le_al (le_al HB2.out.size)) _ | exact HB2.out.drew | exact (HB2.out.alloc HB2.out.size _).drew | exact ((HB2.out.alloc HB2.out.size _).alloc (le_al HB2.out.size) _).drew | exact HB1.out | exact HB1.out.alloc HB1.out.size _ | exact (HB1.out.alloc HB1.out.size _).alloc (le_al HB1.out.size) _ | exact ((HB1.out.alloc HB1.out.size _).alloc (le_al HB1.out.size) _).alloc (le_al (le_al HB1.out.size)) _ | exact HB1.out.drew | exact (HB1.out.alloc HB1.out.size _).drew | exact ((HB1.out.alloc HB1.out.size _).alloc (le_al HB1.out.size) _).drew | exact HB0.out | exact HB0.out.alloc HB0.out.size _ | exact (HB0.out.alloc HB0.out.size _).alloc (le_al HB0.out.size) _ | exact ((HB0.out.alloc HB0.out.size _).alloc (le_al HB0.out.size) _).alloc (le_al (le_al HB0.out.size)) _ | exact HB0.out.drew | exact (HB0.out.alloc HB0.out.size _).drew | exact ((HB0.out.alloc HB0.out.size _).alloc (le_al HB0.out.size) _).drew)).mono ?_); rintro e w3 ⟨rfl, hb3⟩; obtain ⟨hc3, hf3⟩ := bcell hb3; have hs3 := hb3.size; (try simp only [size_drew] at hs3); (try simp only [World.size_alloc] at hs3); (try simp only [size_setCell'] at hs3); (try have le3_0 : W0.heap.size ≤ w3.heap.size := (by omega)); (try have lt3_0 : W0.heap.size < w3.heap.size := (by omega)); (try have le3_1 : w1.heap.size ≤ w3.heap.size := (by omega)); (try have lt3_1 : w1.heap.size < w3.heap.size := (by omega)); (try have le3_2 : w2.heap.size ≤ w3.heap.size := (by omega)); (try have lt3_2 : w2.heap.size < w3.heap.size := (by omega)); have HB3 : Hid (Below W0.heap.size W0 w3) := Lib.hid (Below.trans (by first | exact HB2.out | exact HB2.out.alloc HB2.out.size _ | exact (HB2.out.alloc HB2.out.size _).alloc (le_al HB2.out.size) _ | exact ((HB2.out.alloc HB2.out.size _).alloc (le_al HB2.out.size) _).alloc (le_al (le_al HB2.out.size)) _ | exact HB2.out.drew | exact (HB2.out.alloc HB2.out.size _).drew | exact ((HB2.out.alloc HB2.out.size _).alloc (le_al HB2.out.size) _).drew | exact HB1.out | exact HB1.out.alloc HB1.out.size _ | exact (HB1.out.alloc HB1.out.size _).alloc (le_al HB1.out.size) _ | exact ((HB1.out.alloc HB1.out.size _).alloc (le_al HB1.out.size) _).alloc (le_al (le_al HB1.out.size)) _ | exact HB1.out.drew | exact (HB1.out.alloc HB1.out.size _).drew | exact ((HB1.out.alloc HB1.out.size _).alloc (le_al HB1.out.size) _).drew | exact HB0.out | exact HB0.out.alloc HB0.out.size _ | exact (HB0.out.alloc HB0.out.size _).alloc (le_al HB0.out.size) _ | exact ((HB0.out.alloc HB0.out.size _).alloc (le_al HB0.out.size) _).alloc (le_al (le_al HB0.out.size)) _ | exact HB0.out.drew | exact (HB0.out.alloc HB0.out.size _).drew | exact ((HB0.out.alloc HB0.out.size _).alloc (le_al HB0.out.size) _).drew) (hb3.mono (by (try simp only [size_drew]); (try simp only [World.size_alloc]); (try simp only [size_setCell']); omega))); have HN3 := Lib.hid hb3; clear hb3 hs3))
      go_wp2
      go_ret
      exact ⟨ret_int' HR2.out.symm, HW.out.trans ((show Below W0.heap.size W0 _ from (by first | exact HB3.out | exact HB3.out.alloc HB3.out.size _ | exact (HB3.out.alloc HB3.out.size _).alloc (le_al HB3.out.size) _ | exact ((HB3.out.alloc HB3.out.size _).alloc (le_al HB3.out.size) _).alloc (le_al (le_al HB3.out.size)) _ | exact HB3.out.drew | exact (HB3.out.alloc HB3.out.size _).drew | exact ((HB3.out.alloc HB3.out.size _).alloc (le_al HB3.out.size) _).drew)).mono HW.out.size)⟩
    · have HR2 : Hid (g.opWhy o = g.dataWhy o) := Lib.hid (HR.out.trans (kindWhy_data hk))
      have hf : fnOf o.kind = 137 := by unfold fnOf; rcases hk with hk | hk <;> simp [hk]
      rw [hf] at HF
      unfold fnV at HF
      clear hf hk
      have HK := Lib.hid (fun W (hW : Below W0.heap.size W0 W) => data_any gb g o W (h.below hW))
      clear h
      obtain ⟨⟨_, _, _, _, _, _, _, _, _, _, _, _, _⟩, _⟩ := HJ.out W0 HB0.out
      go_enter Tryz.func56, Tryz.ntmps56
      go_wp2_with fail
      rw [← hW0]
      have HW0 := Lib.hid hW0
      clear hW0
      go_wp2_with fail
      refine (HM.out _).mono ?_
      rintro e w1 ⟨rfl, hb1⟩
      obtain ⟨hc1, hf1⟩ := bcell hb1
      have hs1 := hb1.size
      try simp only [size_drew] at hs1
      try simp only [World.size_alloc] at hs1
      try simp only [size_setCell'] at hs1
      try have le1_0 : W0.heap.size ≤ w1.heap.size := (by omega)
      try have lt1_0 : W0.heap.size < w1.heap.size := (by omega)
      have HB1 : Hid (Below W0.heap.size W0 w1) := Lib.hid (Below.trans (by first | exact HB0.out | exact HB0.out.alloc HB0.out.size _ | exact (HB0.out.alloc HB0.out.size _).alloc (le_al HB0.out.size) _ | exact ((HB0.out.alloc HB0.out.size _).alloc (le_al HB0.out.size) _).alloc (le_al (le_al HB0.out.size)) _ | exact HB0.out.drew | exact (HB0.out.alloc HB0.out.size _).drew | exact ((HB0.out.alloc HB0.out.size _).alloc (le_al HB0.out.size) _).drew) (hb1.mono (by (try simp only [size_drew]); (try simp only [World.size_alloc]); (try simp only [size_setCell']); omega)))
      have HN1 := Lib.hid hb1
      clear hb1 hs1
      obtain ⟨⟨_, _, _, _, _, _, _, _, _, _, _, _, _⟩, _⟩ := HJ.out w1 HB1.out
      go_wp2_with fail
      go_region_held3 (fun W : World => W.cell? ⟨w.heap.size, 0, none⟩ = some (.int .i64 o.stamp.t) ∧ W.cell? ⟨w.heap.size, 1, none⟩ = some (.int .i64 o.stamp.r) ∧ W.cell? ⟨w.heap.size, 2, none⟩ = some (.int .i64 o.kind) ∧ W.cell? ⟨w.heap.size, 3, none⟩ = some (.int .i64 o.at_.t) ∧ W.cell? ⟨w.heap.size, 4, none⟩ = some (.int .i64 o.at_.r) ∧ W.cell? ⟨w.heap.size, 5, none⟩ = some (.int .i64 o.ino.t) ∧ W.cell? ⟨w.heap.size, 6, none⟩ = some (.int .i64 o.ino.r) ∧ W.cell? ⟨w.heap.size, 7, none⟩ = some (.int .i64 o.to.t) ∧ W.cell? ⟨w.heap.size, 8, none⟩ = some (.int .i64 o.to.r) ∧ W.cell? ⟨w.heap.size, 9, none⟩ = some (.string o.name) ∧ W.cell? ⟨w.heap.size, 10, none⟩ = some (.string o.new) ∧ W.cell? ⟨w.heap.size, 11, none⟩ = some (.int .i64 o.off) ∧ W.cell? ⟨w.heap.size, 12, none⟩ = some (.string o.data)) (first | exact (HJ.out _ (by first | exact HB3.out | exact HB3.out.alloc HB3.out.size _ | exact (HB3.out.alloc HB3.out.size _).alloc (le_al HB3.out.size) _ | exact ((HB3.out.alloc HB3.out.size _).alloc (le_al HB3.out.size) _).alloc (le_al (le_al HB3.out.size)) _ | exact HB3.out.drew | exact (HB3.out.alloc HB3.out.size _).drew | exact ((HB3.out.alloc HB3.out.size _).alloc (le_al HB3.out.size) _).drew | exact HB2.out | exact HB2.out.alloc HB2.out.size _ | exact (HB2.out.alloc HB2.out.size _).alloc (le_al HB2.out.size) _ | exact ((HB2.out.alloc HB2.out.size _).alloc (le_al HB2.out.size) _).alloc (le_al (le_al HB2.out.size)) _ | exact HB2.out.drew | exact (HB2.out.alloc HB2.out.size _).drew | exact ((HB2.out.alloc HB2.out.size _).alloc (le_al HB2.out.size) _).drew | exact HB1.out | exact HB1.out.alloc HB1.out.size _ | exact (HB1.out.alloc HB1.out.size _).alloc (le_al HB1.out.size) _ | exact ((HB1.out.alloc HB1.out.size _).alloc (le_al HB1.out.size) _).alloc (le_al (le_al HB1.out.size)) _ | exact HB1.out.drew | exact (HB1.out.alloc HB1.out.size _).drew | exact ((HB1.out.alloc HB1.out.size _).alloc (le_al HB1.out.size) _).drew | exact HB0.out | exact HB0.out.alloc HB0.out.size _ | exact (HB0.out.alloc HB0.out.size _).alloc (le_al HB0.out.size) _ | exact ((HB0.out.alloc HB0.out.size _).alloc (le_al HB0.out.size) _).alloc (le_al (le_al HB0.out.size)) _ | exact HB0.out.drew | exact (HB0.out.alloc HB0.out.size _).drew | exact ((HB0.out.alloc HB0.out.size _).alloc (le_al HB0.out.size) _).drew)).1 | go_keep) (first
        | (go_at_call 97; (with_reducible refine (HF.out _).mono ?_); rintro e w2 ⟨rfl, hb2⟩; obtain ⟨hc2, hf2⟩ := bcell hb2; have hs2 := hb2.size; (try simp only [size_drew] at hs2); (try simp only [World.size_alloc] at hs2); (try simp only [size_setCell'] at hs2); (try have le2_0 : W0.heap.size ≤ w2.heap.size := (by omega)); (try have lt2_0 : W0.heap.size < w2.heap.size := (by omega)); (try have le2_1 : w1.heap.size ≤ w2.heap.size := (by omega)); (try have lt2_1 : w1.heap.size < w2.heap.size := (by omega)); have HB2 : Hid (Below W0.heap.size W0 w2) := Lib.hid (Below.trans (by first | exact HB1.out | exact HB1.out.alloc HB1.out.size _ | exact (HB1.out.alloc HB1.out.size _).alloc (le_al HB1.out.size) _ | exact ((HB1.out.alloc HB1.out.size _).alloc (le_al HB1.out.size) _).alloc (le_al (le_al HB1.out.size)) _ | exact HB1.out.drew | exact (HB1.out.alloc HB1.out.size _).drew | exact ((HB1.out.alloc HB1.out.size _).alloc (le_al HB1.out.size) _).drew | exact HB0.out | exact HB0.out.alloc HB0.out.size _ | exact (HB0.out.alloc HB0.out.size _).alloc (le_al HB0.out.size) _ | exact ((HB0.out.alloc HB0.out.size _).alloc (le_al HB0.out.size) _).alloc (le_al (le_al HB0.out.size)) _ | exact HB0.out.drew | exact (HB0.out.alloc HB0.out.size _).drew | exact ((HB0.out.alloc HB0.out.size _).alloc (le_al HB0.out.size) _).drew) (hb2.mono (by (try simp only [size_drew]); (try simp only [World.size_alloc]); (try simp only [size_setCell']); omega))); have HN2 := Lib.hid hb2; clear hb2 hs2)
        | (go_at_call 137; (with_reducible refine (HK.out _ (by first | exact HB2.out | exact HB2.out.alloc HB2.out.size _ | exact (HB2.out.alloc HB2.out.size _).alloc (le_al HB2.out.size) _ | exact ((HB2.out.alloc HB2.out.size _).alloc (le_al HB2.out.size) _).alloc (le_al (le_al HB2.out.size)) _ | exact HB2.out.drew | exact (HB2.out.alloc HB2.out.size _).drew | exact ((HB2.out.alloc HB2.out.size _).alloc (le_al HB2.out.size) _).drew | exact HB1.out | exact HB1.out.alloc HB1.out.size _ | exact (HB1.out.alloc HB1.out.size _).alloc (le_al HB1.out.size) _ | exact ((HB1.out.alloc HB1.out.size _).alloc (le_al HB1.out.size) _).alloc (le_al (le_al HB1.out.size)) _ | exact HB1.out.drew | exact (HB1.out.alloc HB1.out.size _).drew | exact ((HB1.out.alloc HB1.out.size _).alloc (le_al HB1.out.size) _).drew | exact HB0.out | exact HB0.out.alloc HB0.out.size _ | exact (HB0.out.alloc HB0.out.size _).alloc (le_al HB0.out.size) _ | exact ((HB0.out.alloc HB0.out.size _).alloc (le_al HB0.out.size) _).alloc (le_al (le_al HB0.out.size)) _ | exact HB0.out.drew | exact (HB0.out.alloc HB0.out.size _).drew | exact ((HB0.out.alloc HB0.out.size _).alloc (le_al HB0.out.size) _).drew)).mono ?_); rintro e w3 ⟨rfl, hb3⟩; obtain ⟨hc3, hf3⟩ := bcell hb3; have hs3 := hb3.size; (try simp only [size_drew] at hs3); (try simp only [World.size_alloc] at hs3); (try simp only [size_setCell'] at hs3); (try have le3_0 : W0.heap.size ≤ w3.heap.size := (by omega)); (try have lt3_0 : W0.heap.size < w3.heap.size := (by omega)); (try have le3_1 : w1.heap.size ≤ w3.heap.size := (by omega)); (try have lt3_1 : w1.heap.size < w3.heap.size := (by omega)); (try have le3_2 : w2.heap.size ≤ w3.heap.size := (by omega)); (try have lt3_2 : w2.heap.size < w3.heap.size := (by omega)); have HB3 : Hid (Below W0.heap.size W0 w3) := Lib.hid (Below.trans (by first | exact HB2.out | exact HB2.out.alloc HB2.out.size _ | exact (HB2.out.alloc HB2.out.size _).alloc (le_al HB2.out.size) _ | exact ((HB2.out.alloc HB2.out.size _).alloc (le_al HB2.out.size) _).alloc (le_al (le_al HB2.out.size)) _ | exact HB2.out.drew | exact (HB2.out.alloc HB2.out.size _).drew | exact ((HB2.out.alloc HB2.out.size _).alloc (le_al HB2.out.size) _).drew | exact HB1.out | exact HB1.out.alloc HB1.out.size _ | exact (HB1.out.alloc HB1.out.size _).alloc (le_al HB1.out.size) _ | exact ((HB1.out.alloc HB1.out.size _).alloc (le_al HB1.out.size) _).alloc (le_al (le_al HB1.out.size)) _ | exact HB1.out.drew | exact (HB1.out.alloc HB1.out.size _).drew | exact ((HB1.out.alloc HB1.out.size _).alloc (le_al HB1.out.size) _).drew | exact HB0.out | exact HB0.out.alloc HB0.out.size _ | exact (HB0.out.alloc HB0.out.size _).alloc (le_al HB0.out.size) _ | exact ((HB0.out.alloc HB0.out.size _).alloc (le_al HB0.out.size) _).alloc (le_al (le_al HB0.out.size)) _ | exact HB0.out.drew | exact (HB0.out.alloc HB0.out.size _).drew | exact ((HB0.out.alloc HB0.out.size _).alloc (le_al HB0.out.size) _).drew) (hb3.mono (by (try simp only [size_drew]); (try simp only [World.size_alloc]); (try simp only [size_setCell']); omega))); have HN3 := Lib.hid hb3; clear hb3 hs3))
      go_wp2
      go_ret
      exact ⟨ret_int' HR2.out.symm, HW.out.trans ((show Below W0.heap.size W0 _ from (by first | exact HB3.out | exact HB3.out.alloc HB3.out.size _ | exact (HB3.out.alloc HB3.out.size _).alloc (le_al HB3.out.size) _ | exact ((HB3.out.alloc HB3.out.size _).alloc (le_al HB3.out.size) _).alloc (le_al (le_al HB3.out.size)) _ | exact HB3.out.drew | exact (HB3.out.alloc HB3.out.size _).drew | exact ((HB3.out.alloc HB3.out.size _).alloc (le_al HB3.out.size) _).drew)).mono HW.out.size)⟩
    · have HR2 : Hid (g.opWhy o = g.attrWhy o) := Lib.hid (HR.out.trans (kindWhy_attr hk))
      have hf : fnOf o.kind = 138 := by unfold fnOf; simp [hk]
      rw [hf] at HF
      unfold fnV at HF
      clear hf hk
      have HK := Lib.hid (fun W (hW : Below W0.heap.size W0 W) => attr_any gb g o W (h.below hW))
      clear h
      obtain ⟨⟨_, _, _, _, _, _, _, _, _, _, _, _, _⟩, _⟩ := HJ.out W0 HB0.out
      go_enter Tryz.func56, Tryz.ntmps56
      go_wp2_with fail
      rw [← hW0]
      have HW0 := Lib.hid hW0
      clear hW0
      go_wp2_with fail
      refine (HM.out _).mono ?_
      rintro e w1 ⟨rfl, hb1⟩
      obtain ⟨hc1, hf1⟩ := bcell hb1
      have hs1 := hb1.size
      try simp only [size_drew] at hs1
      try simp only [World.size_alloc] at hs1
      try simp only [size_setCell'] at hs1
      try have le1_0 : W0.heap.size ≤ w1.heap.size := (by omega)
      try have lt1_0 : W0.heap.size < w1.heap.size := (by omega)
      have HB1 : Hid (Below W0.heap.size W0 w1) := Lib.hid (Below.trans (by first | exact HB0.out | exact HB0.out.alloc HB0.out.size _ | exact (HB0.out.alloc HB0.out.size _).alloc (le_al HB0.out.size) _ | exact ((HB0.out.alloc HB0.out.size _).alloc (le_al HB0.out.size) _).alloc (le_al (le_al HB0.out.size)) _ | exact HB0.out.drew | exact (HB0.out.alloc HB0.out.size _).drew | exact ((HB0.out.alloc HB0.out.size _).alloc (le_al HB0.out.size) _).drew) (hb1.mono (by (try simp only [size_drew]); (try simp only [World.size_alloc]); (try simp only [size_setCell']); omega)))
      have HN1 := Lib.hid hb1
      clear hb1 hs1
      obtain ⟨⟨_, _, _, _, _, _, _, _, _, _, _, _, _⟩, _⟩ := HJ.out w1 HB1.out
      go_wp2_with fail
      go_region_held3 (fun W : World => W.cell? ⟨w.heap.size, 0, none⟩ = some (.int .i64 o.stamp.t) ∧ W.cell? ⟨w.heap.size, 1, none⟩ = some (.int .i64 o.stamp.r) ∧ W.cell? ⟨w.heap.size, 2, none⟩ = some (.int .i64 o.kind) ∧ W.cell? ⟨w.heap.size, 3, none⟩ = some (.int .i64 o.at_.t) ∧ W.cell? ⟨w.heap.size, 4, none⟩ = some (.int .i64 o.at_.r) ∧ W.cell? ⟨w.heap.size, 5, none⟩ = some (.int .i64 o.ino.t) ∧ W.cell? ⟨w.heap.size, 6, none⟩ = some (.int .i64 o.ino.r) ∧ W.cell? ⟨w.heap.size, 7, none⟩ = some (.int .i64 o.to.t) ∧ W.cell? ⟨w.heap.size, 8, none⟩ = some (.int .i64 o.to.r) ∧ W.cell? ⟨w.heap.size, 9, none⟩ = some (.string o.name) ∧ W.cell? ⟨w.heap.size, 10, none⟩ = some (.string o.new) ∧ W.cell? ⟨w.heap.size, 11, none⟩ = some (.int .i64 o.off) ∧ W.cell? ⟨w.heap.size, 12, none⟩ = some (.string o.data)) (first | exact (HJ.out _ (by first | exact HB3.out | exact HB3.out.alloc HB3.out.size _ | exact (HB3.out.alloc HB3.out.size _).alloc (le_al HB3.out.size) _ | exact ((HB3.out.alloc HB3.out.size _).alloc (le_al HB3.out.size) _).alloc (le_al (le_al HB3.out.size)) _ | exact HB3.out.drew | exact (HB3.out.alloc HB3.out.size _).drew | exact ((HB3.out.alloc HB3.out.size _).alloc (le_al HB3.out.size) _).drew | exact HB2.out | exact HB2.out.alloc HB2.out.size _ | exact (HB2.out.alloc HB2.out.size _).alloc (le_al HB2.out.size) _ | exact ((HB2.out.alloc HB2.out.size _).alloc (le_al HB2.out.size) _).alloc (le_al (le_al HB2.out.size)) _ | exact HB2.out.drew | exact (HB2.out.alloc HB2.out.size _).drew | exact ((HB2.out.alloc HB2.out.size _).alloc (le_al HB2.out.size) _).drew | exact HB1.out | exact HB1.out.alloc HB1.out.size _ | exact (HB1.out.alloc HB1.out.size _).alloc (le_al HB1.out.size) _ | exact ((HB1.out.alloc HB1.out.size _).alloc (le_al HB1.out.size) _).alloc (le_al (le_al HB1.out.size)) _ | exact HB1.out.drew | exact (HB1.out.alloc HB1.out.size _).drew | exact ((HB1.out.alloc HB1.out.size _).alloc (le_al HB1.out.size) _).drew | exact HB0.out | exact HB0.out.alloc HB0.out.size _ | exact (HB0.out.alloc HB0.out.size _).alloc (le_al HB0.out.size) _ | exact ((HB0.out.alloc HB0.out.size _).alloc (le_al HB0.out.size) _).alloc (le_al (le_al HB0.out.size)) _ | exact HB0.out.drew | exact (HB0.out.alloc HB0.out.size _).drew | exact ((HB0.out.alloc HB0.out.size _).alloc (le_al HB0.out.size) _).drew)).1 | go_keep) (first
        | (go_at_call 97; (with_reducible refine (HF.out _).mono ?_); rintro e w2 ⟨rfl, hb2⟩; obtain ⟨hc2, hf2⟩ := bcell hb2; have hs2 := hb2.size; (try simp only [size_drew] at hs2); (try simp only [World.size_alloc] at hs2); (try simp only [size_setCell'] at hs2); (try have le2_0 : W0.heap.size ≤ w2.heap.size := (by omega)); (try have lt2_0 : W0.heap.size < w2.heap.size := (by omega)); (try have le2_1 : w1.heap.size ≤ w2.heap.size := (by omega)); (try have lt2_1 : w1.heap.size < w2.heap.size := (by omega)); have HB2 : Hid (Below W0.heap.size W0 w2) := Lib.hid (Below.trans (by first | exact HB1.out | exact HB1.out.alloc HB1.out.size _ | exact (HB1.out.alloc HB1.out.size _).alloc (le_al HB1.out.size) _ | exact ((HB1.out.alloc HB1.out.size _).alloc (le_al HB1.out.size) _).alloc (le_al (le_al HB1.out.size)) _ | exact HB1.out.drew | exact (HB1.out.alloc HB1.out.size _).drew | exact ((HB1.out.alloc HB1.out.size _).alloc (le_al HB1.out.size) _).drew | exact HB0.out | exact HB0.out.alloc HB0.out.size _ | exact (HB0.out.alloc HB0.out.size _).alloc (le_al HB0.out.size) _ | exact ((HB0.out.alloc HB0.out.size _).alloc (le_al HB0.out.size) _).alloc (le_al (le_al HB0.out.size)) _ | exact HB0.out.drew | exact (HB0.out.alloc HB0.out.size _).drew | exact ((HB0.out.alloc HB0.out.size _).alloc (le_al HB0.out.size) _).drew) (hb2.mono (by (try simp only [size_drew]); (try simp only [World.size_alloc]); (try simp only [size_setCell']); omega))); have HN2 := Lib.hid hb2; clear hb2 hs2)
        | (go_at_call 138; (with_reducible refine (HK.out _ (by first | exact HB2.out | exact HB2.out.alloc HB2.out.size _ | exact (HB2.out.alloc HB2.out.size _).alloc (le_al HB2.out.size) _ | exact ((HB2.out.alloc HB2.out.size _).alloc (le_al HB2.out.size) _).alloc (le_al (le_al HB2.out.size)) _ | exact HB2.out.drew | exact (HB2.out.alloc HB2.out.size _).drew | exact ((HB2.out.alloc HB2.out.size _).alloc (le_al HB2.out.size) _).drew | exact HB1.out | exact HB1.out.alloc HB1.out.size _ | exact (HB1.out.alloc HB1.out.size _).alloc (le_al HB1.out.size) _ | exact ((HB1.out.alloc HB1.out.size _).alloc (le_al HB1.out.size) _).alloc (le_al (le_al HB1.out.size)) _ | exact HB1.out.drew | exact (HB1.out.alloc HB1.out.size _).drew | exact ((HB1.out.alloc HB1.out.size _).alloc (le_al HB1.out.size) _).drew | exact HB0.out | exact HB0.out.alloc HB0.out.size _ | exact (HB0.out.alloc HB0.out.size _).alloc (le_al HB0.out.size) _ | exact ((HB0.out.alloc HB0.out.size _).alloc (le_al HB0.out.size) _).alloc (le_al (le_al HB0.out.size)) _ | exact HB0.out.drew | exact (HB0.out.alloc HB0.out.size _).drew | exact ((HB0.out.alloc HB0.out.size _).alloc (le_al HB0.out.size) _).drew)).mono ?_); rintro e w3 ⟨rfl, hb3⟩; obtain ⟨hc3, hf3⟩ := bcell hb3; have hs3 := hb3.size; (try simp only [size_drew] at hs3); (try simp only [World.size_alloc] at hs3); (try simp only [size_setCell'] at hs3); (try have le3_0 : W0.heap.size ≤ w3.heap.size := (by omega)); (try have lt3_0 : W0.heap.size < w3.heap.size := (by omega)); (try have le3_1 : w1.heap.size ≤ w3.heap.size := (by omega)); (try have lt3_1 : w1.heap.size < w3.heap.size := (by omega)); (try have le3_2 : w2.heap.size ≤ w3.heap.size := (by omega)); (try have lt3_2 : w2.heap.size < w3.heap.size := (by omega)); have HB3 : Hid (Below W0.heap.size W0 w3) := Lib.hid (Below.trans (by first | exact HB2.out | exact HB2.out.alloc HB2.out.size _ | exact (HB2.out.alloc HB2.out.size _).alloc (le_al HB2.out.size) _ | exact ((HB2.out.alloc HB2.out.size _).alloc (le_al HB2.out.size) _).alloc (le_al (le_al HB2.out.size)) _ | exact HB2.out.drew | exact (HB2.out.alloc HB2.out.size _).drew | exact ((HB2.out.alloc HB2.out.size _).alloc (le_al HB2.out.size) _).drew | exact HB1.out | exact HB1.out.alloc HB1.out.size _ | exact (HB1.out.alloc HB1.out.size _).alloc (le_al HB1.out.size) _ | exact ((HB1.out.alloc HB1.out.size _).alloc (le_al HB1.out.size) _).alloc (le_al (le_al HB1.out.size)) _ | exact HB1.out.drew | exact (HB1.out.alloc HB1.out.size _).drew | exact ((HB1.out.alloc HB1.out.size _).alloc (le_al HB1.out.size) _).drew | exact HB0.out | exact HB0.out.alloc HB0.out.size _ | exact (HB0.out.alloc HB0.out.size _).alloc (le_al HB0.out.size) _ | exact ((HB0.out.alloc HB0.out.size _).alloc (le_al HB0.out.size) _).alloc (le_al (le_al HB0.out.size)) _ | exact HB0.out.drew | exact (HB0.out.alloc HB0.out.size _).drew | exact ((HB0.out.alloc HB0.out.size _).alloc (le_al HB0.out.size) _).drew) (hb3.mono (by (try simp only [size_drew]); (try simp only [World.size_alloc]); (try simp only [size_setCell']); omega))); have HN3 := Lib.hid hb3; clear hb3 hs3))
      go_wp2
      go_ret
      exact ⟨ret_int' HR2.out.symm, HW.out.trans ((show Below W0.heap.size W0 _ from (by first | exact HB3.out | exact HB3.out.alloc HB3.out.size _ | exact (HB3.out.alloc HB3.out.size _).alloc (le_al HB3.out.size) _ | exact ((HB3.out.alloc HB3.out.size _).alloc (le_al HB3.out.size) _).alloc (le_al (le_al HB3.out.size)) _ | exact HB3.out.drew | exact (HB3.out.alloc HB3.out.size _).drew | exact ((HB3.out.alloc HB3.out.size _).alloc (le_al HB3.out.size) _).drew)).mono HW.out.size)⟩

theorem Below.turn' {w w' : World} (h : Below w.heap.size w w') (S : Nat → Prop) : Turn S w w' := ⟨h.os, h.tape, h.output, h.size, fun k hk _ => h.block k hk, fun _ ha => h.cell ha, fun _ ha => h.frozen ha⟩

set_option maxRecDepth 100000 in
set_option maxHeartbeats 4000000 in
theorem apply_any (gb mI mE : Nat) (g : Gr) (o : Op) (w : World) (h : GrAt w gb mI mE g) (hok : g.Ok) (ht : g.Thin) (hs : o.Small) :
    Calls Tryz.prog 39 #[.pointer (some ⟨gb, 0, none⟩), o.v] w (Done gb mI mE (g.apply o) (.int .i64 (g.opWhy o)) w) := by
  obtain ⟨W0, hW0⟩ : ∃ W0, W0 = w.alloc (.cells #[.int .i64 o.stamp.t, .int .i64 o.stamp.r, .int .i64 o.kind, .int .i64 o.at_.t, .int .i64 o.at_.r, .int .i64 o.ino.t, .int .i64 o.ino.r, .int .i64 o.to.t, .int .i64 o.to.r, .string o.name, .string o.new, .int .i64 o.off, .string o.data] 42) := ⟨_, rfl⟩
  have HW : Hid (Below w.heap.size w W0) := Lib.hid (by rw [hW0]; exact (Below.refl _ _).alloc (Nat.le_refl _) _)
  have hz : w.heap.size < W0.heap.size := by rw [hW0]; simp
  have HJ : Hid (∀ W, Below W0.heap.size W0 W → (fun W : World => W.cell? ⟨w.heap.size, 0, none⟩ = some (.int .i64 o.stamp.t) ∧ W.cell? ⟨w.heap.size, 1, none⟩ = some (.int .i64 o.stamp.r) ∧ W.cell? ⟨w.heap.size, 2, none⟩ = some (.int .i64 o.kind) ∧ W.cell? ⟨w.heap.size, 3, none⟩ = some (.int .i64 o.at_.t) ∧ W.cell? ⟨w.heap.size, 4, none⟩ = some (.int .i64 o.at_.r) ∧ W.cell? ⟨w.heap.size, 5, none⟩ = some (.int .i64 o.ino.t) ∧ W.cell? ⟨w.heap.size, 6, none⟩ = some (.int .i64 o.ino.r) ∧ W.cell? ⟨w.heap.size, 7, none⟩ = some (.int .i64 o.to.t) ∧ W.cell? ⟨w.heap.size, 8, none⟩ = some (.int .i64 o.to.r) ∧ W.cell? ⟨w.heap.size, 9, none⟩ = some (.string o.name) ∧ W.cell? ⟨w.heap.size, 10, none⟩ = some (.string o.new) ∧ W.cell? ⟨w.heap.size, 11, none⟩ = some (.int .i64 o.off) ∧ W.cell? ⟨w.heap.size, 12, none⟩ = some (.string o.data)) W ∧ w.heap.size < W.heap.size) := Lib.hid (by rw [hW0]; exact fun W hW => ⟨obox hW, by have := hW.size; simp at this; omega⟩)
  have hG := h.below HW.out
  have HY := Lib.hid (why_any gb g o W0 (hG.reads hok (by have := hok.few; omega)) hs)
  have HD := Lib.hid (fun (hw : g.opWhy o = 0) W (hW : GrAt W gb mI mE g) => does_any gb mI mE g o W hW hok ht hs (opMay_kind (opWhy_may hw)).1 (opMay_kind (opWhy_may hw)).2)
  have HG := Lib.hid hG
  have HA : Hid (g.apply o = if g.opWhy o = 0 then g.does o else g) := Lib.hid rfl
  clear h hok ht hs hG
  unfold Op.v at HY ⊢
  obtain ⟨r, hr⟩ : ∃ r, r = g.opWhy o := ⟨_, rfl⟩
  rw [← hr] at HA HY HD ⊢
  clear hr
  unfold Done
  generalize g.apply o = ga at HA ⊢
  obtain ⟨⟨_, _, _, _, _, _, _, _, _, _, _, _, _⟩, _⟩ := HJ.out W0 (Below.refl _ _)
  by_cases h0 : r = 0
  · have hb : (r == 0) = true := beq_iff_eq.2 h0
    have HA2 : Hid (ga = g.does o) := Lib.hid (by rw [HA.out, if_pos h0])
    have HD2 := Lib.hid (HD.out h0)
    clear h0
    go_enter Tryz.func39, Tryz.ntmps39
    go_wp2_with fail
    rw [← hW0]
    have HW0 := Lib.hid hW0
    clear hW0
    go_wp2_with fail
    refine HY.out.mono ?_
    rintro e w1 ⟨rfl, hb1⟩
    have HG1 := Lib.hid (HG.out.below hb1)
    have HB1 := Lib.hid (HW.out.trans (hb1.mono HW.out.size))
    obtain ⟨⟨_, _, _, _, _, _, _, _, _, _, _, _, _⟩, _⟩ := HJ.out w1 hb1
    clear hb1
    go_wp2_with fail
    refine (HD2.out _ HG1.out).mono ?_
    rintro e w2 ⟨rfl, hG2, hT2⟩
    have HG2 := Lib.hid hG2
    have HT2 := Lib.hid hT2
    clear hG2 hT2
    go_wp2
    go_ret
    exact ⟨rfl, by rw [HA2.out]; exact HG2.out, (Below.turn' HB1.out _).trans HT2.out⟩
  · have hb : (r == 0) = false := beq_eq_false_iff_ne.2 h0
    have HA2 : Hid (ga = g) := Lib.hid (by rw [HA.out, if_neg h0])
    clear h0 HD
    go_enter Tryz.func39, Tryz.ntmps39
    go_wp2_with fail
    rw [← hW0]
    have HW0 := Lib.hid hW0
    clear hW0
    go_wp2_with fail
    refine HY.out.mono ?_
    rintro e w1 ⟨rfl, hb1⟩
    have HG1 := Lib.hid (HG.out.below hb1)
    have HB1 := Lib.hid (HW.out.trans (hb1.mono HW.out.size))
    clear hb1
    go_wp2
    go_ret
    exact ⟨rfl, by rw [HA2.out]; exact HG1.out, Below.turn' HB1.out _⟩

end Go.Proofs.YtfbjiaedfmdcfaaGreatDoor
