/-
  thimblelaw09.GraphFresh; no condition.
-/
import Derived.Test.YtmnkaohhjhjciaaSame
import Derived.Test.YtmnkaohhjhjciaaCellsDeed
namespace Go.Proofs.Ytmnkaohhjhjciaa
open Go.RowKit Go.Shelf Go.Proofs

set_option maxRecDepth 100000 in
set_option maxHeartbeats 4000000 in
theorem fresh_walk (v : Value) (l : List Deed) (d : Deed) (w : World) (hs : SlAt w 9 Deed.cells v l) (hn : ∀ d ∈ l, d.e.name.size ≤ maxLen) (hd : d.e.name.size ≤ maxLen) :
    Calls Try.prog 10 #[v, d.v] w fun y w' => y = .returned (.bool true) ∧ Below w.heap.size w w' := by
  have hb0 : Below w.heap.size w (w.alloc (.cells #[.int .i64 d.kind, .int .i64 d.of, .int .i64 d.mode, .int .i64 d.e.at_.t, .int .i64 d.e.at_.r, .string d.e.name, .int .i64 d.e.ino.t, .int .i64 d.e.ino.r, .string d.data] 48)) := (Below.refl _ w).alloc (Nat.le_refl _) _
  obtain ⟨W0, hW0⟩ : ∃ W0, W0 = w.alloc (.cells #[.int .i64 d.kind, .int .i64 d.of, .int .i64 d.mode, .int .i64 d.e.at_.t, .int .i64 d.e.at_.r, .string d.e.name, .int .i64 d.e.ino.t, .int .i64 d.e.ino.r, .string d.data] 48) := ⟨_, rfl⟩
  have hz0 : W0.heap.size = w.heap.size + 1 := by rw [hW0]; simp only [World.size_alloc]
  have HBX : Hid (∀ W, Below W0.heap.size W0 W → ∀ i v, (d.cells)[i]? = some v → W.cell? ⟨w.heap.size, i, none⟩ = some v) := Lib.hid fun W hW i v h =>
    (hW.cell (p := ⟨w.heap.size, i, none⟩) (by rw [hz0]; exact Nat.lt_succ_self _)).trans (by rw [hW0]; exact cell_new _ _ rfl _ _ i v (by simpa [Deed.cells] using h))
  have HB00 : Hid (Below w.heap.size w W0) := Lib.hid (by rw [hW0]; exact hb0)
  have HSL : Hid (∀ W, Below W0.heap.size W0 W → SlAt W 9 Deed.cells v l) := Lib.hid fun W hW => hs.below (HB00.out.trans (hW.mono HB00.out.size))
  obtain ⟨va, vc, rfl⟩ := hs.len
  have hlm : l.length ≤ maxLen := by
    rcases hs with ⟨_, _, _, h0⟩ | ⟨_, _, c', h0, h1, h2, _⟩
    · rw [h0]; simp
    · simp at h0; omega
  have HNM := Lib.hid hn
  have HDN := Lib.hid hd
  clear hs hn hb0 hd
  unfold maxLen at hlm
  unfold Deed.v
  go_enter Try.func10, Try.ntmps10
  go_wp2_with fail
  rw [← hW0]
  have HW0 := Lib.hid hW0
  clear hW0
  refine (shown9_any _).mono ?_
  rintro e w1 ⟨rfl, hb⟩
  have HB1 := Lib.hid hb
  clear hb
  go_wp2_with fail
  refine (new_g w1).mono ?_
  rintro e w2 ⟨v, rfl, ⟨gb, mI, mE, rfl, hG, h1, h2, h3⟩, hb⟩
  have HG := Lib.hid hG
  have HB2 := Lib.hid (HB1.out.trans (hb.mono HB1.out.size))
  have HM : Hid (W0.heap.size ≤ mI ∧ W0.heap.size ≤ mE) := Lib.hid (by have := HB1.out.size; omega)
  clear hG hb h1 h2 h3
  go_wp2
  go_loopg [7] 150 (fun gg s7 wr => ∃ i : Nat, s7 = .int .i64 i ∧ i ≤ l.length ∧ i ≤ 150 ∧ 150 - i ≤ gg ∧ Aside (GrAt wr gb mI mE (played (l.take i))) ∧ Aside (Below W0.heap.size W0 wr))
  case atStart => exact ⟨0, rfl, Nat.zero_le _, Nat.zero_le _, by omega, (show Aside _ from HG.out), (show Aside _ from HB2.out)⟩
  case round =>
    obtain ⟨i, rfl, hil, hi150, hgg, hG, hB⟩ := hrel
    have hi0 : (0 : Int) ≤ (i : Int) := by omega
    have hwi : IntKind.i64.wrap ((i : Int) + 1) = (i : Int) + 1 := wrapNat (i + 1) (by omega)
    by_cases hgo : i < l.length ∧ i < 150
    · obtain ⟨hlt, hlt2⟩ := hgo
      have hlti : (i : Int) < (l.length : Int) := by omega
      have hlti2 : (i : Int) < 150 := by omega
      obtain ⟨bb, off, rfl, hbl, hcells⟩ : ∃ b off, va = some ⟨b, off, none⟩ ∧ b < wr.heap.size ∧ ∀ j, j < l.length → ∀ i u, (Deed.cells l[j]!)[i]? = some u → wr.cell? ⟨b, off + j * 9 + i, none⟩ = some u := by
        rcases HSL.out wr hB.out with ⟨_, _, _, h0⟩ | ⟨b, off, c', h0, _, _, h3, h4⟩
        · rw [h0] at hlt; exact absurd hlt (Nat.not_lt_zero _)
        · simp at h0; exact ⟨b, off, h0.1, h3, h4⟩
      obtain ⟨x0, x1, x2, x3, x4, x5, x6, x7, x8⟩ := cellsDeed hcells i hlt
      have hdo := do_any gb mI mE (played (l.take i)) l[i]! wr hG.out (played_ok _) (HNM.out _ (getElem!_mem hlt))
      have HST := Lib.hid (played_step l i hlt)
      clear hcells
      unfold Deed.v at hdo
      generalize l[i]! = x at x0 x1 x2 x3 x4 x5 x6 x7 x8 hdo HST
      generalize played (l.take i) = G at hdo HST
      go_wp2_with (go_at_call 21; refine hdo.mono ?_; rintro e w3 ⟨rfl, hG3, hT3⟩; have HG3 := Lib.hid hG3; have HT3 := Lib.hid hT3; clear hG3 hT3)
      go_roundg (150 - (i + 1))
      case measure => omega
      case rel => exact ⟨i + 1, by first | rfl | go_num, by omega, by omega, by omega, (show Aside _ from by rw [HST.out]; exact HG3.out), (show Aside _ from hB.out.trans (own_below HT3.out HM.out.1 HM.out.2 hB.out.size))⟩
    · obtain ⟨wo, rfl⟩ : ∃ wo : World, wo = wr := ⟨_, rfl⟩
      have hOK := played_ok (l.take i)
      have HG2 := hG
      generalize played (l.take i) = G at hOK HG2
      have hlen : 0 < G.n.length := by
        obtain ⟨r, hr, _⟩ := hOK.root
        exact List.length_pos_of_mem hr
      have hl1 : (G.n.length : Int) ≤ 40 := by have := hOK.len; omega
      have hl2 : (G.e.length : Int) ≤ 240 := by have := hOK.few; omega
      have HI : Hid (∀ W, Below wo.heap.size wo W → Calls Try.prog 35 #[.pointer (some ⟨gb, 0, none⟩)] W fun e w' => ∃ v : Value, e = .returned v ∧ w'.ownsRow W.heap.size 31 6 v G.n.length (G.n.flatMap Ino.cells) ∧ Below W.heap.size W w') := Lib.hid fun W hW => inodes_any gb mI mE G W (HG2.out.below hW) hOK.sn (by omega)
      have HE : Hid (∀ W, Below wo.heap.size wo W → Calls Try.prog 34 #[.pointer (some ⟨gb, 0, none⟩)] W fun e w' => ∃ v : Value, e = .returned v ∧ w'.ownsRow W.heap.size 33 5 v G.e.length (G.e.flatMap Ent.cells) ∧ Below W.heap.size W w') := Lib.hid fun W hW => entries_any gb mI mE G W (HG2.out.below hW) hOK.se (by omega)
      have HBk0 : Hid (Below wo.heap.size wo wo) := Lib.hid (Below.refl _ _)
      have hendl : (¬ (i : Int) < (l.length : Int)) ∨ ((i : Int) < (l.length : Int) ∧ ¬ (i : Int) < 150) := by omega
      have HOK := Lib.hid hOK
      have HGG := Lib.hid HG2.out
      clear hOK HG2 hgo
      rcases hendl with hendl | ⟨hendl, hend2⟩
      all_goals
        go_wp2_with fail
        refine (HI.out _ (by first | exact HBk0.out | exact HBk0.out.alloc HBk0.out.size _ | exact (HBk0.out.alloc HBk0.out.size _).alloc (le_al HBk0.out.size) _ | exact ((HBk0.out.alloc HBk0.out.size _).alloc (le_al HBk0.out.size) _).alloc (le_al (le_al HBk0.out.size)) _)).mono ?_
        rintro e k1 ⟨vn, rfl, hon, hbk1⟩
        obtain ⟨hck1, hfk1⟩ := bcell hbk1
        have hsk1 := hbk1.size
        try simp only [World.size_alloc] at hsk1
        try simp only [size_setCell'] at hsk1
        try have lek1_0 : wo.heap.size ≤ k1.heap.size := (by omega)
        try have ltk1_0 : wo.heap.size < k1.heap.size := (by omega)
        have HBk1 : Hid (Below wo.heap.size wo k1) := Lib.hid (Below.trans (by first | exact HBk0.out | exact HBk0.out.alloc HBk0.out.size _ | exact (HBk0.out.alloc HBk0.out.size _).alloc (le_al HBk0.out.size) _ | exact ((HBk0.out.alloc HBk0.out.size _).alloc (le_al HBk0.out.size) _).alloc (le_al (le_al HBk0.out.size)) _) (hbk1.mono (by (try simp only [World.size_alloc]); (try simp only [size_setCell']); omega)))
        have HNk1 := Lib.hid hbk1
        clear hbk1 hsk1
        have HSn := Lib.hid (slAt_ownI hon)
        clear hon
        go_wp2_with fail
        refine (HE.out _ (by first | exact HBk1.out | exact HBk1.out.alloc HBk1.out.size _ | exact (HBk1.out.alloc HBk1.out.size _).alloc (le_al HBk1.out.size) _ | exact ((HBk1.out.alloc HBk1.out.size _).alloc (le_al HBk1.out.size) _).alloc (le_al (le_al HBk1.out.size)) _ | exact HBk0.out | exact HBk0.out.alloc HBk0.out.size _ | exact (HBk0.out.alloc HBk0.out.size _).alloc (le_al HBk0.out.size) _ | exact ((HBk0.out.alloc HBk0.out.size _).alloc (le_al HBk0.out.size) _).alloc (le_al (le_al HBk0.out.size)) _)).mono ?_
        rintro e k2 ⟨ve, rfl, hoe, hbk2⟩
        obtain ⟨hck2, hfk2⟩ := bcell hbk2
        have hsk2 := hbk2.size
        try simp only [World.size_alloc] at hsk2
        try simp only [size_setCell'] at hsk2
        try have lek2_0 : wo.heap.size ≤ k2.heap.size := (by omega)
        try have ltk2_0 : wo.heap.size < k2.heap.size := (by omega)
        try have lek2_1 : k1.heap.size ≤ k2.heap.size := (by omega)
        try have ltk2_1 : k1.heap.size < k2.heap.size := (by omega)
        have HBk2 : Hid (Below wo.heap.size wo k2) := Lib.hid (Below.trans (by first | exact HBk1.out | exact HBk1.out.alloc HBk1.out.size _ | exact (HBk1.out.alloc HBk1.out.size _).alloc (le_al HBk1.out.size) _ | exact ((HBk1.out.alloc HBk1.out.size _).alloc (le_al HBk1.out.size) _).alloc (le_al (le_al HBk1.out.size)) _ | exact HBk0.out | exact HBk0.out.alloc HBk0.out.size _ | exact (HBk0.out.alloc HBk0.out.size _).alloc (le_al HBk0.out.size) _ | exact ((HBk0.out.alloc HBk0.out.size _).alloc (le_al HBk0.out.size) _).alloc (le_al (le_al HBk0.out.size)) _) (hbk2.mono (by (try simp only [World.size_alloc]); (try simp only [size_setCell']); omega)))
        have HNk2 := Lib.hid hbk2
        clear hbk2 hsk2
        have HSe := Lib.hid (slAt_own hoe)
        clear hoe
        go_wp2_with fail
        refine (HI.out _ (by first | exact HBk2.out | exact HBk2.out.alloc HBk2.out.size _ | exact (HBk2.out.alloc HBk2.out.size _).alloc (le_al HBk2.out.size) _ | exact ((HBk2.out.alloc HBk2.out.size _).alloc (le_al HBk2.out.size) _).alloc (le_al (le_al HBk2.out.size)) _ | exact HBk1.out | exact HBk1.out.alloc HBk1.out.size _ | exact (HBk1.out.alloc HBk1.out.size _).alloc (le_al HBk1.out.size) _ | exact ((HBk1.out.alloc HBk1.out.size _).alloc (le_al HBk1.out.size) _).alloc (le_al (le_al HBk1.out.size)) _ | exact HBk0.out | exact HBk0.out.alloc HBk0.out.size _ | exact (HBk0.out.alloc HBk0.out.size _).alloc (le_al HBk0.out.size) _ | exact ((HBk0.out.alloc HBk0.out.size _).alloc (le_al HBk0.out.size) _).alloc (le_al (le_al HBk0.out.size)) _)).mono ?_
        rintro e k3 ⟨vm, rfl, hom, hbk3⟩
        obtain ⟨hck3, hfk3⟩ := bcell hbk3
        have hsk3 := hbk3.size
        try simp only [World.size_alloc] at hsk3
        try simp only [size_setCell'] at hsk3
        try have lek3_0 : wo.heap.size ≤ k3.heap.size := (by omega)
        try have ltk3_0 : wo.heap.size < k3.heap.size := (by omega)
        try have lek3_1 : k1.heap.size ≤ k3.heap.size := (by omega)
        try have ltk3_1 : k1.heap.size < k3.heap.size := (by omega)
        try have lek3_2 : k2.heap.size ≤ k3.heap.size := (by omega)
        try have ltk3_2 : k2.heap.size < k3.heap.size := (by omega)
        have HBk3 : Hid (Below wo.heap.size wo k3) := Lib.hid (Below.trans (by first | exact HBk2.out | exact HBk2.out.alloc HBk2.out.size _ | exact (HBk2.out.alloc HBk2.out.size _).alloc (le_al HBk2.out.size) _ | exact ((HBk2.out.alloc HBk2.out.size _).alloc (le_al HBk2.out.size) _).alloc (le_al (le_al HBk2.out.size)) _ | exact HBk1.out | exact HBk1.out.alloc HBk1.out.size _ | exact (HBk1.out.alloc HBk1.out.size _).alloc (le_al HBk1.out.size) _ | exact ((HBk1.out.alloc HBk1.out.size _).alloc (le_al HBk1.out.size) _).alloc (le_al (le_al HBk1.out.size)) _ | exact HBk0.out | exact HBk0.out.alloc HBk0.out.size _ | exact (HBk0.out.alloc HBk0.out.size _).alloc (le_al HBk0.out.size) _ | exact ((HBk0.out.alloc HBk0.out.size _).alloc (le_al HBk0.out.size) _).alloc (le_al (le_al HBk0.out.size)) _) (hbk3.mono (by (try simp only [World.size_alloc]); (try simp only [size_setCell']); omega)))
        have HNk3 := Lib.hid hbk3
        clear hbk3 hsk3
        go_wp2_with fail
        refine (HE.out _ (by first | exact HBk3.out | exact HBk3.out.alloc HBk3.out.size _ | exact (HBk3.out.alloc HBk3.out.size _).alloc (le_al HBk3.out.size) _ | exact ((HBk3.out.alloc HBk3.out.size _).alloc (le_al HBk3.out.size) _).alloc (le_al (le_al HBk3.out.size)) _ | exact HBk2.out | exact HBk2.out.alloc HBk2.out.size _ | exact (HBk2.out.alloc HBk2.out.size _).alloc (le_al HBk2.out.size) _ | exact ((HBk2.out.alloc HBk2.out.size _).alloc (le_al HBk2.out.size) _).alloc (le_al (le_al HBk2.out.size)) _ | exact HBk1.out | exact HBk1.out.alloc HBk1.out.size _ | exact (HBk1.out.alloc HBk1.out.size _).alloc (le_al HBk1.out.size) _ | exact ((HBk1.out.alloc HBk1.out.size _).alloc (le_al HBk1.out.size) _).alloc (le_al (le_al HBk1.out.size)) _)).mono ?_
        rintro e k4 ⟨vf, rfl, hof, hbk4⟩
        obtain ⟨hck4, hfk4⟩ := bcell hbk4
        have hsk4 := hbk4.size
        try simp only [World.size_alloc] at hsk4
        try simp only [size_setCell'] at hsk4
        try have lek4_0 : wo.heap.size ≤ k4.heap.size := (by omega)
        try have ltk4_0 : wo.heap.size < k4.heap.size := (by omega)
        try have lek4_1 : k1.heap.size ≤ k4.heap.size := (by omega)
        try have ltk4_1 : k1.heap.size < k4.heap.size := (by omega)
        try have lek4_2 : k2.heap.size ≤ k4.heap.size := (by omega)
        try have ltk4_2 : k2.heap.size < k4.heap.size := (by omega)
        try have lek4_3 : k3.heap.size ≤ k4.heap.size := (by omega)
        try have ltk4_3 : k3.heap.size < k4.heap.size := (by omega)
        have HBk4 : Hid (Below wo.heap.size wo k4) := Lib.hid (Below.trans (by first | exact HBk3.out | exact HBk3.out.alloc HBk3.out.size _ | exact (HBk3.out.alloc HBk3.out.size _).alloc (le_al HBk3.out.size) _ | exact ((HBk3.out.alloc HBk3.out.size _).alloc (le_al HBk3.out.size) _).alloc (le_al (le_al HBk3.out.size)) _ | exact HBk2.out | exact HBk2.out.alloc HBk2.out.size _ | exact (HBk2.out.alloc HBk2.out.size _).alloc (le_al HBk2.out.size) _ | exact ((HBk2.out.alloc HBk2.out.size _).alloc (le_al HBk2.out.size) _).alloc (le_al (le_al HBk2.out.size)) _ | exact HBk1.out | exact HBk1.out.alloc HBk1.out.size _ | exact (HBk1.out.alloc HBk1.out.size _).alloc (le_al HBk1.out.size) _ | exact ((HBk1.out.alloc HBk1.out.size _).alloc (le_al HBk1.out.size) _).alloc (le_al (le_al HBk1.out.size)) _) (hbk4.mono (by (try simp only [World.size_alloc]); (try simp only [size_setCell']); omega)))
        have HNk4 := Lib.hid hbk4
        clear hbk4 hsk4
        have HF := Lib.hid hof
        obtain ⟨af, cf, rfl⟩ := ownsRow_len hof
        rcases hom.2 with ⟨_, h0⟩ | ⟨gm, cap, cur, rfl, hgm, hh, h1, h2, h3, h4⟩
        · omega
        have hmode : ∀ j, j < G.n.length → ∃ z, cur[j * 6 + 4]? = some (.int .i64 z) := by
          intro j hj
          have e := flatMap_at Ino.cells 6 (fun _ => rfl) G.n j 4 hj (by omega)
          rw [← h4, List.getElem?_take, if_pos (by omega)] at e
          exact ⟨_, by rw [← Array.getElem?_toList]; exact e⟩
        have hgl := (Array.getElem?_eq_some_iff.1 hh).1
        have HROW : Hid (∃ cur, k4.heap[gm]? = some (.cells cur 31 (0, 0)) ∧ cur.size = cap * 6 ∧ ∀ j, j < G.n.length → ∃ z, cur[j * 6 + 4]? = some (.int .i64 z)) := Lib.hid ⟨cur, (HNk4.out.block _ hgl).trans hh, h3, hmode⟩
        have HGM : Hid (k2.heap.size ≤ gm ∧ gm < k3.heap.size) := Lib.hid ⟨hgm, hgl⟩
        have HCAP := Lib.hid h1
        clear hom hof hmode hh h3 h4 hgm h2 h1
        go_wp2
        go_loopg [12] G.n.length (fun gg s12 wr => ∃ k : Nat, s12 = .int .i64 k ∧ k ≤ G.n.length ∧ G.n.length - k ≤ gg ∧ Aside (∃ cur, wr.heap[gm]? = some (.cells cur 31 (0, 0)) ∧ cur.size = cap * 6 ∧ ∀ j, j < G.n.length → ∃ z, cur[j * 6 + 4]? = some (.int .i64 z)) ∧ Aside (Below k2.heap.size k4 wr ∧ wr.heap.size = k4.heap.size ∧ ∀ j, j ≠ gm → wr.heap[j]? = k4.heap[j]?))
        case atStart => exact ⟨0, rfl, Nat.zero_le _, by omega, (show Aside _ from HROW.out), (show Aside _ from ⟨Below.refl _ _, rfl, fun _ _ => rfl⟩)⟩
        case round =>
          obtain ⟨k, rfl, hk, hgg, hrow, hB2⟩ := hrel
          by_cases hlt : k < G.n.length
          · have hlti : (k : Int) < (G.n.length : Int) := by omega
            have hk0 : (0 : Int) ≤ (k : Int) := by omega
            have hwk : IntKind.i64.wrap ((k : Int) + 1) = (k : Int) + 1 := wrapNat (k + 1) (by omega)
            obtain ⟨cur', hh, hs, hz⟩ := hrow.out
            obtain ⟨z, hz1⟩ := hz k hlt
            have x0 : wr.cell? ⟨gm, k * 6 + 4, none⟩ = some (.int .i64 z) := cell_at hh _ _ hz1
            have f0 : wr.frozen? ⟨gm, k * 6 + 4, none⟩ = false := frozen_at hh _
            have HR : Hid (wr.heap[gm]? = some (.cells cur' 31 (0, 0)) ∧ cur'.size = cap * 6 ∧ ∀ j, j < G.n.length → ∃ z, cur'[j * 6 + 4]? = some (.int .i64 z)) := Lib.hid ⟨hh, hs, hz⟩
            clear hh hs hz hz1 hrow
            go_wp2
            go_roundg (G.n.length - (k + 1))
            case measure => omega
            case rel =>
              refine ⟨k + 1, by first | rfl | go_num, by omega, by omega, (show Aside _ from ⟨_, heap_setCell_at HR.out.1 _ _, by simp [HR.out.2.1], fun j hj => ?_⟩), (show Aside _ from ⟨hB2.out.1.setCell (p := ⟨gm, k * 6 + 4, none⟩) HGM.out.1 _, by rw [size_setCell']; exact hB2.out.2.1, fun j hj => (heap_setCell_other _ ⟨gm, k * 6 + 4, none⟩ j _ hj).trans (hB2.out.2.2 j hj)⟩)⟩
              obtain ⟨z', hz'⟩ := HR.out.2.2 j hj
              by_cases hjk : j = k
              · subst hjk
                have : j * 6 + 4 < cur'.size := by have := HR.out.2.1; have := HCAP.out; omega
                exact ⟨_, by rw [Array.getElem?_setIfInBounds, if_pos rfl, if_pos this]⟩
              · exact ⟨z', by rw [Array.getElem?_setIfInBounds, if_neg (by omega)]; exact hz'⟩
          · have hlti : ¬ (k : Int) < (G.n.length : Int) := by omega
            obtain ⟨wm, rfl⟩ : ∃ wm : World, wm = wr := ⟨_, rfl⟩
            have HROF : Hid (0 < G.e.length → ∃ gf cur, af = some ⟨gf, 0, none⟩ ∧ k3.heap.size ≤ gf ∧ wm.heap[gf]? = some (.cells cur 33 (0, 0)) ∧ G.e.length * 5 ≤ cur.size) := Lib.hid fun hpos => by
              rcases HF.out.2 with ⟨h, h0⟩ | ⟨gf, capf, curf, hvf, hgf, hhf, hf1, hf2, hf3, hf4⟩
              · omega
              · simp only [Value.slice.injEq] at hvf
                refine ⟨gf, curf, hvf.1, hgf, (hB2.out.2.2 gf (by have := HGM.out; omega)).trans hhf, by rw [hf3]; exact Nat.mul_le_mul_right 5 hf1⟩
            have HBM := Lib.hid hB2.out
            have hkg : G.n.length - k ≤ 0 := by omega
            clear hrow hB2
            go_wp2
            go_loopg [13] G.e.length (fun gg s13 wr => ∃ k : Nat, s13 = .int .i64 k ∧ k ≤ G.e.length ∧ G.e.length - k ≤ gg ∧ Aside (0 < G.e.length → ∃ gf cur, af = some ⟨gf, 0, none⟩ ∧ k3.heap.size ≤ gf ∧ wr.heap[gf]? = some (.cells cur 33 (0, 0)) ∧ G.e.length * 5 ≤ cur.size) ∧ Aside (Below k2.heap.size k4 wr))
            case atStart => exact ⟨0, rfl, Nat.zero_le _, by omega, (show Aside _ from HROF.out), (show Aside _ from HBM.out.1)⟩
            case round =>
              obtain ⟨k', rfl, hk', hgg', hrow, hB3⟩ := hrel
              by_cases hlt' : k' < G.e.length
              · have hlti' : (k' : Int) < (G.e.length : Int) := by omega
                have hk0' : (0 : Int) ≤ (k' : Int) := by omega
                have hwk' : IntKind.i64.wrap ((k' : Int) + 1) = (k' : Int) + 1 := wrapNat (k' + 1) (by omega)
                obtain ⟨gf, cur', haf, hgf, hh, hs⟩ := hrow.out (by omega)
                subst haf
                have hlc : k' * 5 + 2 < cur'.size := by omega
                obtain ⟨v0, x0⟩ : ∃ v, wr.cell? ⟨gf, k' * 5 + 2, none⟩ = some v := ⟨_, cell_at hh _ _ (Array.getElem?_eq_getElem hlc)⟩
                have f0 : wr.frozen? ⟨gf, k' * 5 + 2, none⟩ = false := frozen_at hh _
                have HR : Hid (k3.heap.size ≤ gf ∧ wr.heap[gf]? = some (.cells cur' 33 (0, 0)) ∧ G.e.length * 5 ≤ cur'.size) := Lib.hid ⟨hgf, hh, hs⟩
                clear hh hs hrow hlc hgf
                go_wp2
                go_roundg (G.e.length - (k' + 1))
                case measure => omega
                case rel =>
                  exact ⟨k' + 1, by first | rfl | go_num, by omega, by omega, (show Aside _ from fun _ => ⟨gf, _, rfl, HR.out.1, heap_setCell_at HR.out.2.1 _ _, by simp; exact HR.out.2.2⟩), (show Aside _ from hB3.out.setCell (p := ⟨gf, k' * 5 + 2, none⟩) (by have := HR.out.1; have := HGM.out; show k2.heap.size ≤ gf; omega) _)⟩
              · have hlti' : ¬ (k' : Int) < (G.e.length : Int) := by omega
                obtain ⟨wq, rfl⟩ : ∃ wq : World, wq = wr := ⟨_, rfl⟩
                have b14 : Below k1.heap.size k1 wq := (HNk2.out.trans (HNk3.out.mono (by omega))).trans ((HNk4.out.mono (by omega)).trans (hB3.out.mono (by omega)))
                have b24 : Below k2.heap.size k2 wq := HNk3.out.trans ((HNk4.out.mono (by omega)).trans hB3.out)
                have b04 : Below wo.heap.size wo wq := HBk4.out.trans (hB3.out.mono (by omega))
                have HSN : Hid (∀ W, Below wq.heap.size wq W → SlAt W 6 Ino.cells vn G.n) := Lib.hid fun W hW => HSn.out.below (b14.trans (hW.mono b14.size))
                have HSE : Hid (∀ W, Below wq.heap.size wq W → SlAt W 5 Ent.cells ve G.e) := Lib.hid fun W hW => HSe.out.below (b24.trans (hW.mono b24.size))
                have HIq : Hid (∀ W, Below wq.heap.size wq W → Calls Try.prog 35 #[.pointer (some ⟨gb, 0, none⟩)] W fun e w' => ∃ v : Value, e = .returned v ∧ w'.ownsRow W.heap.size 31 6 v G.n.length (G.n.flatMap Ino.cells) ∧ Below W.heap.size W w') := Lib.hid fun W hW => HI.out W (b04.trans (hW.mono b04.size))
                have HEq : Hid (∀ W, Below wq.heap.size wq W → Calls Try.prog 34 #[.pointer (some ⟨gb, 0, none⟩)] W fun e w' => ∃ v : Value, e = .returned v ∧ w'.ownsRow W.heap.size 33 5 v G.e.length (G.e.flatMap Ent.cells) ∧ Below W.heap.size W w') := Lib.hid fun W hW => HE.out W (b04.trans (hW.mono b04.size))
                have HCq : Hid (Calls Try.prog 36 #[.pointer (some ⟨gb, 0, none⟩)] wq (MadeGr wq G)) := Lib.hid (copy_g gb mI mE G wq (HGG.out.below b04))
                have hBW : Below W0.heap.size W0 wq := hB.out.trans (b04.mono hB.out.size)
                have HXq : Hid (∀ W, Below wq.heap.size wq W → ∀ i v, (d.cells)[i]? = some v → W.cell? ⟨w.heap.size, i, none⟩ = some v) := Lib.hid fun W hW => HBX.out W (hBW.trans (hW.mono hBW.size))
                have HBQ : Hid (Below w.heap.size w wq) := Lib.hid (HB00.out.trans (hBW.mono HB00.out.size))
                have HBq0 : Hid (Below wq.heap.size wq wq) := Lib.hid (Below.refl _ _)
                clear b14 b24 b04 hBW HI HE HSn HSe hB3 hrow
                go_wp2_with fail
                refine HCq.out.mono ?_
                rintro e q1 ⟨v, rfl, ⟨cb, cI, cE, rfl, hGc, z1, z2, z3⟩, hb1⟩
                have HBq1 := Lib.hid hb1
                have HX1 := HXq.out q1 hb1
                have d0 := HX1 0 _ rfl
                have d1 := HX1 1 _ rfl
                have d2 := HX1 2 _ rfl
                have d3 := HX1 3 _ rfl
                have d4 := HX1 4 _ rfl
                have d5 := HX1 5 _ rfl
                have d6 := HX1 6 _ rfl
                have d7 := HX1 7 _ rfl
                have d8 := HX1 8 _ rfl
                have hdo := do_any cb cI cE G d q1 hGc HOK.out HDN.out
                unfold Deed.v at hdo
                clear hGc HX1 hb1
                go_wp2_with fail
                refine hdo.mono ?_
                rintro e q2 ⟨rfl, _, hT⟩
                have HBq2 := Lib.hid (HBq1.out.trans (own_below hT z2 z3 HBq1.out.size))
                have leq2_0 : wq.heap.size ≤ q2.heap.size := HBq2.out.size
                clear hT hdo
                go_wp2_with fail
                refine (HIq.out _ (by first | exact HBq2.out | exact HBq2.out.alloc HBq2.out.size _ | exact (HBq2.out.alloc HBq2.out.size _).alloc (le_al HBq2.out.size) _ | exact ((HBq2.out.alloc HBq2.out.size _).alloc (le_al HBq2.out.size) _).alloc (le_al (le_al HBq2.out.size)) _ | exact HBq1.out | exact HBq1.out.alloc HBq1.out.size _ | exact (HBq1.out.alloc HBq1.out.size _).alloc (le_al HBq1.out.size) _ | exact ((HBq1.out.alloc HBq1.out.size _).alloc (le_al HBq1.out.size) _).alloc (le_al (le_al HBq1.out.size)) _ | exact HBq0.out | exact HBq0.out.alloc HBq0.out.size _ | exact (HBq0.out.alloc HBq0.out.size _).alloc (le_al HBq0.out.size) _ | exact ((HBq0.out.alloc HBq0.out.size _).alloc (le_al HBq0.out.size) _).alloc (le_al (le_al HBq0.out.size)) _)).mono ?_
                rintro e q3 ⟨v3, rfl, ho, hbq3⟩
                obtain ⟨hcq3, hfq3⟩ := bcell hbq3
                have hsq3 := hbq3.size
                try simp only [World.size_alloc] at hsq3
                try simp only [size_setCell'] at hsq3
                try have leq3_0 : wq.heap.size ≤ q3.heap.size := (by omega)
                try have ltq3_0 : wq.heap.size < q3.heap.size := (by omega)
                try have leq3_1 : q1.heap.size ≤ q3.heap.size := (by omega)
                try have ltq3_1 : q1.heap.size < q3.heap.size := (by omega)
                try have leq3_2 : q2.heap.size ≤ q3.heap.size := (by omega)
                try have ltq3_2 : q2.heap.size < q3.heap.size := (by omega)
                have HBq3 : Hid (Below wq.heap.size wq q3) := Lib.hid (Below.trans (by first | exact HBq2.out | exact HBq2.out.alloc HBq2.out.size _ | exact (HBq2.out.alloc HBq2.out.size _).alloc (le_al HBq2.out.size) _ | exact ((HBq2.out.alloc HBq2.out.size _).alloc (le_al HBq2.out.size) _).alloc (le_al (le_al HBq2.out.size)) _ | exact HBq1.out | exact HBq1.out.alloc HBq1.out.size _ | exact (HBq1.out.alloc HBq1.out.size _).alloc (le_al HBq1.out.size) _ | exact ((HBq1.out.alloc HBq1.out.size _).alloc (le_al HBq1.out.size) _).alloc (le_al (le_al HBq1.out.size)) _ | exact HBq0.out | exact HBq0.out.alloc HBq0.out.size _ | exact (HBq0.out.alloc HBq0.out.size _).alloc (le_al HBq0.out.size) _ | exact ((HBq0.out.alloc HBq0.out.size _).alloc (le_al HBq0.out.size) _).alloc (le_al (le_al HBq0.out.size)) _) (hbq3.mono (by (try simp only [World.size_alloc]); (try simp only [size_setCell']); omega)))
                have HNq3 := Lib.hid hbq3
                clear hbq3 hsq3
                have HN3 := Lib.hid (nodes_same v3 vn G.n G.n _ (slAt_ownI ho) (HSN.out _ (by first | exact HBq3.out | exact HBq3.out.alloc HBq3.out.size _ | exact (HBq3.out.alloc HBq3.out.size _).alloc (le_al HBq3.out.size) _ | exact ((HBq3.out.alloc HBq3.out.size _).alloc (le_al HBq3.out.size) _).alloc (le_al (le_al HBq3.out.size)) _)) (by omega))
                clear ho
                go_wp2_with fail
                refine (HN3.out).mono ?_
                rintro e q4 ⟨b4, rfl, hb4, hbq4⟩
                obtain ⟨hcq4, hfq4⟩ := bcell hbq4
                have hsq4 := hbq4.size
                try simp only [World.size_alloc] at hsq4
                try simp only [size_setCell'] at hsq4
                try have leq4_0 : wq.heap.size ≤ q4.heap.size := (by omega)
                try have ltq4_0 : wq.heap.size < q4.heap.size := (by omega)
                try have leq4_1 : q1.heap.size ≤ q4.heap.size := (by omega)
                try have ltq4_1 : q1.heap.size < q4.heap.size := (by omega)
                try have leq4_2 : q2.heap.size ≤ q4.heap.size := (by omega)
                try have ltq4_2 : q2.heap.size < q4.heap.size := (by omega)
                try have leq4_3 : q3.heap.size ≤ q4.heap.size := (by omega)
                try have ltq4_3 : q3.heap.size < q4.heap.size := (by omega)
                have HBq4 : Hid (Below wq.heap.size wq q4) := Lib.hid (Below.trans (by first | exact HBq3.out | exact HBq3.out.alloc HBq3.out.size _ | exact (HBq3.out.alloc HBq3.out.size _).alloc (le_al HBq3.out.size) _ | exact ((HBq3.out.alloc HBq3.out.size _).alloc (le_al HBq3.out.size) _).alloc (le_al (le_al HBq3.out.size)) _ | exact HBq2.out | exact HBq2.out.alloc HBq2.out.size _ | exact (HBq2.out.alloc HBq2.out.size _).alloc (le_al HBq2.out.size) _ | exact ((HBq2.out.alloc HBq2.out.size _).alloc (le_al HBq2.out.size) _).alloc (le_al (le_al HBq2.out.size)) _ | exact HBq1.out | exact HBq1.out.alloc HBq1.out.size _ | exact (HBq1.out.alloc HBq1.out.size _).alloc (le_al HBq1.out.size) _ | exact ((HBq1.out.alloc HBq1.out.size _).alloc (le_al HBq1.out.size) _).alloc (le_al (le_al HBq1.out.size)) _) (hbq4.mono (by (try simp only [World.size_alloc]); (try simp only [size_setCell']); omega)))
                have HNq4 := Lib.hid hbq4
                clear hbq4 hsq4
                obtain rfl := hb4 rfl
                go_wp2_with fail
                refine (HEq.out _ (by first | exact HBq4.out | exact HBq4.out.alloc HBq4.out.size _ | exact (HBq4.out.alloc HBq4.out.size _).alloc (le_al HBq4.out.size) _ | exact ((HBq4.out.alloc HBq4.out.size _).alloc (le_al HBq4.out.size) _).alloc (le_al (le_al HBq4.out.size)) _ | exact HBq3.out | exact HBq3.out.alloc HBq3.out.size _ | exact (HBq3.out.alloc HBq3.out.size _).alloc (le_al HBq3.out.size) _ | exact ((HBq3.out.alloc HBq3.out.size _).alloc (le_al HBq3.out.size) _).alloc (le_al (le_al HBq3.out.size)) _ | exact HBq2.out | exact HBq2.out.alloc HBq2.out.size _ | exact (HBq2.out.alloc HBq2.out.size _).alloc (le_al HBq2.out.size) _ | exact ((HBq2.out.alloc HBq2.out.size _).alloc (le_al HBq2.out.size) _).alloc (le_al (le_al HBq2.out.size)) _)).mono ?_
                rintro e q5 ⟨v5, rfl, ho, hbq5⟩
                obtain ⟨hcq5, hfq5⟩ := bcell hbq5
                have hsq5 := hbq5.size
                try simp only [World.size_alloc] at hsq5
                try simp only [size_setCell'] at hsq5
                try have leq5_0 : wq.heap.size ≤ q5.heap.size := (by omega)
                try have ltq5_0 : wq.heap.size < q5.heap.size := (by omega)
                try have leq5_1 : q1.heap.size ≤ q5.heap.size := (by omega)
                try have ltq5_1 : q1.heap.size < q5.heap.size := (by omega)
                try have leq5_2 : q2.heap.size ≤ q5.heap.size := (by omega)
                try have ltq5_2 : q2.heap.size < q5.heap.size := (by omega)
                try have leq5_3 : q3.heap.size ≤ q5.heap.size := (by omega)
                try have ltq5_3 : q3.heap.size < q5.heap.size := (by omega)
                try have leq5_4 : q4.heap.size ≤ q5.heap.size := (by omega)
                try have ltq5_4 : q4.heap.size < q5.heap.size := (by omega)
                have HBq5 : Hid (Below wq.heap.size wq q5) := Lib.hid (Below.trans (by first | exact HBq4.out | exact HBq4.out.alloc HBq4.out.size _ | exact (HBq4.out.alloc HBq4.out.size _).alloc (le_al HBq4.out.size) _ | exact ((HBq4.out.alloc HBq4.out.size _).alloc (le_al HBq4.out.size) _).alloc (le_al (le_al HBq4.out.size)) _ | exact HBq3.out | exact HBq3.out.alloc HBq3.out.size _ | exact (HBq3.out.alloc HBq3.out.size _).alloc (le_al HBq3.out.size) _ | exact ((HBq3.out.alloc HBq3.out.size _).alloc (le_al HBq3.out.size) _).alloc (le_al (le_al HBq3.out.size)) _ | exact HBq2.out | exact HBq2.out.alloc HBq2.out.size _ | exact (HBq2.out.alloc HBq2.out.size _).alloc (le_al HBq2.out.size) _ | exact ((HBq2.out.alloc HBq2.out.size _).alloc (le_al HBq2.out.size) _).alloc (le_al (le_al HBq2.out.size)) _) (hbq5.mono (by (try simp only [World.size_alloc]); (try simp only [size_setCell']); omega)))
                have HNq5 := Lib.hid hbq5
                clear hbq5 hsq5
                have HN5 := Lib.hid (entries_same v5 ve G.e G.e _ (slAt_own ho) (HSE.out _ (by first | exact HBq5.out | exact HBq5.out.alloc HBq5.out.size _ | exact (HBq5.out.alloc HBq5.out.size _).alloc (le_al HBq5.out.size) _ | exact ((HBq5.out.alloc HBq5.out.size _).alloc (le_al HBq5.out.size) _).alloc (le_al (le_al HBq5.out.size)) _)) (by omega))
                clear ho
                go_wp2_with fail
                refine (HN5.out).mono ?_
                rintro e q6 ⟨b6, rfl, hb6, hbq6⟩
                obtain ⟨hcq6, hfq6⟩ := bcell hbq6
                have hsq6 := hbq6.size
                try simp only [World.size_alloc] at hsq6
                try simp only [size_setCell'] at hsq6
                try have leq6_0 : wq.heap.size ≤ q6.heap.size := (by omega)
                try have ltq6_0 : wq.heap.size < q6.heap.size := (by omega)
                try have leq6_1 : q1.heap.size ≤ q6.heap.size := (by omega)
                try have ltq6_1 : q1.heap.size < q6.heap.size := (by omega)
                try have leq6_2 : q2.heap.size ≤ q6.heap.size := (by omega)
                try have ltq6_2 : q2.heap.size < q6.heap.size := (by omega)
                try have leq6_3 : q3.heap.size ≤ q6.heap.size := (by omega)
                try have ltq6_3 : q3.heap.size < q6.heap.size := (by omega)
                try have leq6_4 : q4.heap.size ≤ q6.heap.size := (by omega)
                try have ltq6_4 : q4.heap.size < q6.heap.size := (by omega)
                try have leq6_5 : q5.heap.size ≤ q6.heap.size := (by omega)
                try have ltq6_5 : q5.heap.size < q6.heap.size := (by omega)
                have HBq6 : Hid (Below wq.heap.size wq q6) := Lib.hid (Below.trans (by first | exact HBq5.out | exact HBq5.out.alloc HBq5.out.size _ | exact (HBq5.out.alloc HBq5.out.size _).alloc (le_al HBq5.out.size) _ | exact ((HBq5.out.alloc HBq5.out.size _).alloc (le_al HBq5.out.size) _).alloc (le_al (le_al HBq5.out.size)) _ | exact HBq4.out | exact HBq4.out.alloc HBq4.out.size _ | exact (HBq4.out.alloc HBq4.out.size _).alloc (le_al HBq4.out.size) _ | exact ((HBq4.out.alloc HBq4.out.size _).alloc (le_al HBq4.out.size) _).alloc (le_al (le_al HBq4.out.size)) _ | exact HBq3.out | exact HBq3.out.alloc HBq3.out.size _ | exact (HBq3.out.alloc HBq3.out.size _).alloc (le_al HBq3.out.size) _ | exact ((HBq3.out.alloc HBq3.out.size _).alloc (le_al HBq3.out.size) _).alloc (le_al (le_al HBq3.out.size)) _) (hbq6.mono (by (try simp only [World.size_alloc]); (try simp only [size_setCell']); omega)))
                have HNq6 := Lib.hid hbq6
                clear hbq6 hsq6
                obtain rfl := hb6 rfl
                go_wp2
                go_ret
                exact ⟨rfl, HBQ.out.trans (HBq6.out.mono HBQ.out.size)⟩
end Go.Proofs.Ytmnkaohhjhjciaa
