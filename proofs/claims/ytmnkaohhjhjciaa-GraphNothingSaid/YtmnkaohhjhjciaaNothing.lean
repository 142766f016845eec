/-
  thimblelaw09.GraphNothing; no condition.
-/
import Derived.Test.YtmnkaohhjhjciaaSame
import Derived.Test.YtmnkaohhjhjciaaCellsDeed
import Derived.Test.YtmnkaohhjhjciaaNil
namespace Go.Proofs.Ytmnkaohhjhjciaa
open Go.RowKit Go.Shelf Go.Proofs

theorem Gr.deed_err {g : Gr} {d : Deed} (h : g.deedWhy d ≠ 0) : g.deed d = g := by
  unfold Gr.deedWhy at h
  unfold Gr.deed
  by_cases k0 : d.kind = 0
  · rw [if_pos k0] at h ⊢; unfold Gr.make; rw [if_neg h]
  · rw [if_neg k0] at h ⊢
    by_cases k1 : d.kind = 1
    · rw [if_pos k1] at h ⊢; unfold Gr.tie; rw [if_neg h]
    · rw [if_neg k1] at h ⊢
      by_cases k2 : d.kind = 2
      · rw [if_pos k2] at h ⊢
        unfold Gr.untieWhy at h
        unfold Gr.untie
        cases hl : g.look d.e.pl with
        | none => rfl
        | some id => rw [hl] at h; exact absurd rfl h
      · rw [if_neg k2] at h ⊢
        by_cases k3 : d.kind = 3
        · rw [if_pos k3] at h ⊢; unfold Gr.drop; rw [if_neg h]
        · rw [if_neg k3] at h ⊢; rw [if_neg h]

theorem filter_keep {α : Type} {p : α → Bool} {l : List α} (h : ∀ a ∈ l, p a = true) : l.filter p = l := List.filter_eq_self.2 h

theorem Gr.Ok.untied_tied {g : Gr} (h : g.Ok) {x : Ent} (h0 : g.tieWhy x = 0) : (g.tied x).look x.pl = some x.ino ∧ (g.tied x).untied x.pl x.ino = g := by
  obtain ⟨_, _, _, hlook, _, _⟩ := Gr.tieWhy_zero h0
  have hno := Gr.look_none hlook
  constructor
  · exact (h.tie h0).look_iff.2 ⟨x, putIn_mem.2 (.inl rfl), rfl, rfl⟩
  · have hn : (g.tied x).upd x.ino (moreLinks (-1)) = g.n := by
      unfold Gr.upd Gr.tied Gr.upd
      rw [List.map_map]
      conv => rhs; rw [← List.map_id g.n]
      apply List.map_congr_left
      intro i _
      simp only [Function.comp, id]
      by_cases hi : i.id = x.ino
      · rw [if_pos hi]
        have : (moreLinks 1 i).id = x.ino := hi
        rw [if_pos this]
        obtain ⟨a, b, c, d, e⟩ := i
        simp only [moreLinks, Ino.mk.injEq, and_true, true_and]
        omega
      · rw [if_neg hi, if_neg hi]
    have he : (g.tied x).e.filter (fun y => decide (y.pl ≠ x.pl)) = g.e := by
      show (putIn Ent.pl ltPl x g.e).filter _ = g.e
      unfold putIn
      rw [List.filter_append, List.filter_cons]
      simp only [ne_eq, not_true_eq_false, decide_false, Bool.false_eq_true, if_false]
      rw [filter_keep (fun a ha => by simpa using hno a ((List.takeWhile_sublist _).mem ha)), filter_keep (fun a ha => by simpa using hno a ((List.dropWhile_sublist _).mem ha)), List.takeWhile_append_dropWhile]
    unfold Gr.untied
    rw [hn, he]

set_option maxRecDepth 100000 in
set_option maxHeartbeats 4000000 in
theorem nothing_walk (v : Value) (l : List Deed) (d : Deed) (w : World) (hs : SlAt w 9 Deed.cells v l) (hn : ∀ d ∈ l, d.e.name.size ≤ maxLen) (hd : d.e.name.size ≤ maxLen) :
    Calls Try.prog 9 #[v, d.v] w fun y w' => y = .returned (.bool true) ∧ Below w.heap.size w w' := by
  have hb0 : Below w.heap.size w (w.alloc (.cells #[.int .i64 d.kind, .int .i64 d.of, .int .i64 d.mode, .int .i64 d.e.at_.t, .int .i64 d.e.at_.r, .string d.e.name, .int .i64 d.e.ino.t, .int .i64 d.e.ino.r, .string d.data] 48)) := (Below.refl _ w).alloc (Nat.le_refl _) _
  obtain ⟨W0, hW0⟩ : ∃ W0, W0 = w.alloc (.cells #[.int .i64 d.kind, .int .i64 d.of, .int .i64 d.mode, .int .i64 d.e.at_.t, .int .i64 d.e.at_.r, .string d.e.name, .int .i64 d.e.ino.t, .int .i64 d.e.ino.r, .string d.data] 48) := ⟨_, rfl⟩
  have hz0 : W0.heap.size = w.heap.size + 1 := by rw [hW0]; simp only [World.size_alloc]
  have HBX : Hid (∀ W, Below W0.heap.size W0 W → ∀ i v, (d.cells)[i]? = some v → W.cell? ⟨w.heap.size, i, none⟩ = some v) := Lib.hid fun W hW i v h =>
    (hW.cell (p := ⟨w.heap.size, i, none⟩) (by rw [hz0]; exact Nat.lt_succ_self _)).trans (by rw [hW0]; exact cell_new _ _ rfl _ _ i v (by simpa [Deed.cells] using h))
  have HB00 : Hid (Below w.heap.size w W0) := Lib.hid (by rw [hW0]; exact hb0)
  have HSL : Hid (∀ W, Below W0.heap.size W0 W → SlAt W 9 Deed.cells v l) := Lib.hid fun W hW => hs.below (HB00.out.trans (hW.mono HB00.out.size))
  obtain ⟨va, vc, rfl⟩ := hs.len
  have hlm : l.length ≤ maxLen := by
    rcases hs with ⟨_, _, _, h0⟩ | ⟨_, _, c', h0, h1, h2, _⟩
    · rw [h0]; simp
    · simp at h0; omega
  have HNM := Lib.hid hn
  have HDN := Lib.hid hd
  clear hs hn hb0 hd
  unfold maxLen at hlm
  unfold Deed.v
  go_enter Try.func9, Try.ntmps9
  go_wp2_with fail
  rw [← hW0]
  have HW0 := Lib.hid hW0
  clear hW0
  refine (shown9_any _).mono ?_
  rintro e w1 ⟨rfl, hb⟩
  have HB1 := Lib.hid hb
  clear hb
  go_wp2_with fail
  refine (new_g w1).mono ?_
  rintro e w2 ⟨v, rfl, ⟨gb, mI, mE, rfl, hG, h1, h2, h3⟩, hb⟩
  have HG := Lib.hid hG
  have HB2 := Lib.hid (HB1.out.trans (hb.mono HB1.out.size))
  have HM : Hid (W0.heap.size ≤ mI ∧ W0.heap.size ≤ mE) := Lib.hid (by have := HB1.out.size; omega)
  clear hG hb h1 h2 h3
  go_wp2
  go_loopg [7] 150 (fun gg s7 wr => ∃ i : Nat, s7 = .int .i64 i ∧ i ≤ l.length ∧ i ≤ 150 ∧ 150 - i ≤ gg ∧ Aside (GrAt wr gb mI mE (played (l.take i))) ∧ Aside (Below W0.heap.size W0 wr))
  case atStart => exact ⟨0, rfl, Nat.zero_le _, Nat.zero_le _, by omega, (show Aside _ from HG.out), (show Aside _ from HB2.out)⟩
  case round =>
    obtain ⟨i, rfl, hil, hi150, hgg, hG, hB⟩ := hrel
    have hi0 : (0 : Int) ≤ (i : Int) := by omega
    have hwi : IntKind.i64.wrap ((i : Int) + 1) = (i : Int) + 1 := wrapNat (i + 1) (by omega)
    by_cases hgo : i < l.length ∧ i < 150
    · obtain ⟨hlt, hlt2⟩ := hgo
      have hlti : (i : Int) < (l.length : Int) := by omega
      have hlti2 : (i : Int) < 150 := by omega
      obtain ⟨bb, off, rfl, hbl, hcells⟩ : ∃ b off, va = some ⟨b, off, none⟩ ∧ b < wr.heap.size ∧ ∀ j, j < l.length → ∀ i u, (Deed.cells l[j]!)[i]? = some u → wr.cell? ⟨b, off + j * 9 + i, none⟩ = some u := by
        rcases HSL.out wr hB.out with ⟨_, _, _, h0⟩ | ⟨b, off, c', h0, _, _, h3, h4⟩
        · rw [h0] at hlt; exact absurd hlt (Nat.not_lt_zero _)
        · simp at h0; exact ⟨b, off, h0.1, h3, h4⟩
      obtain ⟨x0, x1, x2, x3, x4, x5, x6, x7, x8⟩ := cellsDeed hcells i hlt
      have hdo := do_any gb mI mE (played (l.take i)) l[i]! wr hG.out (played_ok _) (HNM.out _ (getElem!_mem hlt))
      have HST := Lib.hid (played_step l i hlt)
      clear hcells
      unfold Deed.v at hdo
      generalize l[i]! = x at x0 x1 x2 x3 x4 x5 x6 x7 x8 hdo HST
      generalize played (l.take i) = G at hdo HST
      go_wp2_with (go_at_call 21; refine hdo.mono ?_; rintro e w3 ⟨rfl, hG3, hT3⟩; have HG3 := Lib.hid hG3; have HT3 := Lib.hid hT3; clear hG3 hT3)
      go_roundg (150 - (i + 1))
      case measure => omega
      case rel => exact ⟨i + 1, by first | rfl | go_num, by omega, by omega, by omega, (show Aside _ from by rw [HST.out]; exact HG3.out), (show Aside _ from hB.out.trans (own_below HT3.out HM.out.1 HM.out.2 hB.out.size))⟩
    · obtain ⟨wo, rfl⟩ : ∃ wo : World, wo = wr := ⟨_, rfl⟩
      have hOK := played_ok (l.take i)
      have HG2 := hG
      generalize played (l.take i) = G at hOK HG2
      have hlt := HG2.out.lt
      have HCO := Lib.hid (copy_g gb mI mE G wo HG2.out)
      have hBo := hB.out
      have hendl : (¬ (i : Int) < (l.length : Int)) ∨ ((i : Int) < (l.length : Int) ∧ ¬ (i : Int) < 150) := by omega
      have hpl : d.e.pl = ⟨d.e.at_, d.e.name⟩ := rfl
      have N1 : Hid (∀ W, Calls Try.prog 23 #[.pointer none, (.agg #[.int .i64 d.e.ino.t, .int .i64 d.e.ino.r])] W fun x w' => x = .returned (.tuple #[(.agg #[.int .i64 0, .int .i64 0, .int .i64 0, .int .i64 0, .int .i64 0, .string ⟨#[]⟩]), .bool false]) ∧ Below W.heap.size W w') := Lib.hid fun W => (get_nil d.e.ino W).mono fun e w' ⟨a, b⟩ => ⟨a, b.below⟩
      have N2 : Hid (∀ W, Calls Try.prog 25 #[.pointer none, (.agg #[.int .i64 d.e.at_.t, .int .i64 d.e.at_.r]), .string d.e.name] W fun x w' => x = .returned (.tuple #[(.agg #[.int .i64 0, .int .i64 0]), .bool false]) ∧ Below W.heap.size W w') := Lib.hid fun W => (look_nil d.e.pl W).mono fun e w' ⟨a, b⟩ => ⟨a, b.below⟩
      have N3 : Hid (∀ W, Calls Try.prog 40 #[.pointer none, (.agg #[.int .i64 d.e.ino.t, .int .i64 d.e.ino.r])] W fun e w' => e = .returned (.int .i64 3) ∧ Below W.heap.size W w') := Lib.hid fun W => drop_nil d.e.ino W
      have N4 : Hid (∀ W, Calls Try.prog 41 #[.pointer none, (.agg #[.int .i64 d.e.ino.t, .int .i64 d.e.ino.r]), .int .i64 1, .string ⟨#[]⟩] W fun e w' => e = .returned (.int .i64 3) ∧ Below W.heap.size W w') := Lib.hid fun W => set_nil d.e.ino 1 ⟨#[]⟩ W
      have N5 : Hid (∀ W, Calls Try.prog 36 #[.pointer none] W fun e w' => e = .returned (.pointer none) ∧ Below W.heap.size W w') := Lib.hid fun W => (copy_nil W).mono fun e w' ⟨a, b⟩ => ⟨a, by rw [b]; exact Below.refl _ _⟩
      have N6 : Hid (∀ W, Calls Try.prog 35 #[.pointer none] W fun e w' => e = .returned (.slice none 0 0) ∧ Below W.heap.size W w') := Lib.hid fun W => (inodes_nil W).mono fun e w' ⟨a, b⟩ => ⟨a, by rw [b]; exact Below.refl _ _⟩
      have N7 : Hid (∀ W, Calls Try.prog 34 #[.pointer none] W fun e w' => e = .returned (.slice none 0 0) ∧ Below W.heap.size W w') := Lib.hid fun W => (entries_nil W).mono fun e w' ⟨a, b⟩ => ⟨a, by rw [b]; exact Below.refl _ _⟩
      have N8 : Hid (∀ W, Calls Try.prog 38 #[.pointer none, .agg #[.int .i64 0, .int .i64 0, .string ⟨#[97]⟩, .int .i64 0, .int .i64 0]] W fun e w' => e = .returned (.int .i64 3) ∧ Below W.heap.size W w') := Lib.hid fun W => tie_nil ⟨⟨0, 0⟩, ⟨#[97]⟩, ⟨0, 0⟩⟩ W (by decide) (by kernel_rfl)
      have N9 : Hid (∀ W, Calls Try.prog 42 #[.pointer none, .agg #[.int .i64 1, .int .i64 0], .int .i64 1] W fun e w' => e = .returned (.int .i64 3) ∧ Below W.heap.size W w') := Lib.hid fun W => make_nil ⟨1, 0⟩ 1 W (by decide) (by decide) (by decide)
      have HOK := Lib.hid hOK
      have HG3 := Lib.hid HG2.out
      clear hgo hG HG2 hOK hpl
      rcases hendl with hendl | ⟨hendl, hend2⟩
      all_goals
        go_wp2_with fail
        refine HCO.out.mono ?_
        rintro e c1 ⟨v, rfl, ⟨wb, wI, wE, rfl, hW, z1, z2, z3⟩, hb1⟩
        have hX := HBX.out c1 (hBo.trans (hb1.mono hBo.size))
        have d0 := hX 0 _ rfl
        have d1 := hX 1 _ rfl
        have d2 := hX 2 _ rfl
        have d3 := hX 3 _ rfl
        have d4 := hX 4 _ rfl
        have d5 := hX 5 _ rfl
        have d6 := hX 6 _ rfl
        have d7 := hX 7 _ rfl
        have d8 := hX 8 _ rfl
        have hdo := do_any gb mI mE G d c1 (HG3.out.below hb1) HOK.out HDN.out
        unfold Deed.v at hdo
        have HW1 := Lib.hid hW
        have HBc := Lib.hid hb1
        clear hX hW
        go_wp2_with fail
        refine hdo.mono ?_
        rintro e wp ⟨rfl, hGp, hT⟩
        clear d0 d1 d2 d3 d4 d5 d6 d7 d8
        have hWp : GrAt wp wb wI wE G := HW1.out.turn hT (fun h => by rcases h with h | h <;> omega) (fun h => by rcases h with h | h <;> omega) (fun h => by rcases h with h | h <;> omega)
        have hBp : Below W0.heap.size W0 wp := (hBo.trans (hb1.mono hBo.size)).trans (own_below hT HM.out.1 HM.out.2 (by have := hBo.size; have := hb1.size; omega))
        have HGW := Lib.hid hWp
        have HGP := Lib.hid hGp
        have HBP := Lib.hid hBp
        have hOKp : (G.deed d).Ok := HOK.out.deed d
        have herr : G.deedWhy d ≠ 0 → G.deed d = G := Gr.deed_err
        clear hdo hT hb1 hWp hBp hGp
        generalize G.deed d = G' at *
        generalize G.deedWhy d = t at *
        have hl1 : (G.n.length : Int) ≤ 40 := by have := HOK.out.len; omega
        have hl2 : (G.e.length : Int) ≤ 240 := by have := HOK.out.few; omega
        have hl3 : (G'.n.length : Int) ≤ 40 := by have := hOKp.len; omega
        have hl4 : (G'.e.length : Int) ≤ 240 := by have := hOKp.few; omega
        have HI1 : Hid (∀ W, Below wp.heap.size wp W → Calls Try.prog 35 #[.pointer (some ⟨gb, 0, none⟩)] W fun e w' => ∃ v : Value, e = .returned v ∧ w'.ownsRow W.heap.size 31 6 v G'.n.length (G'.n.flatMap Ino.cells) ∧ Below W.heap.size W w') := Lib.hid fun W hW => inodes_any gb mI mE G' W (HGP.out.below hW) hOKp.sn (by omega)
        have HI2 : Hid (∀ W, Below wp.heap.size wp W → Calls Try.prog 35 #[.pointer (some ⟨wb, 0, none⟩)] W fun e w' => ∃ v : Value, e = .returned v ∧ w'.ownsRow W.heap.size 31 6 v G.n.length (G.n.flatMap Ino.cells) ∧ Below W.heap.size W w') := Lib.hid fun W hW => inodes_any wb wI wE G W (HGW.out.below hW) HOK.out.sn (by omega)
        have HE1 : Hid (∀ W, Below wp.heap.size wp W → Calls Try.prog 34 #[.pointer (some ⟨gb, 0, none⟩)] W fun e w' => ∃ v : Value, e = .returned v ∧ w'.ownsRow W.heap.size 33 5 v G'.e.length (G'.e.flatMap Ent.cells) ∧ Below W.heap.size W w') := Lib.hid fun W hW => entries_any gb mI mE G' W (HGP.out.below hW) hOKp.se (by omega)
        have HE2 : Hid (∀ W, Below wp.heap.size wp W → Calls Try.prog 34 #[.pointer (some ⟨wb, 0, none⟩)] W fun e w' => ∃ v : Value, e = .returned v ∧ w'.ownsRow W.heap.size 33 5 v G.e.length (G.e.flatMap Ent.cells) ∧ Below W.heap.size W w') := Lib.hid fun W hW => entries_any wb wI wE G W (HGW.out.below hW) HOK.out.se (by omega)
        have HC2 : Hid (∀ W, Below wp.heap.size wp W → Calls Try.prog 36 #[.pointer (some ⟨wb, 0, none⟩)] W (MadeGr W G)) := Lib.hid fun W hW => copy_g wb wI wE G W (HGW.out.below hW)
        have HBp0 : Hid (Below wp.heap.size wp wp) := Lib.hid (Below.refl _ _)
        have HBW : Hid (Below w.heap.size w wp) := Lib.hid (HB00.out.trans (HBP.out.mono HB00.out.size))
        have HX9 : Hid (∀ W, Below wp.heap.size wp W → w.heap.size < W.heap.size ∧ ∀ i v, (d.cells)[i]? = some v → W.cell? ⟨w.heap.size, i, none⟩ = some v) := Lib.hid fun W hW => ⟨by have := HBP.out.size; have := hW.size; omega, HBX.out W (HBP.out.trans (hW.mono HBP.out.size))⟩
        have HERR := Lib.hid herr
        clear herr hOKp
        have ht : (t = 0 ∧ (t != 0) = false) ∨ (t ≠ 0 ∧ (t != 0) = true) := by
          by_cases h : t = 0
          · exact .inl ⟨h, by simp [h]⟩
          · exact .inr ⟨h, by simp [h]⟩
        go_wp2_with fail
        refine (HI1.out _ (by first | exact HBp0.out | exact HBp0.out.alloc HBp0.out.size _ | exact (HBp0.out.alloc HBp0.out.size _).alloc (le_al HBp0.out.size) _ | exact ((HBp0.out.alloc HBp0.out.size _).alloc (le_al HBp0.out.size) _).alloc (le_al (le_al HBp0.out.size)) _)).mono ?_
        rintro e p1 ⟨v1, rfl, ho1, hbp1⟩
        obtain ⟨hcp1, hfp1⟩ := bcell hbp1
        have hsp1 := hbp1.size
        try simp only [World.size_alloc] at hsp1
        try simp only [size_setCell'] at hsp1
        try have lep1_0 : wp.heap.size ≤ p1.heap.size := (by omega)
        try have ltp1_0 : wp.heap.size < p1.heap.size := (by omega)
        have HBp1 : Hid (Below wp.heap.size wp p1) := Lib.hid (Below.trans (by first | exact HBp0.out | exact HBp0.out.alloc HBp0.out.size _ | exact (HBp0.out.alloc HBp0.out.size _).alloc (le_al HBp0.out.size) _ | exact ((HBp0.out.alloc HBp0.out.size _).alloc (le_al HBp0.out.size) _).alloc (le_al (le_al HBp0.out.size)) _) (hbp1.mono (by (try simp only [World.size_alloc]); (try simp only [size_setCell']); omega)))
        have HNp1 := Lib.hid hbp1
        clear hbp1 hsp1
        have HO1 := Lib.hid (slAt_ownI ho1)
        clear ho1
        go_wp2_with fail
        refine (HI2.out _ (by first | exact HBp1.out | exact HBp1.out.alloc HBp1.out.size _ | exact (HBp1.out.alloc HBp1.out.size _).alloc (le_al HBp1.out.size) _ | exact ((HBp1.out.alloc HBp1.out.size _).alloc (le_al HBp1.out.size) _).alloc (le_al (le_al HBp1.out.size)) _ | exact HBp0.out | exact HBp0.out.alloc HBp0.out.size _ | exact (HBp0.out.alloc HBp0.out.size _).alloc (le_al HBp0.out.size) _ | exact ((HBp0.out.alloc HBp0.out.size _).alloc (le_al HBp0.out.size) _).alloc (le_al (le_al HBp0.out.size)) _)).mono ?_
        rintro e p2 ⟨v2, rfl, ho2, hbp2⟩
        obtain ⟨hcp2, hfp2⟩ := bcell hbp2
        have hsp2 := hbp2.size
        try simp only [World.size_alloc] at hsp2
        try simp only [size_setCell'] at hsp2
        try have lep2_0 : wp.heap.size ≤ p2.heap.size := (by omega)
        try have ltp2_0 : wp.heap.size < p2.heap.size := (by omega)
        try have lep2_1 : p1.heap.size ≤ p2.heap.size := (by omega)
        try have ltp2_1 : p1.heap.size < p2.heap.size := (by omega)
        have HBp2 : Hid (Below wp.heap.size wp p2) := Lib.hid (Below.trans (by first | exact HBp1.out | exact HBp1.out.alloc HBp1.out.size _ | exact (HBp1.out.alloc HBp1.out.size _).alloc (le_al HBp1.out.size) _ | exact ((HBp1.out.alloc HBp1.out.size _).alloc (le_al HBp1.out.size) _).alloc (le_al (le_al HBp1.out.size)) _ | exact HBp0.out | exact HBp0.out.alloc HBp0.out.size _ | exact (HBp0.out.alloc HBp0.out.size _).alloc (le_al HBp0.out.size) _ | exact ((HBp0.out.alloc HBp0.out.size _).alloc (le_al HBp0.out.size) _).alloc (le_al (le_al HBp0.out.size)) _) (hbp2.mono (by (try simp only [World.size_alloc]); (try simp only [size_setCell']); omega)))
        have HNp2 := Lib.hid hbp2
        clear hbp2 hsp2
        have HS3 := Lib.hid (nodes_same v1 v2 G'.n G.n _ (HO1.out.below HNp2.out) (slAt_ownI ho2) (by omega))
        clear ho2
        go_wp2_with fail
        refine (HS3.out).mono ?_
        rintro e p3 ⟨b3, rfl, hb3, hbp3⟩
        obtain ⟨hcp3, hfp3⟩ := bcell hbp3
        have hsp3 := hbp3.size
        try simp only [World.size_alloc] at hsp3
        try simp only [size_setCell'] at hsp3
        try have lep3_0 : wp.heap.size ≤ p3.heap.size := (by omega)
        try have ltp3_0 : wp.heap.size < p3.heap.size := (by omega)
        try have lep3_1 : p1.heap.size ≤ p3.heap.size := (by omega)
        try have ltp3_1 : p1.heap.size < p3.heap.size := (by omega)
        try have lep3_2 : p2.heap.size ≤ p3.heap.size := (by omega)
        try have ltp3_2 : p2.heap.size < p3.heap.size := (by omega)
        have HBp3 : Hid (Below wp.heap.size wp p3) := Lib.hid (Below.trans (by first | exact HBp2.out | exact HBp2.out.alloc HBp2.out.size _ | exact (HBp2.out.alloc HBp2.out.size _).alloc (le_al HBp2.out.size) _ | exact ((HBp2.out.alloc HBp2.out.size _).alloc (le_al HBp2.out.size) _).alloc (le_al (le_al HBp2.out.size)) _ | exact HBp1.out | exact HBp1.out.alloc HBp1.out.size _ | exact (HBp1.out.alloc HBp1.out.size _).alloc (le_al HBp1.out.size) _ | exact ((HBp1.out.alloc HBp1.out.size _).alloc (le_al HBp1.out.size) _).alloc (le_al (le_al HBp1.out.size)) _ | exact HBp0.out | exact HBp0.out.alloc HBp0.out.size _ | exact (HBp0.out.alloc HBp0.out.size _).alloc (le_al HBp0.out.size) _ | exact ((HBp0.out.alloc HBp0.out.size _).alloc (le_al HBp0.out.size) _).alloc (le_al (le_al HBp0.out.size)) _) (hbp3.mono (by (try simp only [World.size_alloc]); (try simp only [size_setCell']); omega)))
        have HNp3 := Lib.hid hbp3
        clear hbp3 hsp3
        have HT3 := Lib.hid hb3
        clear hb3
        -- the second comparison, if the first one holds; the test
        have hgo : (t = 0 ∧ (t != 0) = false ∧ b3 = false) ∨ (t = 0 ∧ (t != 0) = false ∧ b3 = true) ∨ (t ≠ 0 ∧ (t != 0) = true ∧ b3 = true) := by
          rcases ht with ⟨h1, h2⟩ | ⟨h1, h2⟩
          · cases b3
            · exact .inl ⟨h1, h2, rfl⟩
            · exact .inr (.inl ⟨h1, h2, rfl⟩)
          · exact .inr (.inr ⟨h1, h2, HT3.out (by rw [HERR.out h1])⟩)
        clear ht
        rcases hgo with ⟨rfl, ht, rfl⟩ | ⟨rfl, ht, rfl⟩ | ⟨htn, ht, rfl⟩
        all_goals
          try (have HTN := Lib.hid htn; have HEQ := Lib.hid (HERR.out htn); clear htn)
          go_wp2_with (first
            | (go_at_call 34; (with_reducible refine (HE1.out _ (by first | exact HBp3.out | exact HBp3.out.alloc HBp3.out.size _ | exact (HBp3.out.alloc HBp3.out.size _).alloc (le_al HBp3.out.size) _ | exact ((HBp3.out.alloc HBp3.out.size _).alloc (le_al HBp3.out.size) _).alloc (le_al (le_al HBp3.out.size)) _ | exact HBp2.out | exact HBp2.out.alloc HBp2.out.size _ | exact (HBp2.out.alloc HBp2.out.size _).alloc (le_al HBp2.out.size) _ | exact ((HBp2.out.alloc HBp2.out.size _).alloc (le_al HBp2.out.size) _).alloc (le_al (le_al HBp2.out.size)) _ | exact HBp1.out | exact HBp1.out.alloc HBp1.out.size _ | exact (HBp1.out.alloc HBp1.out.size _).alloc (le_al HBp1.out.size) _ | exact ((HBp1.out.alloc HBp1.out.size _).alloc (le_al HBp1.out.size) _).alloc (le_al (le_al HBp1.out.size)) _ | exact HBp0.out | exact HBp0.out.alloc HBp0.out.size _ | exact (HBp0.out.alloc HBp0.out.size _).alloc (le_al HBp0.out.size) _ | exact ((HBp0.out.alloc HBp0.out.size _).alloc (le_al HBp0.out.size) _).alloc (le_al (le_al HBp0.out.size)) _)).mono ?_); rintro e p4 ⟨v4, rfl, ho4, hbp4⟩; obtain ⟨hcp4, hfp4⟩ := bcell hbp4; have hsp4 := hbp4.size; (try simp only [World.size_alloc] at hsp4); (try simp only [size_setCell'] at hsp4); (try have lep4_0 : wp.heap.size ≤ p4.heap.size := (by omega)); (try have ltp4_0 : wp.heap.size < p4.heap.size := (by omega)); (try have lep4_1 : p1.heap.size ≤ p4.heap.size := (by omega)); (try have ltp4_1 : p1.heap.size < p4.heap.size := (by omega)); (try have lep4_2 : p2.heap.size ≤ p4.heap.size := (by omega)); (try have ltp4_2 : p2.heap.size < p4.heap.size := (by omega)); (try have lep4_3 : p3.heap.size ≤ p4.heap.size := (by omega)); (try have ltp4_3 : p3.heap.size < p4.heap.size := (by omega)); have HBp4 : Hid (Below wp.heap.size wp p4) := Lib.hid (Below.trans (by first | exact HBp3.out | exact HBp3.out.alloc HBp3.out.size _ | exact (HBp3.out.alloc HBp3.out.size _).alloc (le_al HBp3.out.size) _ | exact ((HBp3.out.alloc HBp3.out.size _).alloc (le_al HBp3.out.size) _).alloc (le_al (le_al HBp3.out.size)) _ | exact HBp2.out | exact HBp2.out.alloc HBp2.out.size _ | exact (HBp2.out.alloc HBp2.out.size _).alloc (le_al HBp2.out.size) _ | exact ((HBp2.out.alloc HBp2.out.size _).alloc (le_al HBp2.out.size) _).alloc (le_al (le_al HBp2.out.size)) _ | exact HBp1.out | exact HBp1.out.alloc HBp1.out.size _ | exact (HBp1.out.alloc HBp1.out.size _).alloc (le_al HBp1.out.size) _ | exact ((HBp1.out.alloc HBp1.out.size _).alloc (le_al HBp1.out.size) _).alloc (le_al (le_al HBp1.out.size)) _ | exact HBp0.out | exact HBp0.out.alloc HBp0.out.size _ | exact (HBp0.out.alloc HBp0.out.size _).alloc (le_al HBp0.out.size) _ | exact ((HBp0.out.alloc HBp0.out.size _).alloc (le_al HBp0.out.size) _).alloc (le_al (le_al HBp0.out.size)) _) (hbp4.mono (by (try simp only [World.size_alloc]); (try simp only [size_setCell']); omega))); have HNp4 := Lib.hid hbp4; clear hbp4 hsp4; have HO4 := Lib.hid (slAt_own ho4); clear ho4)
            | (go_at_call 34; (with_reducible refine (HE2.out _ (by first | exact HBp4.out | exact HBp4.out.alloc HBp4.out.size _ | exact (HBp4.out.alloc HBp4.out.size _).alloc (le_al HBp4.out.size) _ | exact ((HBp4.out.alloc HBp4.out.size _).alloc (le_al HBp4.out.size) _).alloc (le_al (le_al HBp4.out.size)) _ | exact HBp3.out | exact HBp3.out.alloc HBp3.out.size _ | exact (HBp3.out.alloc HBp3.out.size _).alloc (le_al HBp3.out.size) _ | exact ((HBp3.out.alloc HBp3.out.size _).alloc (le_al HBp3.out.size) _).alloc (le_al (le_al HBp3.out.size)) _ | exact HBp2.out | exact HBp2.out.alloc HBp2.out.size _ | exact (HBp2.out.alloc HBp2.out.size _).alloc (le_al HBp2.out.size) _ | exact ((HBp2.out.alloc HBp2.out.size _).alloc (le_al HBp2.out.size) _).alloc (le_al (le_al HBp2.out.size)) _ | exact HBp1.out | exact HBp1.out.alloc HBp1.out.size _ | exact (HBp1.out.alloc HBp1.out.size _).alloc (le_al HBp1.out.size) _ | exact ((HBp1.out.alloc HBp1.out.size _).alloc (le_al HBp1.out.size) _).alloc (le_al (le_al HBp1.out.size)) _ | exact HBp0.out | exact HBp0.out.alloc HBp0.out.size _ | exact (HBp0.out.alloc HBp0.out.size _).alloc (le_al HBp0.out.size) _ | exact ((HBp0.out.alloc HBp0.out.size _).alloc (le_al HBp0.out.size) _).alloc (le_al (le_al HBp0.out.size)) _)).mono ?_); rintro e p5 ⟨v5, rfl, ho5, hbp5⟩; obtain ⟨hcp5, hfp5⟩ := bcell hbp5; have hsp5 := hbp5.size; (try simp only [World.size_alloc] at hsp5); (try simp only [size_setCell'] at hsp5); (try have lep5_0 : wp.heap.size ≤ p5.heap.size := (by omega)); (try have ltp5_0 : wp.heap.size < p5.heap.size := (by omega)); (try have lep5_1 : p1.heap.size ≤ p5.heap.size := (by omega)); (try have ltp5_1 : p1.heap.size < p5.heap.size := (by omega)); (try have lep5_2 : p2.heap.size ≤ p5.heap.size := (by omega)); (try have ltp5_2 : p2.heap.size < p5.heap.size := (by omega)); (try have lep5_3 : p3.heap.size ≤ p5.heap.size := (by omega)); (try have ltp5_3 : p3.heap.size < p5.heap.size := (by omega)); (try have lep5_4 : p4.heap.size ≤ p5.heap.size := (by omega)); (try have ltp5_4 : p4.heap.size < p5.heap.size := (by omega)); have HBp5 : Hid (Below wp.heap.size wp p5) := Lib.hid (Below.trans (by first | exact HBp4.out | exact HBp4.out.alloc HBp4.out.size _ | exact (HBp4.out.alloc HBp4.out.size _).alloc (le_al HBp4.out.size) _ | exact ((HBp4.out.alloc HBp4.out.size _).alloc (le_al HBp4.out.size) _).alloc (le_al (le_al HBp4.out.size)) _ | exact HBp3.out | exact HBp3.out.alloc HBp3.out.size _ | exact (HBp3.out.alloc HBp3.out.size _).alloc (le_al HBp3.out.size) _ | exact ((HBp3.out.alloc HBp3.out.size _).alloc (le_al HBp3.out.size) _).alloc (le_al (le_al HBp3.out.size)) _ | exact HBp2.out | exact HBp2.out.alloc HBp2.out.size _ | exact (HBp2.out.alloc HBp2.out.size _).alloc (le_al HBp2.out.size) _ | exact ((HBp2.out.alloc HBp2.out.size _).alloc (le_al HBp2.out.size) _).alloc (le_al (le_al HBp2.out.size)) _ | exact HBp1.out | exact HBp1.out.alloc HBp1.out.size _ | exact (HBp1.out.alloc HBp1.out.size _).alloc (le_al HBp1.out.size) _ | exact ((HBp1.out.alloc HBp1.out.size _).alloc (le_al HBp1.out.size) _).alloc (le_al (le_al HBp1.out.size)) _ | exact HBp0.out | exact HBp0.out.alloc HBp0.out.size _ | exact (HBp0.out.alloc HBp0.out.size _).alloc (le_al HBp0.out.size) _ | exact ((HBp0.out.alloc HBp0.out.size _).alloc (le_al HBp0.out.size) _).alloc (le_al (le_al HBp0.out.size)) _) (hbp5.mono (by (try simp only [World.size_alloc]); (try simp only [size_setCell']); omega))); have HNp5 := Lib.hid hbp5; clear hbp5 hsp5; have HS6 := Lib.hid (entries_same v4 v5 G'.e G.e _ (HO4.out.below HNp5.out) (slAt_own ho5) (by omega)); clear ho5)
            | (go_at_call 29; (with_reducible refine (HS6.out).mono ?_); rintro e p6 ⟨b6, rfl, hb6, hbp6⟩; obtain ⟨hcp6, hfp6⟩ := bcell hbp6; have hsp6 := hbp6.size; (try simp only [World.size_alloc] at hsp6); (try simp only [size_setCell'] at hsp6); (try have lep6_0 : wp.heap.size ≤ p6.heap.size := (by omega)); (try have ltp6_0 : wp.heap.size < p6.heap.size := (by omega)); (try have lep6_1 : p1.heap.size ≤ p6.heap.size := (by omega)); (try have ltp6_1 : p1.heap.size < p6.heap.size := (by omega)); (try have lep6_2 : p2.heap.size ≤ p6.heap.size := (by omega)); (try have ltp6_2 : p2.heap.size < p6.heap.size := (by omega)); (try have lep6_3 : p3.heap.size ≤ p6.heap.size := (by omega)); (try have ltp6_3 : p3.heap.size < p6.heap.size := (by omega)); (try have lep6_4 : p4.heap.size ≤ p6.heap.size := (by omega)); (try have ltp6_4 : p4.heap.size < p6.heap.size := (by omega)); (try have lep6_5 : p5.heap.size ≤ p6.heap.size := (by omega)); (try have ltp6_5 : p5.heap.size < p6.heap.size := (by omega)); have HBp6 : Hid (Below wp.heap.size wp p6) := Lib.hid (Below.trans (by first | exact HBp5.out | exact HBp5.out.alloc HBp5.out.size _ | exact (HBp5.out.alloc HBp5.out.size _).alloc (le_al HBp5.out.size) _ | exact ((HBp5.out.alloc HBp5.out.size _).alloc (le_al HBp5.out.size) _).alloc (le_al (le_al HBp5.out.size)) _ | exact HBp4.out | exact HBp4.out.alloc HBp4.out.size _ | exact (HBp4.out.alloc HBp4.out.size _).alloc (le_al HBp4.out.size) _ | exact ((HBp4.out.alloc HBp4.out.size _).alloc (le_al HBp4.out.size) _).alloc (le_al (le_al HBp4.out.size)) _ | exact HBp3.out | exact HBp3.out.alloc HBp3.out.size _ | exact (HBp3.out.alloc HBp3.out.size _).alloc (le_al HBp3.out.size) _ | exact ((HBp3.out.alloc HBp3.out.size _).alloc (le_al HBp3.out.size) _).alloc (le_al (le_al HBp3.out.size)) _ | exact HBp2.out | exact HBp2.out.alloc HBp2.out.size _ | exact (HBp2.out.alloc HBp2.out.size _).alloc (le_al HBp2.out.size) _ | exact ((HBp2.out.alloc HBp2.out.size _).alloc (le_al HBp2.out.size) _).alloc (le_al (le_al HBp2.out.size)) _ | exact HBp1.out | exact HBp1.out.alloc HBp1.out.size _ | exact (HBp1.out.alloc HBp1.out.size _).alloc (le_al HBp1.out.size) _ | exact ((HBp1.out.alloc HBp1.out.size _).alloc (le_al HBp1.out.size) _).alloc (le_al (le_al HBp1.out.size)) _ | exact HBp0.out | exact HBp0.out.alloc HBp0.out.size _ | exact (HBp0.out.alloc HBp0.out.size _).alloc (le_al HBp0.out.size) _ | exact ((HBp0.out.alloc HBp0.out.size _).alloc (le_al HBp0.out.size) _).alloc (le_al (le_al HBp0.out.size)) _) (hbp6.mono (by (try simp only [World.size_alloc]); (try simp only [size_setCell']); omega))); have HNp6 := Lib.hid hbp6; clear hbp6 hsp6; (try (have hq := congrArg Gr.e HEQ.out; obtain rfl := hb6 hq; clear hq)); (try clear hb6)))
          first
          | (have hq := HBp6; clear hq; obtain ⟨wz, HBPZ, rfl⟩ : ∃ wz, Hid (Below wp.heap.size wp wz) ∧ wz = p6 := ⟨_, HBp6, rfl⟩)
          | (have hq := HBp3; clear hq; obtain ⟨wz, HBPZ, rfl⟩ : ∃ wz, Hid (Below wp.heap.size wp wz) ∧ wz = p3 := ⟨_, HBp3, rfl⟩)
        all_goals
          have HCz := Lib.hid (HC2.out wz HBPZ.out)
          have HZ9 : Hid (∀ W, Below wz.heap.size wz W → w.heap.size < W.heap.size ∧ ∀ i v, (d.cells)[i]? = some v → W.cell? ⟨w.heap.size, i, none⟩ = some v) := Lib.hid fun W hW => HX9.out W (HBPZ.out.trans (hW.mono HBPZ.out.size))
          have HI3 : Hid (∀ W, Below wz.heap.size wz W → Calls Try.prog 35 #[.pointer (some ⟨wb, 0, none⟩)] W fun e w' => ∃ v : Value, e = .returned v ∧ w'.ownsRow W.heap.size 31 6 v G.n.length (G.n.flatMap Ino.cells) ∧ Below W.heap.size W w') := Lib.hid fun W hW => HI2.out W (HBPZ.out.trans (hW.mono HBPZ.out.size))
          have HE3 : Hid (∀ W, Below wz.heap.size wz W → Calls Try.prog 34 #[.pointer (some ⟨wb, 0, none⟩)] W fun e w' => ∃ v : Value, e = .returned v ∧ w'.ownsRow W.heap.size 33 5 v G.e.length (G.e.flatMap Ent.cells) ∧ Below W.heap.size W w') := Lib.hid fun W hW => HE2.out W (HBPZ.out.trans (hW.mono HBPZ.out.size))
          have HBz0 : Hid (Below wz.heap.size wz wz) := Lib.hid (Below.refl _ _)
          have HBWZ : Hid (Below w.heap.size w wz) := Lib.hid (HBW.out.trans (HBPZ.out.mono HBW.out.size))
          refine HCz.out.mono ?_
          rintro e z1 ⟨v, rfl, ⟨qb, qI, qE, rfl, hH, y1, y2, y3⟩, hb1⟩
          obtain ⟨zlt1, hX⟩ := HZ9.out z1 hb1
          have d0 := hX 0 _ rfl
          have d1 := hX 1 _ rfl
          have d2 := hX 2 _ rfl
          have d3 := hX 3 _ rfl
          have d4 := hX 4 _ rfl
          have d5 := hX 5 _ rfl
          have d6 := hX 6 _ rfl
          have d7 := hX 7 _ rfl
          have d8 := hX 8 _ rfl
          have HBz1 := Lib.hid hb1
          have hs1 : wz.heap.size ≤ z1.heap.size := hb1.size
          have HTie := Lib.hid (tie_g qb qI qE G d.e z1 hH HOK.out (by omega) HDN.out)
          unfold Ent.v at HTie
          have HH := Lib.hid hH
          clear hX hH hb1
          have htie : (G.tieWhy d.e = 0) ∨ (G.tieWhy d.e ≠ 0 ∧ (G.tieWhy d.e == 0) = false) := by
            by_cases h : G.tieWhy d.e = 0
            · exact .inl h
            · exact .inr ⟨h, by simp [h]⟩
          rcases htie with ht0 | ⟨ht0, ht1⟩
          · have hok2 := HOK.out.tie ht0
            obtain ⟨hlk, hun⟩ := HOK.out.untied_tied ht0
            have e1 : G.tie d.e = G.tied d.e := by unfold Gr.tie; rw [if_pos ht0]
            rw [ht0, e1] at HTie
            have HOK2 := Lib.hid hok2
            have HLK := Lib.hid hlk
            have HUN := Lib.hid hun
            clear hok2 hlk hun e1 ht0
            go_wp2_with fail
            refine HTie.out.mono ?_
            rintro e z2 ⟨rfl, hH2, hT2⟩
            have HBz2 := Lib.hid (HBz1.out.trans (own_below hT2 y2 y3 hs1))
            have hs2 : wz.heap.size ≤ z2.heap.size := HBz2.out.size
            have HUt : Hid (Calls Try.prog 39 #[.pointer (some ⟨qb, 0, none⟩), (.agg #[.int .i64 d.e.at_.t, .int .i64 d.e.at_.r]), .string d.e.name] z2 fun e w' => e = .returned (.tuple #[(.agg #[.int .i64 d.e.ino.t, .int .i64 d.e.ino.r]), .int .i64 0]) ∧ GrAt w' qb qI qE G ∧ Turn (Maps2 qI qE) z2 w') := Lib.hid ((untie_g qb qI qE (G.tied d.e) d.e.pl z2 hH2 HOK2.out).mono fun e w' ⟨a, b, c⟩ => by
              have e2 : (G.tied d.e).untie d.e.pl = G := by unfold Gr.untie; rw [HLK.out]; exact HUN.out
              have e3 : (G.tied d.e).untieWhy d.e.pl = 0 := by unfold Gr.untieWhy; rw [HLK.out]; rfl
              rw [HLK.out, e3] at a
              rw [e2] at b
              exact ⟨a, b, c⟩)
            clear hH2 hT2 d0 d1 d2 d3 d4 d5 d6 d7 d8
            obtain ⟨_, hX⟩ := HZ9.out z2 HBz2.out
            have d0 := hX 0 _ rfl
            have d1 := hX 1 _ rfl
            have d2 := hX 2 _ rfl
            have d3 := hX 3 _ rfl
            have d4 := hX 4 _ rfl
            have d5 := hX 5 _ rfl
            have d6 := hX 6 _ rfl
            have d7 := hX 7 _ rfl
            have d8 := hX 8 _ rfl
            clear hX
            go_wp2_with fail
            refine HUt.out.mono ?_
            rintro e z3 ⟨rfl, hH3, hT3⟩
            have HBz3 := Lib.hid (HBz2.out.trans (own_below hT3 y2 y3 hs2))
            have HH3 := Lib.hid hH3
            obtain ⟨z3lt, hX⟩ := HZ9.out z3 HBz3.out
            have x0 := hX 0 _ rfl
            have x1 := hX 1 _ rfl
            have x2 := hX 2 _ rfl
            have x3 := hX 3 _ rfl
            have x4 := hX 4 _ rfl
            have x5 := hX 5 _ rfl
            have x6 := hX 6 _ rfl
            have x7 := hX 7 _ rfl
            have x8 := hX 8 _ rfl
            clear hX hH3 hT3 d0 d1 d2 d3 d4 d5 d6 d7 d8
            obtain ⟨wr3, HBR, rfl⟩ : ∃ wr3, Hid (Below wz.heap.size wz wr3) ∧ wr3 = z3 := ⟨_, HBz3, rfl⟩
            have HBr0 : Hid (Below wr3.heap.size wr3 wr3) := Lib.hid (Below.refl _ _)
            have HR9 : Hid (∀ W, Below wr3.heap.size wr3 W → Below wz.heap.size wz W) := Lib.hid fun W hW => HBR.out.trans (hW.mono HBR.out.size)
            have HIq : Hid (∀ W, Below wr3.heap.size wr3 W → Calls Try.prog 35 #[.pointer (some ⟨qb, 0, none⟩)] W fun e w' => ∃ v : Value, e = .returned v ∧ w'.ownsRow W.heap.size 31 6 v G.n.length (G.n.flatMap Ino.cells) ∧ Below W.heap.size W w') := Lib.hid fun W hW => inodes_any qb qI qE G W (HH3.out.below hW) HOK.out.sn (by omega)
            have HEq : Hid (∀ W, Below wr3.heap.size wr3 W → Calls Try.prog 34 #[.pointer (some ⟨qb, 0, none⟩)] W fun e w' => ∃ v : Value, e = .returned v ∧ w'.ownsRow W.heap.size 33 5 v G.e.length (G.e.flatMap Ent.cells) ∧ Below W.heap.size W w') := Lib.hid fun W hW => entries_any qb qI qE G W (HH3.out.below hW) HOK.out.se (by omega)
            go_wp2_with fail
            refine (HIq.out _ (by first | exact HBr0.out | exact HBr0.out.alloc HBr0.out.size _ | exact (HBr0.out.alloc HBr0.out.size _).alloc (le_al HBr0.out.size) _ | exact ((HBr0.out.alloc HBr0.out.size _).alloc (le_al HBr0.out.size) _).alloc (le_al (le_al HBr0.out.size)) _)).mono ?_
            rintro e r1 ⟨v1, rfl, ho1, hbr1⟩
            obtain ⟨hcr1, hfr1⟩ := bcell hbr1
            have hsr1 := hbr1.size
            try simp only [World.size_alloc] at hsr1
            try simp only [size_setCell'] at hsr1
            try have ler1_0 : wr3.heap.size ≤ r1.heap.size := (by omega)
            try have ltr1_0 : wr3.heap.size < r1.heap.size := (by omega)
            have HBr1 : Hid (Below wr3.heap.size wr3 r1) := Lib.hid (Below.trans (by first | exact HBr0.out | exact HBr0.out.alloc HBr0.out.size _ | exact (HBr0.out.alloc HBr0.out.size _).alloc (le_al HBr0.out.size) _ | exact ((HBr0.out.alloc HBr0.out.size _).alloc (le_al HBr0.out.size) _).alloc (le_al (le_al HBr0.out.size)) _) (hbr1.mono (by (try simp only [World.size_alloc]); (try simp only [size_setCell']); omega)))
            have HNr1 := Lib.hid hbr1
            clear hbr1 hsr1
            have HP1 := Lib.hid (slAt_ownI ho1)
            clear ho1
            go_wp2_with fail
            refine (HI3.out _ (HR9.out _ (by first | exact HBr1.out | exact HBr1.out.alloc HBr1.out.size _ | exact (HBr1.out.alloc HBr1.out.size _).alloc (le_al HBr1.out.size) _ | exact ((HBr1.out.alloc HBr1.out.size _).alloc (le_al HBr1.out.size) _).alloc (le_al (le_al HBr1.out.size)) _ | exact HBr0.out | exact HBr0.out.alloc HBr0.out.size _ | exact (HBr0.out.alloc HBr0.out.size _).alloc (le_al HBr0.out.size) _ | exact ((HBr0.out.alloc HBr0.out.size _).alloc (le_al HBr0.out.size) _).alloc (le_al (le_al HBr0.out.size)) _))).mono ?_
            rintro e r2 ⟨v2, rfl, ho2, hbr2⟩
            obtain ⟨hcr2, hfr2⟩ := bcell hbr2
            have hsr2 := hbr2.size
            try simp only [World.size_alloc] at hsr2
            try simp only [size_setCell'] at hsr2
            try have ler2_0 : wr3.heap.size ≤ r2.heap.size := (by omega)
            try have ltr2_0 : wr3.heap.size < r2.heap.size := (by omega)
            try have ler2_1 : r1.heap.size ≤ r2.heap.size := (by omega)
            try have ltr2_1 : r1.heap.size < r2.heap.size := (by omega)
            have HBr2 : Hid (Below wr3.heap.size wr3 r2) := Lib.hid (Below.trans (by first | exact HBr1.out | exact HBr1.out.alloc HBr1.out.size _ | exact (HBr1.out.alloc HBr1.out.size _).alloc (le_al HBr1.out.size) _ | exact ((HBr1.out.alloc HBr1.out.size _).alloc (le_al HBr1.out.size) _).alloc (le_al (le_al HBr1.out.size)) _ | exact HBr0.out | exact HBr0.out.alloc HBr0.out.size _ | exact (HBr0.out.alloc HBr0.out.size _).alloc (le_al HBr0.out.size) _ | exact ((HBr0.out.alloc HBr0.out.size _).alloc (le_al HBr0.out.size) _).alloc (le_al (le_al HBr0.out.size)) _) (hbr2.mono (by (try simp only [World.size_alloc]); (try simp only [size_setCell']); omega)))
            have HNr2 := Lib.hid hbr2
            clear hbr2 hsr2
            have HS3 := Lib.hid (nodes_same v1 v2 G.n G.n _ (HP1.out.below HNr2.out) (slAt_ownI ho2) (by omega))
            clear ho2
            go_wp2_with fail
            refine (HS3.out).mono ?_
            rintro e r3 ⟨b3, rfl, hb3, hbr3⟩
            obtain ⟨hcr3, hfr3⟩ := bcell hbr3
            have hsr3 := hbr3.size
            try simp only [World.size_alloc] at hsr3
            try simp only [size_setCell'] at hsr3
            try have ler3_0 : wr3.heap.size ≤ r3.heap.size := (by omega)
            try have ltr3_0 : wr3.heap.size < r3.heap.size := (by omega)
            try have ler3_1 : r1.heap.size ≤ r3.heap.size := (by omega)
            try have ltr3_1 : r1.heap.size < r3.heap.size := (by omega)
            try have ler3_2 : r2.heap.size ≤ r3.heap.size := (by omega)
            try have ltr3_2 : r2.heap.size < r3.heap.size := (by omega)
            have HBr3 : Hid (Below wr3.heap.size wr3 r3) := Lib.hid (Below.trans (by first | exact HBr2.out | exact HBr2.out.alloc HBr2.out.size _ | exact (HBr2.out.alloc HBr2.out.size _).alloc (le_al HBr2.out.size) _ | exact ((HBr2.out.alloc HBr2.out.size _).alloc (le_al HBr2.out.size) _).alloc (le_al (le_al HBr2.out.size)) _ | exact HBr1.out | exact HBr1.out.alloc HBr1.out.size _ | exact (HBr1.out.alloc HBr1.out.size _).alloc (le_al HBr1.out.size) _ | exact ((HBr1.out.alloc HBr1.out.size _).alloc (le_al HBr1.out.size) _).alloc (le_al (le_al HBr1.out.size)) _ | exact HBr0.out | exact HBr0.out.alloc HBr0.out.size _ | exact (HBr0.out.alloc HBr0.out.size _).alloc (le_al HBr0.out.size) _ | exact ((HBr0.out.alloc HBr0.out.size _).alloc (le_al HBr0.out.size) _).alloc (le_al (le_al HBr0.out.size)) _) (hbr3.mono (by (try simp only [World.size_alloc]); (try simp only [size_setCell']); omega)))
            have HNr3 := Lib.hid hbr3
            clear hbr3 hsr3
            obtain rfl := hb3 rfl
            go_wp2_with fail
            refine (HEq.out _ (by first | exact HBr3.out | exact HBr3.out.alloc HBr3.out.size _ | exact (HBr3.out.alloc HBr3.out.size _).alloc (le_al HBr3.out.size) _ | exact ((HBr3.out.alloc HBr3.out.size _).alloc (le_al HBr3.out.size) _).alloc (le_al (le_al HBr3.out.size)) _ | exact HBr2.out | exact HBr2.out.alloc HBr2.out.size _ | exact (HBr2.out.alloc HBr2.out.size _).alloc (le_al HBr2.out.size) _ | exact ((HBr2.out.alloc HBr2.out.size _).alloc (le_al HBr2.out.size) _).alloc (le_al (le_al HBr2.out.size)) _ | exact HBr1.out | exact HBr1.out.alloc HBr1.out.size _ | exact (HBr1.out.alloc HBr1.out.size _).alloc (le_al HBr1.out.size) _ | exact ((HBr1.out.alloc HBr1.out.size _).alloc (le_al HBr1.out.size) _).alloc (le_al (le_al HBr1.out.size)) _ | exact HBr0.out | exact HBr0.out.alloc HBr0.out.size _ | exact (HBr0.out.alloc HBr0.out.size _).alloc (le_al HBr0.out.size) _ | exact ((HBr0.out.alloc HBr0.out.size _).alloc (le_al HBr0.out.size) _).alloc (le_al (le_al HBr0.out.size)) _)).mono ?_
            rintro e r4 ⟨v4, rfl, ho4, hbr4⟩
            obtain ⟨hcr4, hfr4⟩ := bcell hbr4
            have hsr4 := hbr4.size
            try simp only [World.size_alloc] at hsr4
            try simp only [size_setCell'] at hsr4
            try have ler4_0 : wr3.heap.size ≤ r4.heap.size := (by omega)
            try have ltr4_0 : wr3.heap.size < r4.heap.size := (by omega)
            try have ler4_1 : r1.heap.size ≤ r4.heap.size := (by omega)
            try have ltr4_1 : r1.heap.size < r4.heap.size := (by omega)
            try have ler4_2 : r2.heap.size ≤ r4.heap.size := (by omega)
            try have ltr4_2 : r2.heap.size < r4.heap.size := (by omega)
            try have ler4_3 : r3.heap.size ≤ r4.heap.size := (by omega)
            try have ltr4_3 : r3.heap.size < r4.heap.size := (by omega)
            have HBr4 : Hid (Below wr3.heap.size wr3 r4) := Lib.hid (Below.trans (by first | exact HBr3.out | exact HBr3.out.alloc HBr3.out.size _ | exact (HBr3.out.alloc HBr3.out.size _).alloc (le_al HBr3.out.size) _ | exact ((HBr3.out.alloc HBr3.out.size _).alloc (le_al HBr3.out.size) _).alloc (le_al (le_al HBr3.out.size)) _ | exact HBr2.out | exact HBr2.out.alloc HBr2.out.size _ | exact (HBr2.out.alloc HBr2.out.size _).alloc (le_al HBr2.out.size) _ | exact ((HBr2.out.alloc HBr2.out.size _).alloc (le_al HBr2.out.size) _).alloc (le_al (le_al HBr2.out.size)) _ | exact HBr1.out | exact HBr1.out.alloc HBr1.out.size _ | exact (HBr1.out.alloc HBr1.out.size _).alloc (le_al HBr1.out.size) _ | exact ((HBr1.out.alloc HBr1.out.size _).alloc (le_al HBr1.out.size) _).alloc (le_al (le_al HBr1.out.size)) _ | exact HBr0.out | exact HBr0.out.alloc HBr0.out.size _ | exact (HBr0.out.alloc HBr0.out.size _).alloc (le_al HBr0.out.size) _ | exact ((HBr0.out.alloc HBr0.out.size _).alloc (le_al HBr0.out.size) _).alloc (le_al (le_al HBr0.out.size)) _) (hbr4.mono (by (try simp only [World.size_alloc]); (try simp only [size_setCell']); omega)))
            have HNr4 := Lib.hid hbr4
            clear hbr4 hsr4
            have HP4 := Lib.hid (slAt_own ho4)
            clear ho4
            go_wp2_with fail
            refine (HE3.out _ (HR9.out _ (by first | exact HBr4.out | exact HBr4.out.alloc HBr4.out.size _ | exact (HBr4.out.alloc HBr4.out.size _).alloc (le_al HBr4.out.size) _ | exact ((HBr4.out.alloc HBr4.out.size _).alloc (le_al HBr4.out.size) _).alloc (le_al (le_al HBr4.out.size)) _ | exact HBr3.out | exact HBr3.out.alloc HBr3.out.size _ | exact (HBr3.out.alloc HBr3.out.size _).alloc (le_al HBr3.out.size) _ | exact ((HBr3.out.alloc HBr3.out.size _).alloc (le_al HBr3.out.size) _).alloc (le_al (le_al HBr3.out.size)) _ | exact HBr2.out | exact HBr2.out.alloc HBr2.out.size _ | exact (HBr2.out.alloc HBr2.out.size _).alloc (le_al HBr2.out.size) _ | exact ((HBr2.out.alloc HBr2.out.size _).alloc (le_al HBr2.out.size) _).alloc (le_al (le_al HBr2.out.size)) _ | exact HBr1.out | exact HBr1.out.alloc HBr1.out.size _ | exact (HBr1.out.alloc HBr1.out.size _).alloc (le_al HBr1.out.size) _ | exact ((HBr1.out.alloc HBr1.out.size _).alloc (le_al HBr1.out.size) _).alloc (le_al (le_al HBr1.out.size)) _ | exact HBr0.out | exact HBr0.out.alloc HBr0.out.size _ | exact (HBr0.out.alloc HBr0.out.size _).alloc (le_al HBr0.out.size) _ | exact ((HBr0.out.alloc HBr0.out.size _).alloc (le_al HBr0.out.size) _).alloc (le_al (le_al HBr0.out.size)) _))).mono ?_
            rintro e r5 ⟨v5, rfl, ho5, hbr5⟩
            obtain ⟨hcr5, hfr5⟩ := bcell hbr5
            have hsr5 := hbr5.size
            try simp only [World.size_alloc] at hsr5
            try simp only [size_setCell'] at hsr5
            try have ler5_0 : wr3.heap.size ≤ r5.heap.size := (by omega)
            try have ltr5_0 : wr3.heap.size < r5.heap.size := (by omega)
            try have ler5_1 : r1.heap.size ≤ r5.heap.size := (by omega)
            try have ltr5_1 : r1.heap.size < r5.heap.size := (by omega)
            try have ler5_2 : r2.heap.size ≤ r5.heap.size := (by omega)
            try have ltr5_2 : r2.heap.size < r5.heap.size := (by omega)
            try have ler5_3 : r3.heap.size ≤ r5.heap.size := (by omega)
            try have ltr5_3 : r3.heap.size < r5.heap.size := (by omega)
            try have ler5_4 : r4.heap.size ≤ r5.heap.size := (by omega)
            try have ltr5_4 : r4.heap.size < r5.heap.size := (by omega)
            have HBr5 : Hid (Below wr3.heap.size wr3 r5) := Lib.hid (Below.trans (by first | exact HBr4.out | exact HBr4.out.alloc HBr4.out.size _ | exact (HBr4.out.alloc HBr4.out.size _).alloc (le_al HBr4.out.size) _ | exact ((HBr4.out.alloc HBr4.out.size _).alloc (le_al HBr4.out.size) _).alloc (le_al (le_al HBr4.out.size)) _ | exact HBr3.out | exact HBr3.out.alloc HBr3.out.size _ | exact (HBr3.out.alloc HBr3.out.size _).alloc (le_al HBr3.out.size) _ | exact ((HBr3.out.alloc HBr3.out.size _).alloc (le_al HBr3.out.size) _).alloc (le_al (le_al HBr3.out.size)) _ | exact HBr2.out | exact HBr2.out.alloc HBr2.out.size _ | exact (HBr2.out.alloc HBr2.out.size _).alloc (le_al HBr2.out.size) _ | exact ((HBr2.out.alloc HBr2.out.size _).alloc (le_al HBr2.out.size) _).alloc (le_al (le_al HBr2.out.size)) _ | exact HBr1.out | exact HBr1.out.alloc HBr1.out.size _ | exact (HBr1.out.alloc HBr1.out.size _).alloc (le_al HBr1.out.size) _ | exact ((HBr1.out.alloc HBr1.out.size _).alloc (le_al HBr1.out.size) _).alloc (le_al (le_al HBr1.out.size)) _ | exact HBr0.out | exact HBr0.out.alloc HBr0.out.size _ | exact (HBr0.out.alloc HBr0.out.size _).alloc (le_al HBr0.out.size) _ | exact ((HBr0.out.alloc HBr0.out.size _).alloc (le_al HBr0.out.size) _).alloc (le_al (le_al HBr0.out.size)) _) (hbr5.mono (by (try simp only [World.size_alloc]); (try simp only [size_setCell']); omega)))
            have HNr5 := Lib.hid hbr5
            clear hbr5 hsr5
            have HS6 := Lib.hid (entries_same v4 v5 G.e G.e _ (HP4.out.below HNr5.out) (slAt_own ho5) (by omega))
            clear ho5
            go_wp2_with fail
            refine (HS6.out).mono ?_
            rintro e r6 ⟨b6, rfl, hb6, hbr6⟩
            obtain ⟨hcr6, hfr6⟩ := bcell hbr6
            have hsr6 := hbr6.size
            try simp only [World.size_alloc] at hsr6
            try simp only [size_setCell'] at hsr6
            try have ler6_0 : wr3.heap.size ≤ r6.heap.size := (by omega)
            try have ltr6_0 : wr3.heap.size < r6.heap.size := (by omega)
            try have ler6_1 : r1.heap.size ≤ r6.heap.size := (by omega)
            try have ltr6_1 : r1.heap.size < r6.heap.size := (by omega)
            try have ler6_2 : r2.heap.size ≤ r6.heap.size := (by omega)
            try have ltr6_2 : r2.heap.size < r6.heap.size := (by omega)
            try have ler6_3 : r3.heap.size ≤ r6.heap.size := (by omega)
            try have ltr6_3 : r3.heap.size < r6.heap.size := (by omega)
            try have ler6_4 : r4.heap.size ≤ r6.heap.size := (by omega)
            try have ltr6_4 : r4.heap.size < r6.heap.size := (by omega)
            try have ler6_5 : r5.heap.size ≤ r6.heap.size := (by omega)
            try have ltr6_5 : r5.heap.size < r6.heap.size := (by omega)
            have HBr6 : Hid (Below wr3.heap.size wr3 r6) := Lib.hid (Below.trans (by first | exact HBr5.out | exact HBr5.out.alloc HBr5.out.size _ | exact (HBr5.out.alloc HBr5.out.size _).alloc (le_al HBr5.out.size) _ | exact ((HBr5.out.alloc HBr5.out.size _).alloc (le_al HBr5.out.size) _).alloc (le_al (le_al HBr5.out.size)) _ | exact HBr4.out | exact HBr4.out.alloc HBr4.out.size _ | exact (HBr4.out.alloc HBr4.out.size _).alloc (le_al HBr4.out.size) _ | exact ((HBr4.out.alloc HBr4.out.size _).alloc (le_al HBr4.out.size) _).alloc (le_al (le_al HBr4.out.size)) _ | exact HBr3.out | exact HBr3.out.alloc HBr3.out.size _ | exact (HBr3.out.alloc HBr3.out.size _).alloc (le_al HBr3.out.size) _ | exact ((HBr3.out.alloc HBr3.out.size _).alloc (le_al HBr3.out.size) _).alloc (le_al (le_al HBr3.out.size)) _ | exact HBr2.out | exact HBr2.out.alloc HBr2.out.size _ | exact (HBr2.out.alloc HBr2.out.size _).alloc (le_al HBr2.out.size) _ | exact ((HBr2.out.alloc HBr2.out.size _).alloc (le_al HBr2.out.size) _).alloc (le_al (le_al HBr2.out.size)) _ | exact HBr1.out | exact HBr1.out.alloc HBr1.out.size _ | exact (HBr1.out.alloc HBr1.out.size _).alloc (le_al HBr1.out.size) _ | exact ((HBr1.out.alloc HBr1.out.size _).alloc (le_al HBr1.out.size) _).alloc (le_al (le_al HBr1.out.size)) _ | exact HBr0.out | exact HBr0.out.alloc HBr0.out.size _ | exact (HBr0.out.alloc HBr0.out.size _).alloc (le_al HBr0.out.size) _ | exact ((HBr0.out.alloc HBr0.out.size _).alloc (le_al HBr0.out.size) _).alloc (le_al (le_al HBr0.out.size)) _) (hbr6.mono (by (try simp only [World.size_alloc]); (try simp only [size_setCell']); omega)))
            have HNr6 := Lib.hid hbr6
            clear hbr6 hsr6
            obtain rfl := hb6 rfl
            have HBz6 := Lib.hid (HR9.out _ HBr6.out)
            obtain ⟨wy, HBY, rfl⟩ : ∃ wy, Hid (Below wz.heap.size wz wy) ∧ wy = r6 := ⟨_, HBz6, rfl⟩
            have HY9 : Hid (∀ W, Below wy.heap.size wy W → w.heap.size < W.heap.size ∧ ∀ i v, (d.cells)[i]? = some v → W.cell? ⟨w.heap.size, i, none⟩ = some v) := Lib.hid fun W hW => HZ9.out W (HBY.out.trans (hW.mono HBY.out.size))
            have HBy0 : Hid (Below wy.heap.size wy wy) := Lib.hid (Below.refl _ _)
            have HBWY : Hid (Below w.heap.size w wy) := Lib.hid (HBWZ.out.trans (HBY.out.mono HBWZ.out.size))
            obtain ⟨ylt, hX⟩ := HY9.out wy HBy0.out
            have xx0 := hX 0 _ rfl
            have xx1 := hX 1 _ rfl
            have xx2 := hX 2 _ rfl
            have xx3 := hX 3 _ rfl
            have xx4 := hX 4 _ rfl
            have xx5 := hX 5 _ rfl
            have xx6 := hX 6 _ rfl
            have xx7 := hX 7 _ rfl
            have xx8 := hX 8 _ rfl
            clear hX
            go_wp2_with fail
            refine (N1.out _).mono ?_
            rintro e y1 ⟨rfl, hby1⟩
            obtain ⟨hcy1, hfy1⟩ := bcell hby1
            have hsy1 := hby1.size
            try simp only [World.size_alloc] at hsy1
            try simp only [size_setCell'] at hsy1
            try have ley1_0 : wy.heap.size ≤ y1.heap.size := (by omega)
            try have lty1_0 : wy.heap.size < y1.heap.size := (by omega)
            have HBy1 : Hid (Below wy.heap.size wy y1) := Lib.hid (Below.trans (by first | exact HBy0.out | exact HBy0.out.alloc HBy0.out.size _ | exact (HBy0.out.alloc HBy0.out.size _).alloc (le_al HBy0.out.size) _ | exact ((HBy0.out.alloc HBy0.out.size _).alloc (le_al HBy0.out.size) _).alloc (le_al (le_al HBy0.out.size)) _) (hby1.mono (by (try simp only [World.size_alloc]); (try simp only [size_setCell']); omega)))
            have HNy1 := Lib.hid hby1
            clear hby1 hsy1
            obtain ⟨_, hX⟩ := HY9.out y1 HBy1.out
            have x0 := hX 0 _ rfl
            have x1 := hX 1 _ rfl
            have x2 := hX 2 _ rfl
            have x3 := hX 3 _ rfl
            have x4 := hX 4 _ rfl
            have x5 := hX 5 _ rfl
            have x6 := hX 6 _ rfl
            have x7 := hX 7 _ rfl
            have x8 := hX 8 _ rfl
            clear hX
            go_wp2_with fail
            refine (N2.out _).mono ?_
            rintro e y2 ⟨rfl, hby2⟩
            obtain ⟨hcy2, hfy2⟩ := bcell hby2
            have hsy2 := hby2.size
            try simp only [World.size_alloc] at hsy2
            try simp only [size_setCell'] at hsy2
            try have ley2_0 : wy.heap.size ≤ y2.heap.size := (by omega)
            try have lty2_0 : wy.heap.size < y2.heap.size := (by omega)
            try have ley2_1 : y1.heap.size ≤ y2.heap.size := (by omega)
            try have lty2_1 : y1.heap.size < y2.heap.size := (by omega)
            have HBy2 : Hid (Below wy.heap.size wy y2) := Lib.hid (Below.trans (by first | exact HBy1.out | exact HBy1.out.alloc HBy1.out.size _ | exact (HBy1.out.alloc HBy1.out.size _).alloc (le_al HBy1.out.size) _ | exact ((HBy1.out.alloc HBy1.out.size _).alloc (le_al HBy1.out.size) _).alloc (le_al (le_al HBy1.out.size)) _ | exact HBy0.out | exact HBy0.out.alloc HBy0.out.size _ | exact (HBy0.out.alloc HBy0.out.size _).alloc (le_al HBy0.out.size) _ | exact ((HBy0.out.alloc HBy0.out.size _).alloc (le_al HBy0.out.size) _).alloc (le_al (le_al HBy0.out.size)) _) (hby2.mono (by (try simp only [World.size_alloc]); (try simp only [size_setCell']); omega)))
            have HNy2 := Lib.hid hby2
            clear hby2 hsy2
            obtain ⟨_, hX⟩ := HY9.out y2 HBy2.out
            have x0 := hX 0 _ rfl
            have x1 := hX 1 _ rfl
            have x2 := hX 2 _ rfl
            have x3 := hX 3 _ rfl
            have x4 := hX 4 _ rfl
            have x5 := hX 5 _ rfl
            have x6 := hX 6 _ rfl
            have x7 := hX 7 _ rfl
            have x8 := hX 8 _ rfl
            clear hX
            go_wp2_with fail
            refine (N3.out _).mono ?_
            rintro e y3 ⟨rfl, hby3⟩
            obtain ⟨hcy3, hfy3⟩ := bcell hby3
            have hsy3 := hby3.size
            try simp only [World.size_alloc] at hsy3
            try simp only [size_setCell'] at hsy3
            try have ley3_0 : wy.heap.size ≤ y3.heap.size := (by omega)
            try have lty3_0 : wy.heap.size < y3.heap.size := (by omega)
            try have ley3_1 : y1.heap.size ≤ y3.heap.size := (by omega)
            try have lty3_1 : y1.heap.size < y3.heap.size := (by omega)
            try have ley3_2 : y2.heap.size ≤ y3.heap.size := (by omega)
            try have lty3_2 : y2.heap.size < y3.heap.size := (by omega)
            have HBy3 : Hid (Below wy.heap.size wy y3) := Lib.hid (Below.trans (by first | exact HBy2.out | exact HBy2.out.alloc HBy2.out.size _ | exact (HBy2.out.alloc HBy2.out.size _).alloc (le_al HBy2.out.size) _ | exact ((HBy2.out.alloc HBy2.out.size _).alloc (le_al HBy2.out.size) _).alloc (le_al (le_al HBy2.out.size)) _ | exact HBy1.out | exact HBy1.out.alloc HBy1.out.size _ | exact (HBy1.out.alloc HBy1.out.size _).alloc (le_al HBy1.out.size) _ | exact ((HBy1.out.alloc HBy1.out.size _).alloc (le_al HBy1.out.size) _).alloc (le_al (le_al HBy1.out.size)) _ | exact HBy0.out | exact HBy0.out.alloc HBy0.out.size _ | exact (HBy0.out.alloc HBy0.out.size _).alloc (le_al HBy0.out.size) _ | exact ((HBy0.out.alloc HBy0.out.size _).alloc (le_al HBy0.out.size) _).alloc (le_al (le_al HBy0.out.size)) _) (hby3.mono (by (try simp only [World.size_alloc]); (try simp only [size_setCell']); omega)))
            have HNy3 := Lib.hid hby3
            clear hby3 hsy3
            obtain ⟨_, hX⟩ := HY9.out y3 HBy3.out
            have x0 := hX 0 _ rfl
            have x1 := hX 1 _ rfl
            have x2 := hX 2 _ rfl
            have x3 := hX 3 _ rfl
            have x4 := hX 4 _ rfl
            have x5 := hX 5 _ rfl
            have x6 := hX 6 _ rfl
            have x7 := hX 7 _ rfl
            have x8 := hX 8 _ rfl
            clear hX
            go_wp2_with fail
            refine (N4.out _).mono ?_
            rintro e y4 ⟨rfl, hby4⟩
            obtain ⟨hcy4, hfy4⟩ := bcell hby4
            have hsy4 := hby4.size
            try simp only [World.size_alloc] at hsy4
            try simp only [size_setCell'] at hsy4
            try have ley4_0 : wy.heap.size ≤ y4.heap.size := (by omega)
            try have lty4_0 : wy.heap.size < y4.heap.size := (by omega)
            try have ley4_1 : y1.heap.size ≤ y4.heap.size := (by omega)
            try have lty4_1 : y1.heap.size < y4.heap.size := (by omega)
            try have ley4_2 : y2.heap.size ≤ y4.heap.size := (by omega)
            try have lty4_2 : y2.heap.size < y4.heap.size := (by omega)
            try have ley4_3 : y3.heap.size ≤ y4.heap.size := (by omega)
            try have lty4_3 : y3.heap.size < y4.heap.size := (by omega)
            have HBy4 : Hid (Below wy.heap.size wy y4) := Lib.hid (Below.trans (by first | exact HBy3.out | exact HBy3.out.alloc HBy3.out.size _ | exact (HBy3.out.alloc HBy3.out.size _).alloc (le_al HBy3.out.size) _ | exact ((HBy3.out.alloc HBy3.out.size _).alloc (le_al HBy3.out.size) _).alloc (le_al (le_al HBy3.out.size)) _ | exact HBy2.out | exact HBy2.out.alloc HBy2.out.size _ | exact (HBy2.out.alloc HBy2.out.size _).alloc (le_al HBy2.out.size) _ | exact ((HBy2.out.alloc HBy2.out.size _).alloc (le_al HBy2.out.size) _).alloc (le_al (le_al HBy2.out.size)) _ | exact HBy1.out | exact HBy1.out.alloc HBy1.out.size _ | exact (HBy1.out.alloc HBy1.out.size _).alloc (le_al HBy1.out.size) _ | exact ((HBy1.out.alloc HBy1.out.size _).alloc (le_al HBy1.out.size) _).alloc (le_al (le_al HBy1.out.size)) _ | exact HBy0.out | exact HBy0.out.alloc HBy0.out.size _ | exact (HBy0.out.alloc HBy0.out.size _).alloc (le_al HBy0.out.size) _ | exact ((HBy0.out.alloc HBy0.out.size _).alloc (le_al HBy0.out.size) _).alloc (le_al (le_al HBy0.out.size)) _) (hby4.mono (by (try simp only [World.size_alloc]); (try simp only [size_setCell']); omega)))
            have HNy4 := Lib.hid hby4
            clear hby4 hsy4
            go_wp2_with fail
            refine (N5.out _).mono ?_
            rintro e y5 ⟨rfl, hby5⟩
            obtain ⟨hcy5, hfy5⟩ := bcell hby5
            have hsy5 := hby5.size
            try simp only [World.size_alloc] at hsy5
            try simp only [size_setCell'] at hsy5
            try have ley5_0 : wy.heap.size ≤ y5.heap.size := (by omega)
            try have lty5_0 : wy.heap.size < y5.heap.size := (by omega)
            try have ley5_1 : y1.heap.size ≤ y5.heap.size := (by omega)
            try have lty5_1 : y1.heap.size < y5.heap.size := (by omega)
            try have ley5_2 : y2.heap.size ≤ y5.heap.size := (by omega)
            try have lty5_2 : y2.heap.size < y5.heap.size := (by omega)
            try have ley5_3 : y3.heap.size ≤ y5.heap.size := (by omega)
            try have lty5_3 : y3.heap.size < y5.heap.size := (by omega)
            try have ley5_4 : y4.heap.size ≤ y5.heap.size := (by omega)
            try have lty5_4 : y4.heap.size < y5.heap.size := (by omega)
            have HBy5 : Hid (Below wy.heap.size wy y5) := Lib.hid (Below.trans (by first | exact HBy4.out | exact HBy4.out.alloc HBy4.out.size _ | exact (HBy4.out.alloc HBy4.out.size _).alloc (le_al HBy4.out.size) _ | exact ((HBy4.out.alloc HBy4.out.size _).alloc (le_al HBy4.out.size) _).alloc (le_al (le_al HBy4.out.size)) _ | exact HBy3.out | exact HBy3.out.alloc HBy3.out.size _ | exact (HBy3.out.alloc HBy3.out.size _).alloc (le_al HBy3.out.size) _ | exact ((HBy3.out.alloc HBy3.out.size _).alloc (le_al HBy3.out.size) _).alloc (le_al (le_al HBy3.out.size)) _ | exact HBy2.out | exact HBy2.out.alloc HBy2.out.size _ | exact (HBy2.out.alloc HBy2.out.size _).alloc (le_al HBy2.out.size) _ | exact ((HBy2.out.alloc HBy2.out.size _).alloc (le_al HBy2.out.size) _).alloc (le_al (le_al HBy2.out.size)) _ | exact HBy1.out | exact HBy1.out.alloc HBy1.out.size _ | exact (HBy1.out.alloc HBy1.out.size _).alloc (le_al HBy1.out.size) _ | exact ((HBy1.out.alloc HBy1.out.size _).alloc (le_al HBy1.out.size) _).alloc (le_al (le_al HBy1.out.size)) _ | exact HBy0.out | exact HBy0.out.alloc HBy0.out.size _ | exact (HBy0.out.alloc HBy0.out.size _).alloc (le_al HBy0.out.size) _ | exact ((HBy0.out.alloc HBy0.out.size _).alloc (le_al HBy0.out.size) _).alloc (le_al (le_al HBy0.out.size)) _) (hby5.mono (by (try simp only [World.size_alloc]); (try simp only [size_setCell']); omega)))
            have HNy5 := Lib.hid hby5
            clear hby5 hsy5
            go_wp2_with fail
            refine (N6.out _).mono ?_
            rintro e y6 ⟨rfl, hby6⟩
            obtain ⟨hcy6, hfy6⟩ := bcell hby6
            have hsy6 := hby6.size
            try simp only [World.size_alloc] at hsy6
            try simp only [size_setCell'] at hsy6
            try have ley6_0 : wy.heap.size ≤ y6.heap.size := (by omega)
            try have lty6_0 : wy.heap.size < y6.heap.size := (by omega)
            try have ley6_1 : y1.heap.size ≤ y6.heap.size := (by omega)
            try have lty6_1 : y1.heap.size < y6.heap.size := (by omega)
            try have ley6_2 : y2.heap.size ≤ y6.heap.size := (by omega)
            try have lty6_2 : y2.heap.size < y6.heap.size := (by omega)
            try have ley6_3 : y3.heap.size ≤ y6.heap.size := (by omega)
            try have lty6_3 : y3.heap.size < y6.heap.size := (by omega)
            try have ley6_4 : y4.heap.size ≤ y6.heap.size := (by omega)
            try have lty6_4 : y4.heap.size < y6.heap.size := (by omega)
            try have ley6_5 : y5.heap.size ≤ y6.heap.size := (by omega)
            try have lty6_5 : y5.heap.size < y6.heap.size := (by omega)
            have HBy6 : Hid (Below wy.heap.size wy y6) := Lib.hid (Below.trans (by first | exact HBy5.out | exact HBy5.out.alloc HBy5.out.size _ | exact (HBy5.out.alloc HBy5.out.size _).alloc (le_al HBy5.out.size) _ | exact ((HBy5.out.alloc HBy5.out.size _).alloc (le_al HBy5.out.size) _).alloc (le_al (le_al HBy5.out.size)) _ | exact HBy4.out | exact HBy4.out.alloc HBy4.out.size _ | exact (HBy4.out.alloc HBy4.out.size _).alloc (le_al HBy4.out.size) _ | exact ((HBy4.out.alloc HBy4.out.size _).alloc (le_al HBy4.out.size) _).alloc (le_al (le_al HBy4.out.size)) _ | exact HBy3.out | exact HBy3.out.alloc HBy3.out.size _ | exact (HBy3.out.alloc HBy3.out.size _).alloc (le_al HBy3.out.size) _ | exact ((HBy3.out.alloc HBy3.out.size _).alloc (le_al HBy3.out.size) _).alloc (le_al (le_al HBy3.out.size)) _ | exact HBy2.out | exact HBy2.out.alloc HBy2.out.size _ | exact (HBy2.out.alloc HBy2.out.size _).alloc (le_al HBy2.out.size) _ | exact ((HBy2.out.alloc HBy2.out.size _).alloc (le_al HBy2.out.size) _).alloc (le_al (le_al HBy2.out.size)) _ | exact HBy1.out | exact HBy1.out.alloc HBy1.out.size _ | exact (HBy1.out.alloc HBy1.out.size _).alloc (le_al HBy1.out.size) _ | exact ((HBy1.out.alloc HBy1.out.size _).alloc (le_al HBy1.out.size) _).alloc (le_al (le_al HBy1.out.size)) _ | exact HBy0.out | exact HBy0.out.alloc HBy0.out.size _ | exact (HBy0.out.alloc HBy0.out.size _).alloc (le_al HBy0.out.size) _ | exact ((HBy0.out.alloc HBy0.out.size _).alloc (le_al HBy0.out.size) _).alloc (le_al (le_al HBy0.out.size)) _) (hby6.mono (by (try simp only [World.size_alloc]); (try simp only [size_setCell']); omega)))
            have HNy6 := Lib.hid hby6
            clear hby6 hsy6
            go_wp2_with fail
            refine (N7.out _).mono ?_
            rintro e y7 ⟨rfl, hby7⟩
            obtain ⟨hcy7, hfy7⟩ := bcell hby7
            have hsy7 := hby7.size
            try simp only [World.size_alloc] at hsy7
            try simp only [size_setCell'] at hsy7
            try have ley7_0 : wy.heap.size ≤ y7.heap.size := (by omega)
            try have lty7_0 : wy.heap.size < y7.heap.size := (by omega)
            try have ley7_1 : y1.heap.size ≤ y7.heap.size := (by omega)
            try have lty7_1 : y1.heap.size < y7.heap.size := (by omega)
            try have ley7_2 : y2.heap.size ≤ y7.heap.size := (by omega)
            try have lty7_2 : y2.heap.size < y7.heap.size := (by omega)
            try have ley7_3 : y3.heap.size ≤ y7.heap.size := (by omega)
            try have lty7_3 : y3.heap.size < y7.heap.size := (by omega)
            try have ley7_4 : y4.heap.size ≤ y7.heap.size := (by omega)
            try have lty7_4 : y4.heap.size < y7.heap.size := (by omega)
            try have ley7_5 : y5.heap.size ≤ y7.heap.size := (by omega)
            try have lty7_5 : y5.heap.size < y7.heap.size := (by omega)
            try have ley7_6 : y6.heap.size ≤ y7.heap.size := (by omega)
            try have lty7_6 : y6.heap.size < y7.heap.size := (by omega)
            have HBy7 : Hid (Below wy.heap.size wy y7) := Lib.hid (Below.trans (by first | exact HBy6.out | exact HBy6.out.alloc HBy6.out.size _ | exact (HBy6.out.alloc HBy6.out.size _).alloc (le_al HBy6.out.size) _ | exact ((HBy6.out.alloc HBy6.out.size _).alloc (le_al HBy6.out.size) _).alloc (le_al (le_al HBy6.out.size)) _ | exact HBy5.out | exact HBy5.out.alloc HBy5.out.size _ | exact (HBy5.out.alloc HBy5.out.size _).alloc (le_al HBy5.out.size) _ | exact ((HBy5.out.alloc HBy5.out.size _).alloc (le_al HBy5.out.size) _).alloc (le_al (le_al HBy5.out.size)) _ | exact HBy4.out | exact HBy4.out.alloc HBy4.out.size _ | exact (HBy4.out.alloc HBy4.out.size _).alloc (le_al HBy4.out.size) _ | exact ((HBy4.out.alloc HBy4.out.size _).alloc (le_al HBy4.out.size) _).alloc (le_al (le_al HBy4.out.size)) _ | exact HBy3.out | exact HBy3.out.alloc HBy3.out.size _ | exact (HBy3.out.alloc HBy3.out.size _).alloc (le_al HBy3.out.size) _ | exact ((HBy3.out.alloc HBy3.out.size _).alloc (le_al HBy3.out.size) _).alloc (le_al (le_al HBy3.out.size)) _ | exact HBy2.out | exact HBy2.out.alloc HBy2.out.size _ | exact (HBy2.out.alloc HBy2.out.size _).alloc (le_al HBy2.out.size) _ | exact ((HBy2.out.alloc HBy2.out.size _).alloc (le_al HBy2.out.size) _).alloc (le_al (le_al HBy2.out.size)) _ | exact HBy1.out | exact HBy1.out.alloc HBy1.out.size _ | exact (HBy1.out.alloc HBy1.out.size _).alloc (le_al HBy1.out.size) _ | exact ((HBy1.out.alloc HBy1.out.size _).alloc (le_al HBy1.out.size) _).alloc (le_al (le_al HBy1.out.size)) _ | exact HBy0.out | exact HBy0.out.alloc HBy0.out.size _ | exact (HBy0.out.alloc HBy0.out.size _).alloc (le_al HBy0.out.size) _ | exact ((HBy0.out.alloc HBy0.out.size _).alloc (le_al HBy0.out.size) _).alloc (le_al (le_al HBy0.out.size)) _) (hby7.mono (by (try simp only [World.size_alloc]); (try simp only [size_setCell']); omega)))
            have HNy7 := Lib.hid hby7
            clear hby7 hsy7
            go_wp2_with fail
            refine (N8.out _).mono ?_
            rintro e y8 ⟨rfl, hby8⟩
            obtain ⟨hcy8, hfy8⟩ := bcell hby8
            have hsy8 := hby8.size
            try simp only [World.size_alloc] at hsy8
            try simp only [size_setCell'] at hsy8
            try have ley8_0 : wy.heap.size ≤ y8.heap.size := (by omega)
            try have lty8_0 : wy.heap.size < y8.heap.size := (by omega)
            try have ley8_1 : y1.heap.size ≤ y8.heap.size := (by omega)
            try have lty8_1 : y1.heap.size < y8.heap.size := (by omega)
            try have ley8_2 : y2.heap.size ≤ y8.heap.size := (by omega)
            try have lty8_2 : y2.heap.size < y8.heap.size := (by omega)
            try have ley8_3 : y3.heap.size ≤ y8.heap.size := (by omega)
            try have lty8_3 : y3.heap.size < y8.heap.size := (by omega)
            try have ley8_4 : y4.heap.size ≤ y8.heap.size := (by omega)
            try have lty8_4 : y4.heap.size < y8.heap.size := (by omega)
            try have ley8_5 : y5.heap.size ≤ y8.heap.size := (by omega)
            try have lty8_5 : y5.heap.size < y8.heap.size := (by omega)
            try have ley8_6 : y6.heap.size ≤ y8.heap.size := (by omega)
            try have lty8_6 : y6.heap.size < y8.heap.size := (by omega)
            try have ley8_7 : y7.heap.size ≤ y8.heap.size := (by omega)
            try have lty8_7 : y7.heap.size < y8.heap.size := (by omega)
            have HBy8 : Hid (Below wy.heap.size wy y8) := Lib.hid (Below.trans (by first | exact HBy7.out | exact HBy7.out.alloc HBy7.out.size _ | exact (HBy7.out.alloc HBy7.out.size _).alloc (le_al HBy7.out.size) _ | exact ((HBy7.out.alloc HBy7.out.size _).alloc (le_al HBy7.out.size) _).alloc (le_al (le_al HBy7.out.size)) _ | exact HBy6.out | exact HBy6.out.alloc HBy6.out.size _ | exact (HBy6.out.alloc HBy6.out.size _).alloc (le_al HBy6.out.size) _ | exact ((HBy6.out.alloc HBy6.out.size _).alloc (le_al HBy6.out.size) _).alloc (le_al (le_al HBy6.out.size)) _ | exact HBy5.out | exact HBy5.out.alloc HBy5.out.size _ | exact (HBy5.out.alloc HBy5.out.size _).alloc (le_al HBy5.out.size) _ | exact ((HBy5.out.alloc HBy5.out.size _).alloc (le_al HBy5.out.size) _).alloc (le_al (le_al HBy5.out.size)) _ | exact HBy4.out | exact HBy4.out.alloc HBy4.out.size _ | exact (HBy4.out.alloc HBy4.out.size _).alloc (le_al HBy4.out.size) _ | exact ((HBy4.out.alloc HBy4.out.size _).alloc (le_al HBy4.out.size) _).alloc (le_al (le_al HBy4.out.size)) _ | exact HBy3.out | exact HBy3.out.alloc HBy3.out.size _ | exact (HBy3.out.alloc HBy3.out.size _).alloc (le_al HBy3.out.size) _ | exact ((HBy3.out.alloc HBy3.out.size _).alloc (le_al HBy3.out.size) _).alloc (le_al (le_al HBy3.out.size)) _ | exact HBy2.out | exact HBy2.out.alloc HBy2.out.size _ | exact (HBy2.out.alloc HBy2.out.size _).alloc (le_al HBy2.out.size) _ | exact ((HBy2.out.alloc HBy2.out.size _).alloc (le_al HBy2.out.size) _).alloc (le_al (le_al HBy2.out.size)) _ | exact HBy1.out | exact HBy1.out.alloc HBy1.out.size _ | exact (HBy1.out.alloc HBy1.out.size _).alloc (le_al HBy1.out.size) _ | exact ((HBy1.out.alloc HBy1.out.size _).alloc (le_al HBy1.out.size) _).alloc (le_al (le_al HBy1.out.size)) _ | exact HBy0.out | exact HBy0.out.alloc HBy0.out.size _ | exact (HBy0.out.alloc HBy0.out.size _).alloc (le_al HBy0.out.size) _ | exact ((HBy0.out.alloc HBy0.out.size _).alloc (le_al HBy0.out.size) _).alloc (le_al (le_al HBy0.out.size)) _) (hby8.mono (by (try simp only [World.size_alloc]); (try simp only [size_setCell']); omega)))
            have HNy8 := Lib.hid hby8
            clear hby8 hsy8
            go_wp2_with fail
            refine (N9.out _).mono ?_
            rintro e y9 ⟨rfl, hby9⟩
            obtain ⟨hcy9, hfy9⟩ := bcell hby9
            have hsy9 := hby9.size
            try simp only [World.size_alloc] at hsy9
            try simp only [size_setCell'] at hsy9
            try have ley9_0 : wy.heap.size ≤ y9.heap.size := (by omega)
            try have lty9_0 : wy.heap.size < y9.heap.size := (by omega)
            try have ley9_1 : y1.heap.size ≤ y9.heap.size := (by omega)
            try have lty9_1 : y1.heap.size < y9.heap.size := (by omega)
            try have ley9_2 : y2.heap.size ≤ y9.heap.size := (by omega)
            try have lty9_2 : y2.heap.size < y9.heap.size := (by omega)
            try have ley9_3 : y3.heap.size ≤ y9.heap.size := (by omega)
            try have lty9_3 : y3.heap.size < y9.heap.size := (by omega)
            try have ley9_4 : y4.heap.size ≤ y9.heap.size := (by omega)
            try have lty9_4 : y4.heap.size < y9.heap.size := (by omega)
            try have ley9_5 : y5.heap.size ≤ y9.heap.size := (by omega)
            try have lty9_5 : y5.heap.size < y9.heap.size := (by omega)
            try have ley9_6 : y6.heap.size ≤ y9.heap.size := (by omega)
            try have lty9_6 : y6.heap.size < y9.heap.size := (by omega)
            try have ley9_7 : y7.heap.size ≤ y9.heap.size := (by omega)
            try have lty9_7 : y7.heap.size < y9.heap.size := (by omega)
            try have ley9_8 : y8.heap.size ≤ y9.heap.size := (by omega)
            try have lty9_8 : y8.heap.size < y9.heap.size := (by omega)
            have HBy9 : Hid (Below wy.heap.size wy y9) := Lib.hid (Below.trans (by first | exact HBy8.out | exact HBy8.out.alloc HBy8.out.size _ | exact (HBy8.out.alloc HBy8.out.size _).alloc (le_al HBy8.out.size) _ | exact ((HBy8.out.alloc HBy8.out.size _).alloc (le_al HBy8.out.size) _).alloc (le_al (le_al HBy8.out.size)) _ | exact HBy7.out | exact HBy7.out.alloc HBy7.out.size _ | exact (HBy7.out.alloc HBy7.out.size _).alloc (le_al HBy7.out.size) _ | exact ((HBy7.out.alloc HBy7.out.size _).alloc (le_al HBy7.out.size) _).alloc (le_al (le_al HBy7.out.size)) _ | exact HBy6.out | exact HBy6.out.alloc HBy6.out.size _ | exact (HBy6.out.alloc HBy6.out.size _).alloc (le_al HBy6.out.size) _ | exact ((HBy6.out.alloc HBy6.out.size _).alloc (le_al HBy6.out.size) _).alloc (le_al (le_al HBy6.out.size)) _ | exact HBy5.out | exact HBy5.out.alloc HBy5.out.size _ | exact (HBy5.out.alloc HBy5.out.size _).alloc (le_al HBy5.out.size) _ | exact ((HBy5.out.alloc HBy5.out.size _).alloc (le_al HBy5.out.size) _).alloc (le_al (le_al HBy5.out.size)) _ | exact HBy4.out | exact HBy4.out.alloc HBy4.out.size _ | exact (HBy4.out.alloc HBy4.out.size _).alloc (le_al HBy4.out.size) _ | exact ((HBy4.out.alloc HBy4.out.size _).alloc (le_al HBy4.out.size) _).alloc (le_al (le_al HBy4.out.size)) _ | exact HBy3.out | exact HBy3.out.alloc HBy3.out.size _ | exact (HBy3.out.alloc HBy3.out.size _).alloc (le_al HBy3.out.size) _ | exact ((HBy3.out.alloc HBy3.out.size _).alloc (le_al HBy3.out.size) _).alloc (le_al (le_al HBy3.out.size)) _ | exact HBy2.out | exact HBy2.out.alloc HBy2.out.size _ | exact (HBy2.out.alloc HBy2.out.size _).alloc (le_al HBy2.out.size) _ | exact ((HBy2.out.alloc HBy2.out.size _).alloc (le_al HBy2.out.size) _).alloc (le_al (le_al HBy2.out.size)) _ | exact HBy1.out | exact HBy1.out.alloc HBy1.out.size _ | exact (HBy1.out.alloc HBy1.out.size _).alloc (le_al HBy1.out.size) _ | exact ((HBy1.out.alloc HBy1.out.size _).alloc (le_al HBy1.out.size) _).alloc (le_al (le_al HBy1.out.size)) _ | exact HBy0.out | exact HBy0.out.alloc HBy0.out.size _ | exact (HBy0.out.alloc HBy0.out.size _).alloc (le_al HBy0.out.size) _ | exact ((HBy0.out.alloc HBy0.out.size _).alloc (le_al HBy0.out.size) _).alloc (le_al (le_al HBy0.out.size)) _) (hby9.mono (by (try simp only [World.size_alloc]); (try simp only [size_setCell']); omega)))
            have HNy9 := Lib.hid hby9
            clear hby9 hsy9
            go_wp2
            go_ret
            exact ⟨rfl, HBWY.out.trans (HBy9.out.mono HBWY.out.size)⟩
          · have HT0 := Lib.hid ht0
            clear ht0
            generalize G.tieWhy d.e = tw at *
            go_wp2_with fail
            refine HTie.out.mono ?_
            rintro e z2 ⟨rfl, hH2, hT2⟩
            have HBz2 := Lib.hid (HBz1.out.trans (own_below hT2 y2 y3 hs1))
            clear hH2 hT2 d0 d1 d2 d3 d4 d5 d6 d7 d8
            obtain ⟨wy, HBY, rfl⟩ : ∃ wy, Hid (Below wz.heap.size wz wy) ∧ wy = z2 := ⟨_, HBz2, rfl⟩
            have HY9 : Hid (∀ W, Below wy.heap.size wy W → w.heap.size < W.heap.size ∧ ∀ i v, (d.cells)[i]? = some v → W.cell? ⟨w.heap.size, i, none⟩ = some v) := Lib.hid fun W hW => HZ9.out W (HBY.out.trans (hW.mono HBY.out.size))
            have HBy0 : Hid (Below wy.heap.size wy wy) := Lib.hid (Below.refl _ _)
            have HBWY : Hid (Below w.heap.size w wy) := Lib.hid (HBWZ.out.trans (HBY.out.mono HBWZ.out.size))
            obtain ⟨ylt, hX⟩ := HY9.out wy HBy0.out
            have xx0 := hX 0 _ rfl
            have xx1 := hX 1 _ rfl
            have xx2 := hX 2 _ rfl
            have xx3 := hX 3 _ rfl
            have xx4 := hX 4 _ rfl
            have xx5 := hX 5 _ rfl
            have xx6 := hX 6 _ rfl
            have xx7 := hX 7 _ rfl
            have xx8 := hX 8 _ rfl
            clear hX
            go_wp2_with fail
            refine (N1.out _).mono ?_
            rintro e y1 ⟨rfl, hby1⟩
            obtain ⟨hcy1, hfy1⟩ := bcell hby1
            have hsy1 := hby1.size
            try simp only [World.size_alloc] at hsy1
            try simp only [size_setCell'] at hsy1
            try have ley1_0 : wy.heap.size ≤ y1.heap.size := (by omega)
            try have lty1_0 : wy.heap.size < y1.heap.size := (by omega)
            have HBy1 : Hid (Below wy.heap.size wy y1) := Lib.hid (Below.trans (by first | exact HBy0.out | exact HBy0.out.alloc HBy0.out.size _ | exact (HBy0.out.alloc HBy0.out.size _).alloc (le_al HBy0.out.size) _ | exact ((HBy0.out.alloc HBy0.out.size _).alloc (le_al HBy0.out.size) _).alloc (le_al (le_al HBy0.out.size)) _) (hby1.mono (by (try simp only [World.size_alloc]); (try simp only [size_setCell']); omega)))
            have HNy1 := Lib.hid hby1
            clear hby1 hsy1
            obtain ⟨_, hX⟩ := HY9.out y1 HBy1.out
            have x0 := hX 0 _ rfl
            have x1 := hX 1 _ rfl
            have x2 := hX 2 _ rfl
            have x3 := hX 3 _ rfl
            have x4 := hX 4 _ rfl
            have x5 := hX 5 _ rfl
            have x6 := hX 6 _ rfl
            have x7 := hX 7 _ rfl
            have x8 := hX 8 _ rfl
            clear hX
            go_wp2_with fail
            refine (N2.out _).mono ?_
            rintro e y2 ⟨rfl, hby2⟩
            obtain ⟨hcy2, hfy2⟩ := bcell hby2
            have hsy2 := hby2.size
            try simp only [World.size_alloc] at hsy2
            try simp only [size_setCell'] at hsy2
            try have ley2_0 : wy.heap.size ≤ y2.heap.size := (by omega)
            try have lty2_0 : wy.heap.size < y2.heap.size := (by omega)
            try have ley2_1 : y1.heap.size ≤ y2.heap.size := (by omega)
            try have lty2_1 : y1.heap.size < y2.heap.size := (by omega)
            have HBy2 : Hid (Below wy.heap.size wy y2) := Lib.hid (Below.trans (by first | exact HBy1.out | exact HBy1.out.alloc HBy1.out.size _ | exact (HBy1.out.alloc HBy1.out.size _).alloc (le_al HBy1.out.size) _ | exact ((HBy1.out.alloc HBy1.out.size _).alloc (le_al HBy1.out.size) _).alloc (le_al (le_al HBy1.out.size)) _ | exact HBy0.out | exact HBy0.out.alloc HBy0.out.size _ | exact (HBy0.out.alloc HBy0.out.size _).alloc (le_al HBy0.out.size) _ | exact ((HBy0.out.alloc HBy0.out.size _).alloc (le_al HBy0.out.size) _).alloc (le_al (le_al HBy0.out.size)) _) (hby2.mono (by (try simp only [World.size_alloc]); (try simp only [size_setCell']); omega)))
            have HNy2 := Lib.hid hby2
            clear hby2 hsy2
            obtain ⟨_, hX⟩ := HY9.out y2 HBy2.out
            have x0 := hX 0 _ rfl
            have x1 := hX 1 _ rfl
            have x2 := hX 2 _ rfl
            have x3 := hX 3 _ rfl
            have x4 := hX 4 _ rfl
            have x5 := hX 5 _ rfl
            have x6 := hX 6 _ rfl
            have x7 := hX 7 _ rfl
            have x8 := hX 8 _ rfl
            clear hX
            go_wp2_with fail
            refine (N3.out _).mono ?_
            rintro e y3 ⟨rfl, hby3⟩
            obtain ⟨hcy3, hfy3⟩ := bcell hby3
            have hsy3 := hby3.size
            try simp only [World.size_alloc] at hsy3
            try simp only [size_setCell'] at hsy3
            try have ley3_0 : wy.heap.size ≤ y3.heap.size := (by omega)
            try have lty3_0 : wy.heap.size < y3.heap.size := (by omega)
            try have ley3_1 : y1.heap.size ≤ y3.heap.size := (by omega)
            try have lty3_1 : y1.heap.size < y3.heap.size := (by omega)
            try have ley3_2 : y2.heap.size ≤ y3.heap.size := (by omega)
            try have lty3_2 : y2.heap.size < y3.heap.size := (by omega)
            have HBy3 : Hid (Below wy.heap.size wy y3) := Lib.hid (Below.trans (by first | exact HBy2.out | exact HBy2.out.alloc HBy2.out.size _ | exact (HBy2.out.alloc HBy2.out.size _).alloc (le_al HBy2.out.size) _ | exact ((HBy2.out.alloc HBy2.out.size _).alloc (le_al HBy2.out.size) _).alloc (le_al (le_al HBy2.out.size)) _ | exact HBy1.out | exact HBy1.out.alloc HBy1.out.size _ | exact (HBy1.out.alloc HBy1.out.size _).alloc (le_al HBy1.out.size) _ | exact ((HBy1.out.alloc HBy1.out.size _).alloc (le_al HBy1.out.size) _).alloc (le_al (le_al HBy1.out.size)) _ | exact HBy0.out | exact HBy0.out.alloc HBy0.out.size _ | exact (HBy0.out.alloc HBy0.out.size _).alloc (le_al HBy0.out.size) _ | exact ((HBy0.out.alloc HBy0.out.size _).alloc (le_al HBy0.out.size) _).alloc (le_al (le_al HBy0.out.size)) _) (hby3.mono (by (try simp only [World.size_alloc]); (try simp only [size_setCell']); omega)))
            have HNy3 := Lib.hid hby3
            clear hby3 hsy3
            obtain ⟨_, hX⟩ := HY9.out y3 HBy3.out
            have x0 := hX 0 _ rfl
            have x1 := hX 1 _ rfl
            have x2 := hX 2 _ rfl
            have x3 := hX 3 _ rfl
            have x4 := hX 4 _ rfl
            have x5 := hX 5 _ rfl
            have x6 := hX 6 _ rfl
            have x7 := hX 7 _ rfl
            have x8 := hX 8 _ rfl
            clear hX
            go_wp2_with fail
            refine (N4.out _).mono ?_
            rintro e y4 ⟨rfl, hby4⟩
            obtain ⟨hcy4, hfy4⟩ := bcell hby4
            have hsy4 := hby4.size
            try simp only [World.size_alloc] at hsy4
            try simp only [size_setCell'] at hsy4
            try have ley4_0 : wy.heap.size ≤ y4.heap.size := (by omega)
            try have lty4_0 : wy.heap.size < y4.heap.size := (by omega)
            try have ley4_1 : y1.heap.size ≤ y4.heap.size := (by omega)
            try have lty4_1 : y1.heap.size < y4.heap.size := (by omega)
            try have ley4_2 : y2.heap.size ≤ y4.heap.size := (by omega)
            try have lty4_2 : y2.heap.size < y4.heap.size := (by omega)
            try have ley4_3 : y3.heap.size ≤ y4.heap.size := (by omega)
            try have lty4_3 : y3.heap.size < y4.heap.size := (by omega)
            have HBy4 : Hid (Below wy.heap.size wy y4) := Lib.hid (Below.trans (by first | exact HBy3.out | exact HBy3.out.alloc HBy3.out.size _ | exact (HBy3.out.alloc HBy3.out.size _).alloc (le_al HBy3.out.size) _ | exact ((HBy3.out.alloc HBy3.out.size _).alloc (le_al HBy3.out.size) _).alloc (le_al (le_al HBy3.out.size)) _ | exact HBy2.out | exact HBy2.out.alloc HBy2.out.size _ | exact (HBy2.out.alloc HBy2.out.size _).alloc (le_al HBy2.out.size) _ | exact ((HBy2.out.alloc HBy2.out.size _).alloc (le_al HBy2.out.size) _).alloc (le_al (le_al HBy2.out.size)) _ | exact HBy1.out | exact HBy1.out.alloc HBy1.out.size _ | exact (HBy1.out.alloc HBy1.out.size _).alloc (le_al HBy1.out.size) _ | exact ((HBy1.out.alloc HBy1.out.size _).alloc (le_al HBy1.out.size) _).alloc (le_al (le_al HBy1.out.size)) _ | exact HBy0.out | exact HBy0.out.alloc HBy0.out.size _ | exact (HBy0.out.alloc HBy0.out.size _).alloc (le_al HBy0.out.size) _ | exact ((HBy0.out.alloc HBy0.out.size _).alloc (le_al HBy0.out.size) _).alloc (le_al (le_al HBy0.out.size)) _) (hby4.mono (by (try simp only [World.size_alloc]); (try simp only [size_setCell']); omega)))
            have HNy4 := Lib.hid hby4
            clear hby4 hsy4
            go_wp2_with fail
            refine (N5.out _).mono ?_
            rintro e y5 ⟨rfl, hby5⟩
            obtain ⟨hcy5, hfy5⟩ := bcell hby5
            have hsy5 := hby5.size
            try simp only [World.size_alloc] at hsy5
            try simp only [size_setCell'] at hsy5
            try have ley5_0 : wy.heap.size ≤ y5.heap.size := (by omega)
            try have lty5_0 : wy.heap.size < y5.heap.size := (by omega)
            try have ley5_1 : y1.heap.size ≤ y5.heap.size := (by omega)
            try have lty5_1 : y1.heap.size < y5.heap.size := (by omega)
            try have ley5_2 : y2.heap.size ≤ y5.heap.size := (by omega)
            try have lty5_2 : y2.heap.size < y5.heap.size := (by omega)
            try have ley5_3 : y3.heap.size ≤ y5.heap.size := (by omega)
            try have lty5_3 : y3.heap.size < y5.heap.size := (by omega)
            try have ley5_4 : y4.heap.size ≤ y5.heap.size := (by omega)
            try have lty5_4 : y4.heap.size < y5.heap.size := (by omega)
            have HBy5 : Hid (Below wy.heap.size wy y5) := Lib.hid (Below.trans (by first | exact HBy4.out | exact HBy4.out.alloc HBy4.out.size _ | exact (HBy4.out.alloc HBy4.out.size _).alloc (le_al HBy4.out.size) _ | exact ((HBy4.out.alloc HBy4.out.size _).alloc (le_al HBy4.out.size) _).alloc (le_al (le_al HBy4.out.size)) _ | exact HBy3.out | exact HBy3.out.alloc HBy3.out.size _ | exact (HBy3.out.alloc HBy3.out.size _).alloc (le_al HBy3.out.size) _ | exact ((HBy3.out.alloc HBy3.out.size _).alloc (le_al HBy3.out.size) _).alloc (le_al (le_al HBy3.out.size)) _ | exact HBy2.out | exact HBy2.out.alloc HBy2.out.size _ | exact (HBy2.out.alloc HBy2.out.size _).alloc (le_al HBy2.out.size) _ | exact ((HBy2.out.alloc HBy2.out.size _).alloc (le_al HBy2.out.size) _).alloc (le_al (le_al HBy2.out.size)) _ | exact HBy1.out | exact HBy1.out.alloc HBy1.out.size _ | exact (HBy1.out.alloc HBy1.out.size _).alloc (le_al HBy1.out.size) _ | exact ((HBy1.out.alloc HBy1.out.size _).alloc (le_al HBy1.out.size) _).alloc (le_al (le_al HBy1.out.size)) _ | exact HBy0.out | exact HBy0.out.alloc HBy0.out.size _ | exact (HBy0.out.alloc HBy0.out.size _).alloc (le_al HBy0.out.size) _ | exact ((HBy0.out.alloc HBy0.out.size _).alloc (le_al HBy0.out.size) _).alloc (le_al (le_al HBy0.out.size)) _) (hby5.mono (by (try simp only [World.size_alloc]); (try simp only [size_setCell']); omega)))
            have HNy5 := Lib.hid hby5
            clear hby5 hsy5
            go_wp2_with fail
            refine (N6.out _).mono ?_
            rintro e y6 ⟨rfl, hby6⟩
            obtain ⟨hcy6, hfy6⟩ := bcell hby6
            have hsy6 := hby6.size
            try simp only [World.size_alloc] at hsy6
            try simp only [size_setCell'] at hsy6
            try have ley6_0 : wy.heap.size ≤ y6.heap.size := (by omega)
            try have lty6_0 : wy.heap.size < y6.heap.size := (by omega)
            try have ley6_1 : y1.heap.size ≤ y6.heap.size := (by omega)
            try have lty6_1 : y1.heap.size < y6.heap.size := (by omega)
            try have ley6_2 : y2.heap.size ≤ y6.heap.size := (by omega)
            try have lty6_2 : y2.heap.size < y6.heap.size := (by omega)
            try have ley6_3 : y3.heap.size ≤ y6.heap.size := (by omega)
            try have lty6_3 : y3.heap.size < y6.heap.size := (by omega)
            try have ley6_4 : y4.heap.size ≤ y6.heap.size := (by omega)
            try have lty6_4 : y4.heap.size < y6.heap.size := (by omega)
            try have ley6_5 : y5.heap.size ≤ y6.heap.size := (by omega)
            try have lty6_5 : y5.heap.size < y6.heap.size := (by omega)
            have HBy6 : Hid (Below wy.heap.size wy y6) := Lib.hid (Below.trans (by first | exact HBy5.out | exact HBy5.out.alloc HBy5.out.size _ | exact (HBy5.out.alloc HBy5.out.size _).alloc (le_al HBy5.out.size) _ | exact ((HBy5.out.alloc HBy5.out.size _).alloc (le_al HBy5.out.size) _).alloc (le_al (le_al HBy5.out.size)) _ | exact HBy4.out | exact HBy4.out.alloc HBy4.out.size _ | exact (HBy4.out.alloc HBy4.out.size _).alloc (le_al HBy4.out.size) _ | exact ((HBy4.out.alloc HBy4.out.size _).alloc (le_al HBy4.out.size) _).alloc (le_al (le_al HBy4.out.size)) _ | exact HBy3.out | exact HBy3.out.alloc HBy3.out.size _ | exact (HBy3.out.alloc HBy3.out.size _).alloc (le_al HBy3.out.size) _ | exact ((HBy3.out.alloc HBy3.out.size _).alloc (le_al HBy3.out.size) _).alloc (le_al (le_al HBy3.out.size)) _ | exact HBy2.out | exact HBy2.out.alloc HBy2.out.size _ | exact (HBy2.out.alloc HBy2.out.size _).alloc (le_al HBy2.out.size) _ | exact ((HBy2.out.alloc HBy2.out.size _).alloc (le_al HBy2.out.size) _).alloc (le_al (le_al HBy2.out.size)) _ | exact HBy1.out | exact HBy1.out.alloc HBy1.out.size _ | exact (HBy1.out.alloc HBy1.out.size _).alloc (le_al HBy1.out.size) _ | exact ((HBy1.out.alloc HBy1.out.size _).alloc (le_al HBy1.out.size) _).alloc (le_al (le_al HBy1.out.size)) _ | exact HBy0.out | exact HBy0.out.alloc HBy0.out.size _ | exact (HBy0.out.alloc HBy0.out.size _).alloc (le_al HBy0.out.size) _ | exact ((HBy0.out.alloc HBy0.out.size _).alloc (le_al HBy0.out.size) _).alloc (le_al (le_al HBy0.out.size)) _) (hby6.mono (by (try simp only [World.size_alloc]); (try simp only [size_setCell']); omega)))
            have HNy6 := Lib.hid hby6
            clear hby6 hsy6
            go_wp2_with fail
            refine (N7.out _).mono ?_
            rintro e y7 ⟨rfl, hby7⟩
            obtain ⟨hcy7, hfy7⟩ := bcell hby7
            have hsy7 := hby7.size
            try simp only [World.size_alloc] at hsy7
            try simp only [size_setCell'] at hsy7
            try have ley7_0 : wy.heap.size ≤ y7.heap.size := (by omega)
            try have lty7_0 : wy.heap.size < y7.heap.size := (by omega)
            try have ley7_1 : y1.heap.size ≤ y7.heap.size := (by omega)
            try have lty7_1 : y1.heap.size < y7.heap.size := (by omega)
            try have ley7_2 : y2.heap.size ≤ y7.heap.size := (by omega)
            try have lty7_2 : y2.heap.size < y7.heap.size := (by omega)
            try have ley7_3 : y3.heap.size ≤ y7.heap.size := (by omega)
            try have lty7_3 : y3.heap.size < y7.heap.size := (by omega)
            try have ley7_4 : y4.heap.size ≤ y7.heap.size := (by omega)
            try have lty7_4 : y4.heap.size < y7.heap.size := (by omega)
            try have ley7_5 : y5.heap.size ≤ y7.heap.size := (by omega)
            try have lty7_5 : y5.heap.size < y7.heap.size := (by omega)
            try have ley7_6 : y6.heap.size ≤ y7.heap.size := (by omega)
            try have lty7_6 : y6.heap.size < y7.heap.size := (by omega)
            have HBy7 : Hid (Below wy.heap.size wy y7) := Lib.hid (Below.trans (by first | exact HBy6.out | exact HBy6.out.alloc HBy6.out.size _ | exact (HBy6.out.alloc HBy6.out.size _).alloc (le_al HBy6.out.size) _ | exact ((HBy6.out.alloc HBy6.out.size _).alloc (le_al HBy6.out.size) _).alloc (le_al (le_al HBy6.out.size)) _ | exact HBy5.out | exact HBy5.out.alloc HBy5.out.size _ | exact (HBy5.out.alloc HBy5.out.size _).alloc (le_al HBy5.out.size) _ | exact ((HBy5.out.alloc HBy5.out.size _).alloc (le_al HBy5.out.size) _).alloc (le_al (le_al HBy5.out.size)) _ | exact HBy4.out | exact HBy4.out.alloc HBy4.out.size _ | exact (HBy4.out.alloc HBy4.out.size _).alloc (le_al HBy4.out.size) _ | exact ((HBy4.out.alloc HBy4.out.size _).alloc (le_al HBy4.out.size) _).alloc (le_al (le_al HBy4.out.size)) _ | exact HBy3.out | exact HBy3.out.alloc HBy3.out.size _ | exact (HBy3.out.alloc HBy3.out.size _).alloc (le_al HBy3.out.size) _ | exact ((HBy3.out.alloc HBy3.out.size _).alloc (le_al HBy3.out.size) _).alloc (le_al (le_al HBy3.out.size)) _ | exact HBy2.out | exact HBy2.out.alloc HBy2.out.size _ | exact (HBy2.out.alloc HBy2.out.size _).alloc (le_al HBy2.out.size) _ | exact ((HBy2.out.alloc HBy2.out.size _).alloc (le_al HBy2.out.size) _).alloc (le_al (le_al HBy2.out.size)) _ | exact HBy1.out | exact HBy1.out.alloc HBy1.out.size _ | exact (HBy1.out.alloc HBy1.out.size _).alloc (le_al HBy1.out.size) _ | exact ((HBy1.out.alloc HBy1.out.size _).alloc (le_al HBy1.out.size) _).alloc (le_al (le_al HBy1.out.size)) _ | exact HBy0.out | exact HBy0.out.alloc HBy0.out.size _ | exact (HBy0.out.alloc HBy0.out.size _).alloc (le_al HBy0.out.size) _ | exact ((HBy0.out.alloc HBy0.out.size _).alloc (le_al HBy0.out.size) _).alloc (le_al (le_al HBy0.out.size)) _) (hby7.mono (by (try simp only [World.size_alloc]); (try simp only [size_setCell']); omega)))
            have HNy7 := Lib.hid hby7
            clear hby7 hsy7
            go_wp2_with fail
            refine (N8.out _).mono ?_
            rintro e y8 ⟨rfl, hby8⟩
            obtain ⟨hcy8, hfy8⟩ := bcell hby8
            have hsy8 := hby8.size
            try simp only [World.size_alloc] at hsy8
            try simp only [size_setCell'] at hsy8
            try have ley8_0 : wy.heap.size ≤ y8.heap.size := (by omega)
            try have lty8_0 : wy.heap.size < y8.heap.size := (by omega)
            try have ley8_1 : y1.heap.size ≤ y8.heap.size := (by omega)
            try have lty8_1 : y1.heap.size < y8.heap.size := (by omega)
            try have ley8_2 : y2.heap.size ≤ y8.heap.size := (by omega)
            try have lty8_2 : y2.heap.size < y8.heap.size := (by omega)
            try have ley8_3 : y3.heap.size ≤ y8.heap.size := (by omega)
            try have lty8_3 : y3.heap.size < y8.heap.size := (by omega)
            try have ley8_4 : y4.heap.size ≤ y8.heap.size := (by omega)
            try have lty8_4 : y4.heap.size < y8.heap.size := (by omega)
            try have ley8_5 : y5.heap.size ≤ y8.heap.size := (by omega)
            try have lty8_5 : y5.heap.size < y8.heap.size := (by omega)
            try have ley8_6 : y6.heap.size ≤ y8.heap.size := (by omega)
            try have lty8_6 : y6.heap.size < y8.heap.size := (by omega)
            try have ley8_7 : y7.heap.size ≤ y8.heap.size := (by omega)
            try have lty8_7 : y7.heap.size < y8.heap.size := (by omega)
            have HBy8 : Hid (Below wy.heap.size wy y8) := Lib.hid (Below.trans (by first | exact HBy7.out | exact HBy7.out.alloc HBy7.out.size _ | exact (HBy7.out.alloc HBy7.out.size _).alloc (le_al HBy7.out.size) _ | exact ((HBy7.out.alloc HBy7.out.size _).alloc (le_al HBy7.out.size) _).alloc (le_al (le_al HBy7.out.size)) _ | exact HBy6.out | exact HBy6.out.alloc HBy6.out.size _ | exact (HBy6.out.alloc HBy6.out.size _).alloc (le_al HBy6.out.size) _ | exact ((HBy6.out.alloc HBy6.out.size _).alloc (le_al HBy6.out.size) _).alloc (le_al (le_al HBy6.out.size)) _ | exact HBy5.out | exact HBy5.out.alloc HBy5.out.size _ | exact (HBy5.out.alloc HBy5.out.size _).alloc (le_al HBy5.out.size) _ | exact ((HBy5.out.alloc HBy5.out.size _).alloc (le_al HBy5.out.size) _).alloc (le_al (le_al HBy5.out.size)) _ | exact HBy4.out | exact HBy4.out.alloc HBy4.out.size _ | exact (HBy4.out.alloc HBy4.out.size _).alloc (le_al HBy4.out.size) _ | exact ((HBy4.out.alloc HBy4.out.size _).alloc (le_al HBy4.out.size) _).alloc (le_al (le_al HBy4.out.size)) _ | exact HBy3.out | exact HBy3.out.alloc HBy3.out.size _ | exact (HBy3.out.alloc HBy3.out.size _).alloc (le_al HBy3.out.size) _ | exact ((HBy3.out.alloc HBy3.out.size _).alloc (le_al HBy3.out.size) _).alloc (le_al (le_al HBy3.out.size)) _ | exact HBy2.out | exact HBy2.out.alloc HBy2.out.size _ | exact (HBy2.out.alloc HBy2.out.size _).alloc (le_al HBy2.out.size) _ | exact ((HBy2.out.alloc HBy2.out.size _).alloc (le_al HBy2.out.size) _).alloc (le_al (le_al HBy2.out.size)) _ | exact HBy1.out | exact HBy1.out.alloc HBy1.out.size _ | exact (HBy1.out.alloc HBy1.out.size _).alloc (le_al HBy1.out.size) _ | exact ((HBy1.out.alloc HBy1.out.size _).alloc (le_al HBy1.out.size) _).alloc (le_al (le_al HBy1.out.size)) _ | exact HBy0.out | exact HBy0.out.alloc HBy0.out.size _ | exact (HBy0.out.alloc HBy0.out.size _).alloc (le_al HBy0.out.size) _ | exact ((HBy0.out.alloc HBy0.out.size _).alloc (le_al HBy0.out.size) _).alloc (le_al (le_al HBy0.out.size)) _) (hby8.mono (by (try simp only [World.size_alloc]); (try simp only [size_setCell']); omega)))
            have HNy8 := Lib.hid hby8
            clear hby8 hsy8
            go_wp2_with fail
            refine (N9.out _).mono ?_
            rintro e y9 ⟨rfl, hby9⟩
            obtain ⟨hcy9, hfy9⟩ := bcell hby9
            have hsy9 := hby9.size
            try simp only [World.size_alloc] at hsy9
            try simp only [size_setCell'] at hsy9
            try have ley9_0 : wy.heap.size ≤ y9.heap.size := (by omega)
            try have lty9_0 : wy.heap.size < y9.heap.size := (by omega)
            try have ley9_1 : y1.heap.size ≤ y9.heap.size := (by omega)
            try have lty9_1 : y1.heap.size < y9.heap.size := (by omega)
            try have ley9_2 : y2.heap.size ≤ y9.heap.size := (by omega)
            try have lty9_2 : y2.heap.size < y9.heap.size := (by omega)
            try have ley9_3 : y3.heap.size ≤ y9.heap.size := (by omega)
            try have lty9_3 : y3.heap.size < y9.heap.size := (by omega)
            try have ley9_4 : y4.heap.size ≤ y9.heap.size := (by omega)
            try have lty9_4 : y4.heap.size < y9.heap.size := (by omega)
            try have ley9_5 : y5.heap.size ≤ y9.heap.size := (by omega)
            try have lty9_5 : y5.heap.size < y9.heap.size := (by omega)
            try have ley9_6 : y6.heap.size ≤ y9.heap.size := (by omega)
            try have lty9_6 : y6.heap.size < y9.heap.size := (by omega)
            try have ley9_7 : y7.heap.size ≤ y9.heap.size := (by omega)
            try have lty9_7 : y7.heap.size < y9.heap.size := (by omega)
            try have ley9_8 : y8.heap.size ≤ y9.heap.size := (by omega)
            try have lty9_8 : y8.heap.size < y9.heap.size := (by omega)
            have HBy9 : Hid (Below wy.heap.size wy y9) := Lib.hid (Below.trans (by first | exact HBy8.out | exact HBy8.out.alloc HBy8.out.size _ | exact (HBy8.out.alloc HBy8.out.size _).alloc (le_al HBy8.out.size) _ | exact ((HBy8.out.alloc HBy8.out.size _).alloc (le_al HBy8.out.size) _).alloc (le_al (le_al HBy8.out.size)) _ | exact HBy7.out | exact HBy7.out.alloc HBy7.out.size _ | exact (HBy7.out.alloc HBy7.out.size _).alloc (le_al HBy7.out.size) _ | exact ((HBy7.out.alloc HBy7.out.size _).alloc (le_al HBy7.out.size) _).alloc (le_al (le_al HBy7.out.size)) _ | exact HBy6.out | exact HBy6.out.alloc HBy6.out.size _ | exact (HBy6.out.alloc HBy6.out.size _).alloc (le_al HBy6.out.size) _ | exact ((HBy6.out.alloc HBy6.out.size _).alloc (le_al HBy6.out.size) _).alloc (le_al (le_al HBy6.out.size)) _ | exact HBy5.out | exact HBy5.out.alloc HBy5.out.size _ | exact (HBy5.out.alloc HBy5.out.size _).alloc (le_al HBy5.out.size) _ | exact ((HBy5.out.alloc HBy5.out.size _).alloc (le_al HBy5.out.size) _).alloc (le_al (le_al HBy5.out.size)) _ | exact HBy4.out | exact HBy4.out.alloc HBy4.out.size _ | exact (HBy4.out.alloc HBy4.out.size _).alloc (le_al HBy4.out.size) _ | exact ((HBy4.out.alloc HBy4.out.size _).alloc (le_al HBy4.out.size) _).alloc (le_al (le_al HBy4.out.size)) _ | exact HBy3.out | exact HBy3.out.alloc HBy3.out.size _ | exact (HBy3.out.alloc HBy3.out.size _).alloc (le_al HBy3.out.size) _ | exact ((HBy3.out.alloc HBy3.out.size _).alloc (le_al HBy3.out.size) _).alloc (le_al (le_al HBy3.out.size)) _ | exact HBy2.out | exact HBy2.out.alloc HBy2.out.size _ | exact (HBy2.out.alloc HBy2.out.size _).alloc (le_al HBy2.out.size) _ | exact ((HBy2.out.alloc HBy2.out.size _).alloc (le_al HBy2.out.size) _).alloc (le_al (le_al HBy2.out.size)) _ | exact HBy1.out | exact HBy1.out.alloc HBy1.out.size _ | exact (HBy1.out.alloc HBy1.out.size _).alloc (le_al HBy1.out.size) _ | exact ((HBy1.out.alloc HBy1.out.size _).alloc (le_al HBy1.out.size) _).alloc (le_al (le_al HBy1.out.size)) _ | exact HBy0.out | exact HBy0.out.alloc HBy0.out.size _ | exact (HBy0.out.alloc HBy0.out.size _).alloc (le_al HBy0.out.size) _ | exact ((HBy0.out.alloc HBy0.out.size _).alloc (le_al HBy0.out.size) _).alloc (le_al (le_al HBy0.out.size)) _) (hby9.mono (by (try simp only [World.size_alloc]); (try simp only [size_setCell']); omega)))
            have HNy9 := Lib.hid hby9
            clear hby9 hsy9
            go_wp2
            go_ret
            exact ⟨rfl, HBWY.out.trans (HBy9.out.mono HBWY.out.size)⟩
end Go.Proofs.Ytmnkaohhjhjciaa
