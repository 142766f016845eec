/-
  thimblelaw09.GraphUnders; no condition.
-/
import Derived.Test.YtmnkaohhjhjciaaShown9
namespace Go.Proofs.Ytmnkaohhjhjciaa
open Go.RowKit Go.Shelf Go.Proofs

theorem ret_bool {a b : Bool} (h : a = b) : Ending.returned (.bool a) = .returned (.bool b) := by rw [h]
theorem cellsDeed {w : World} {zs : List Deed} {b off : Nat} (hc : ∀ j, j < zs.length → ∀ i u, (Deed.cells zs[j]!)[i]? = some u → w.cell? ⟨b, off + j * 9 + i, none⟩ = some u) (j : Nat) (hj : j < zs.length) :
    w.cell? ⟨b, off + j * 9, none⟩ = some (.int .i64 zs[j]!.kind) ∧ w.cell? ⟨b, off + j * 9 + 1, none⟩ = some (.int .i64 zs[j]!.of) ∧ w.cell? ⟨b, off + j * 9 + 2, none⟩ = some (.int .i64 zs[j]!.mode) ∧ w.cell? ⟨b, off + j * 9 + 3, none⟩ = some (.int .i64 zs[j]!.e.at_.t) ∧ w.cell? ⟨b, off + j * 9 + 4, none⟩ = some (.int .i64 zs[j]!.e.at_.r) ∧
      w.cell? ⟨b, off + j * 9 + 5, none⟩ = some (.string zs[j]!.e.name) ∧ w.cell? ⟨b, off + j * 9 + 6, none⟩ = some (.int .i64 zs[j]!.e.ino.t) ∧ w.cell? ⟨b, off + j * 9 + 7, none⟩ = some (.int .i64 zs[j]!.e.ino.r) ∧ w.cell? ⟨b, off + j * 9 + 8, none⟩ = some (.string zs[j]!.data) :=
  ⟨hc j hj 0 _ rfl, hc j hj 1 _ rfl, hc j hj 2 _ rfl, hc j hj 3 _ rfl, hc j hj 4 _ rfl, hc j hj 5 _ rfl, hc j hj 6 _ rfl, hc j hj 7 _ rfl, hc j hj 8 _ rfl⟩

set_option maxRecDepth 100000 in
set_option maxHeartbeats 4000000 in
theorem unders_walk (v : Value) (l : List Deed) (a b c : St) (w : World) (hs : SlAt w 9 Deed.cells v l) (hn : ∀ d ∈ l, d.e.name.size ≤ maxLen) :
    Calls Try.prog 7 #[v, a.v, b.v, c.v] w fun y w' => y = .returned (.bool true) ∧ Below w.heap.size w w' := by
  have hb0 : Below w.heap.size w (((w.alloc (.cells #[.int .i64 a.t, .int .i64 a.r] 29)).alloc (.cells #[.int .i64 b.t, .int .i64 b.r] 29)).alloc (.cells #[.int .i64 c.t, .int .i64 c.r] 29)) := (((Below.refl _ w).alloc (Nat.le_refl _) _).alloc (le_al (Nat.le_refl _)) _).alloc (le_al (le_al (Nat.le_refl _))) _
  obtain ⟨W0, hW0⟩ : ∃ W0, W0 = ((w.alloc (.cells #[.int .i64 a.t, .int .i64 a.r] 29)).alloc (.cells #[.int .i64 b.t, .int .i64 b.r] 29)).alloc (.cells #[.int .i64 c.t, .int .i64 c.r] 29) := ⟨_, rfl⟩
  have hz0 : W0.heap.size = w.heap.size + 1 + 1 + 1 := by rw [hW0]; simp only [World.size_alloc]
  have HBX : Hid (∀ W, Below W0.heap.size W0 W → W.cell? ⟨w.heap.size, 0, none⟩ = some (.int .i64 a.t) ∧ W.cell? ⟨w.heap.size, 1, none⟩ = some (.int .i64 a.r) ∧ W.cell? ⟨w.heap.size + 1, 0, none⟩ = some (.int .i64 b.t) ∧ W.cell? ⟨w.heap.size + 1, 1, none⟩ = some (.int .i64 b.r) ∧ W.cell? ⟨w.heap.size + 1 + 1, 0, none⟩ = some (.int .i64 c.t) ∧ W.cell? ⟨w.heap.size + 1 + 1, 1, none⟩ = some (.int .i64 c.r)) := Lib.hid fun W hW => by
    have e : ∀ k i v, k < w.heap.size + 1 + 1 + 1 → W0.cell? ⟨k, i, none⟩ = some v → W.cell? ⟨k, i, none⟩ = some v := fun k i v hk h => (hW.cell (p := ⟨k, i, none⟩) (by rw [hz0]; exact hk)).trans h
    have g3 : ∀ i v, (#[Value.int .i64 c.t, .int .i64 c.r])[i]? = some v → W0.cell? ⟨w.heap.size + 1 + 1, i, none⟩ = some v := fun i v h => by rw [hW0]; exact cell_new _ _ (by simp) _ _ i v h
    have g2 : ∀ i v, (#[Value.int .i64 b.t, .int .i64 b.r])[i]? = some v → W0.cell? ⟨w.heap.size + 1, i, none⟩ = some v := fun i v h => by rw [hW0]; exact Lib.cell?_alloc_some _ (cell_new _ _ (by simp) _ _ i v h)
    have g1 : ∀ i v, (#[Value.int .i64 a.t, .int .i64 a.r])[i]? = some v → W0.cell? ⟨w.heap.size, i, none⟩ = some v := fun i v h => by rw [hW0]; exact Lib.cell?_alloc_some _ (Lib.cell?_alloc_some _ (cell_new _ _ (by simp) _ _ i v h))
    exact ⟨e _ _ _ (by omega) (g1 0 _ rfl), e _ _ _ (by omega) (g1 1 _ rfl), e _ _ _ (by omega) (g2 0 _ rfl), e _ _ _ (by omega) (g2 1 _ rfl), e _ _ _ (by omega) (g3 0 _ rfl), e _ _ _ (by omega) (g3 1 _ rfl)⟩
  have HB00 : Hid (Below w.heap.size w W0) := Lib.hid (by rw [hW0]; exact hb0)
  have HSL : Hid (∀ W, Below W0.heap.size W0 W → SlAt W 9 Deed.cells v l) := Lib.hid fun W hW => hs.below (HB00.out.trans (hW.mono HB00.out.size))
  obtain ⟨va, vc, rfl⟩ := hs.len
  have hlm : l.length ≤ maxLen := by
    rcases hs with ⟨_, _, _, h0⟩ | ⟨_, _, c', h0, h1, h2, _⟩
    · rw [h0]; simp
    · simp at h0; omega
  have HNM := Lib.hid hn
  clear hs hn hb0
  unfold maxLen at hlm
  unfold St.v
  go_enter Try.func7, Try.ntmps7
  go_wp2_with fail
  rw [← hW0]
  have HW0 := Lib.hid hW0
  clear hW0
  refine (shown9_any _).mono ?_
  rintro e w1 ⟨rfl, hb⟩
  have HB1 := Lib.hid hb
  clear hb
  go_wp2_with fail
  refine (new_g w1).mono ?_
  rintro e w2 ⟨v, rfl, ⟨gb, mI, mE, rfl, hG, h1, h2, h3⟩, hb⟩
  have HG := Lib.hid hG
  have HB2 := Lib.hid (HB1.out.trans (hb.mono HB1.out.size))
  have HM : Hid (W0.heap.size ≤ mI ∧ W0.heap.size ≤ mE) := Lib.hid (by have := HB1.out.size; omega)
  clear hG hb h1 h2 h3
  go_wp2
  go_loopg [11] 150 (fun gg s11 wr => ∃ i : Nat, s11 = .int .i64 i ∧ i ≤ l.length ∧ i ≤ 150 ∧ 150 - i ≤ gg ∧ Aside (GrAt wr gb mI mE (played (l.take i))) ∧ Aside (Below W0.heap.size W0 wr))
  case atStart => exact ⟨0, rfl, Nat.zero_le _, Nat.zero_le _, by omega, (show Aside _ from HG.out), (show Aside _ from HB2.out)⟩
  case round =>
    obtain ⟨i, rfl, hil, hi150, hgg, hG, hB⟩ := hrel
    have hi0 : (0 : Int) ≤ (i : Int) := by omega
    have hwi : IntKind.i64.wrap ((i : Int) + 1) = (i : Int) + 1 := wrapNat (i + 1) (by omega)
    by_cases hgo : i < l.length ∧ i < 150
    · obtain ⟨hlt, hlt2⟩ := hgo
      have hlti : (i : Int) < (l.length : Int) := by omega
      have hlti2 : (i : Int) < 150 := by omega
      obtain ⟨bb, off, rfl, hbl, hcells⟩ : ∃ b off, va = some ⟨b, off, none⟩ ∧ b < wr.heap.size ∧ ∀ j, j < l.length → ∀ i u, (Deed.cells l[j]!)[i]? = some u → wr.cell? ⟨b, off + j * 9 + i, none⟩ = some u := by
        rcases HSL.out wr hB.out with ⟨_, _, _, h0⟩ | ⟨b, off, c', h0, _, _, h3, h4⟩
        · rw [h0] at hlt; exact absurd hlt (Nat.not_lt_zero _)
        · simp at h0; exact ⟨b, off, h0.1, h3, h4⟩
      obtain ⟨x0, x1, x2, x3, x4, x5, x6, x7, x8⟩ := cellsDeed hcells i hlt
      have hdo := do_any gb mI mE (played (l.take i)) l[i]! wr hG.out (played_ok _) (HNM.out _ (getElem!_mem hlt))
      have HST := Lib.hid (played_step l i hlt)
      clear hcells
      unfold Deed.v at hdo
      generalize l[i]! = x at x0 x1 x2 x3 x4 x5 x6 x7 x8 hdo HST
      generalize played (l.take i) = G at hdo HST
      go_wp2_with (go_at_call 21; refine hdo.mono ?_; rintro e w3 ⟨rfl, hG3, hT3⟩; have HG3 := Lib.hid hG3; have HT3 := Lib.hid hT3; clear hG3 hT3)
      go_roundg (150 - (i + 1))
      case measure => omega
      case rel => exact ⟨i + 1, by first | rfl | go_num, by omega, by omega, by omega, (show Aside _ from by rw [HST.out]; exact HG3.out), (show Aside _ from hB.out.trans (own_below HT3.out HM.out.1 HM.out.2 hB.out.size))⟩
    · have hOK := played_ok (l.take i)
      have HG2 := hG
      generalize played (l.take i) = G at hOK HG2
      have HU : Hid (∀ (p q : St) W, Below wr.heap.size wr W → Calls Try.prog 32 #[.pointer (some ⟨gb, 0, none⟩), (.agg #[.int .i64 p.t, .int .i64 p.r]), (.agg #[.int .i64 q.t, .int .i64 q.r])] W fun e w' => e = .returned (.bool (G.under p q)) ∧ Below W.heap.size W w') := Lib.hid fun p q W hW => under_any gb mI mE G p q W (HG2.out.below hW) hOK (by have := hOK.few; omega)
      have HP : Hid (∀ (p : St) W, Below wr.heap.size wr W → Calls Try.prog 27 #[.pointer (some ⟨gb, 0, none⟩), (.agg #[.int .i64 p.t, .int .i64 p.r])] W fun e w' => e = .returned (.tuple #[((G.parent p).getD ⟨0, 0⟩).v, .bool (G.parent p).isSome]) ∧ Below W.heap.size W w') := Lib.hid fun p W hW => parent_any gb mI mE G p W (HG2.out.below hW) hOK.sn hOK.se (by have := hOK.few; omega)
      obtain ⟨a0, a1, b0, b1, c0, c1⟩ := HBX.out wr hB.out
      have hwz : w.heap.size + 1 + 1 < wr.heap.size := by have := hB.out.size; omega
      have hwz1 : w.heap.size + 1 < wr.heap.size := by omega
      have hwz2 : w.heap.size < wr.heap.size := by omega
      have HBk0 : Hid (Below wr.heap.size wr wr) := Lib.hid (Below.refl _ _)
      have HBW : Hid (Below w.heap.size w wr) := Lib.hid (HB00.out.trans (hB.out.mono HB00.out.size))
      have hendl : (¬ (i : Int) < (l.length : Int)) ∨ ((i : Int) < (l.length : Int) ∧ ¬ (i : Int) < 150) := by omega
      have HBX2 : Hid (∀ W, Below wr.heap.size wr W → W.cell? ⟨w.heap.size, 0, none⟩ = some (.int .i64 a.t) ∧ W.cell? ⟨w.heap.size, 1, none⟩ = some (.int .i64 a.r) ∧ W.cell? ⟨w.heap.size + 1, 0, none⟩ = some (.int .i64 b.t) ∧ W.cell? ⟨w.heap.size + 1, 1, none⟩ = some (.int .i64 b.r) ∧ W.cell? ⟨w.heap.size + 1 + 1, 0, none⟩ = some (.int .i64 c.t) ∧ W.cell? ⟨w.heap.size + 1 + 1, 1, none⟩ = some (.int .i64 c.r) ∧ w.heap.size < W.heap.size ∧ w.heap.size + 1 < W.heap.size ∧ w.heap.size + 1 + 1 < W.heap.size) := Lib.hid fun W hW => by
        obtain ⟨g1, g2, g3, g4, g5, g6⟩ := HBX.out W (hB.out.trans (hW.mono hB.out.size))
        have := hW.size
        exact ⟨g1, g2, g3, g4, g5, g6, by omega, by omega, by omega⟩
      have HUab := Lib.hid (HU.out a b)
      have HUbc := Lib.hid (HU.out b c)
      have HUaa := Lib.hid (HU.out a a)
      have HUac := Lib.hid (HU.out a c)
      have HUba := Lib.hid (HU.out b a)
      have HUap := Lib.hid (HU.out a ((G.parent a).getD ⟨0, 0⟩))
      have HUpb := Lib.hid (HU.out ((G.parent a).getD ⟨0, 0⟩) b)
      have HPa := Lib.hid (HP.out a)
      have hAA : G.under a a = true := Gr.under_iff.2 .here
      rw [hAA] at HUaa
      have hq : (∃ y ac, a = b ∧ G.under a b = true ∧ G.under b c = y ∧ G.under a c = ac ∧ y = ac ∧ G.under b a = true) ∨ (a ≠ b ∧ ((∃ y ac ba, G.under a b = false ∧ G.under b c = y ∧ G.under a c = ac ∧ G.under b a = ba) ∨ (∃ ac, G.under a b = true ∧ G.under b c = false ∧ G.under a c = ac ∧ G.under b a = false) ∨ (G.under a b = true ∧ G.under b c = true ∧ G.under a c = true ∧ G.under b a = false))) := by
        by_cases hab : a = b
        · subst hab
          exact .inl ⟨_, _, rfl, hAA, rfl, rfl, rfl, hAA⟩
        · refine .inr ⟨hab, ?_⟩
          cases hx : G.under a b with
          | false => exact .inl ⟨_, _, _, rfl, rfl, rfl, rfl⟩
          | true =>
            have hba : G.under b a = false := by
              rw [Bool.eq_false_iff]
              intro h
              exact hab (hOK.under_antisymm (Gr.under_iff.1 hx) (Gr.under_iff.1 h))
            cases hy : G.under b c with
            | false => exact .inr (.inl ⟨_, rfl, rfl, rfl, hba⟩)
            | true => exact .inr (.inr ⟨rfl, rfl, Gr.under_iff.2 ((Gr.under_iff.1 hx).trans (Gr.under_iff.1 hy)), hba⟩)
      have hpq : G.parent a = none ∨ ∃ p, G.parent a = some p ∧ G.under a p = true ∧ (a ≠ b → G.under p b = G.under a b) := by
        cases hp : G.parent a with
        | none => exact .inl rfl
        | some p =>
          refine .inr ⟨p, rfl, Gr.under_iff.2 (.step hp .here), fun hab => ?_⟩
          rw [Bool.eq_iff_iff, Gr.under_iff, Gr.under_iff]
          exact ⟨fun h => .step hp h, fun h => h.up hab hp⟩
      have h3 := St.three a b
      clear HU HP hgo hOK HG2 hAA
      unfold St.v at HPa
      rcases hq with ⟨y, ac, hab, e1, e2, e3, rfl, e4⟩ | ⟨hab, ⟨y, ac, ba, e1, e2, e3, e4⟩ | ⟨ac, e1, e2, e3, e4⟩ | ⟨e1, e2, e3, e4⟩⟩ <;> rcases hpq with hp | ⟨p, hp, e5, e6⟩
      all_goals
        rw [e1] at HUab
        rw [e2] at HUbc
        rw [e3] at HUac
        rw [e4] at HUba
        rw [hp] at HUap HUpb HPa
        try (simp only [Option.getD_some] at HUap HUpb)
        try rw [e5] at HUap
        try (rw [e6 hab, e1] at HUpb)
        clear e1 e2 e3 e4 hp
        try clear e5 e6
      all_goals
        first
        | (subst hab
           clear h3
           rcases hendl with hendl | ⟨hendl, hend2⟩)
        | (have h3' := h3.resolve_left hab
           clear h3 hab
           rcases h3' with ⟨_, ht⟩ | ⟨r, rfl, _, hr⟩ <;> rcases hendl with hendl | ⟨hendl, hend2⟩)
      all_goals
        try (have ht' : ¬ a.t = b.t := (by simpa using ht))
        try (have hr' : ¬ r = b.r := (by simpa using hr))
        go_wp2_with fail
        refine (HUab.out _ (by first | exact HBk0.out | exact HBk0.out.alloc HBk0.out.size _ | exact (HBk0.out.alloc HBk0.out.size _).alloc (le_al HBk0.out.size) _ | exact ((HBk0.out.alloc HBk0.out.size _).alloc (le_al HBk0.out.size) _).alloc (le_al (le_al HBk0.out.size)) _)).mono ?_
        rintro e k1 ⟨rfl, hbk1⟩
        obtain ⟨hck1, hfk1⟩ := bcell hbk1
        have hsk1 := hbk1.size
        try simp only [World.size_alloc] at hsk1
        try simp only [size_setCell'] at hsk1
        try have lek1_0 : wr.heap.size ≤ k1.heap.size := (by omega)
        try have ltk1_0 : wr.heap.size < k1.heap.size := (by omega)
        have HBk1 : Hid (Below wr.heap.size wr k1) := Lib.hid (Below.trans (by first | exact HBk0.out | exact HBk0.out.alloc HBk0.out.size _ | exact (HBk0.out.alloc HBk0.out.size _).alloc (le_al HBk0.out.size) _ | exact ((HBk0.out.alloc HBk0.out.size _).alloc (le_al HBk0.out.size) _).alloc (le_al (le_al HBk0.out.size)) _) (hbk1.mono (by (try simp only [World.size_alloc]); (try simp only [size_setCell']); omega)))
        have HNk1 := Lib.hid hbk1
        clear hbk1 hsk1
        obtain ⟨_, _, _, _, _, _, _, _, _⟩ := HBX2.out k1 HBk1.out
        go_wp2_with fail
        refine (HUbc.out _ (by first | exact HBk1.out | exact HBk1.out.alloc HBk1.out.size _ | exact (HBk1.out.alloc HBk1.out.size _).alloc (le_al HBk1.out.size) _ | exact ((HBk1.out.alloc HBk1.out.size _).alloc (le_al HBk1.out.size) _).alloc (le_al (le_al HBk1.out.size)) _ | exact HBk0.out | exact HBk0.out.alloc HBk0.out.size _ | exact (HBk0.out.alloc HBk0.out.size _).alloc (le_al HBk0.out.size) _ | exact ((HBk0.out.alloc HBk0.out.size _).alloc (le_al HBk0.out.size) _).alloc (le_al (le_al HBk0.out.size)) _)).mono ?_
        rintro e k2 ⟨rfl, hbk2⟩
        obtain ⟨hck2, hfk2⟩ := bcell hbk2
        have hsk2 := hbk2.size
        try simp only [World.size_alloc] at hsk2
        try simp only [size_setCell'] at hsk2
        try have lek2_0 : wr.heap.size ≤ k2.heap.size := (by omega)
        try have ltk2_0 : wr.heap.size < k2.heap.size := (by omega)
        try have lek2_1 : k1.heap.size ≤ k2.heap.size := (by omega)
        try have ltk2_1 : k1.heap.size < k2.heap.size := (by omega)
        have HBk2 : Hid (Below wr.heap.size wr k2) := Lib.hid (Below.trans (by first | exact HBk1.out | exact HBk1.out.alloc HBk1.out.size _ | exact (HBk1.out.alloc HBk1.out.size _).alloc (le_al HBk1.out.size) _ | exact ((HBk1.out.alloc HBk1.out.size _).alloc (le_al HBk1.out.size) _).alloc (le_al (le_al HBk1.out.size)) _ | exact HBk0.out | exact HBk0.out.alloc HBk0.out.size _ | exact (HBk0.out.alloc HBk0.out.size _).alloc (le_al HBk0.out.size) _ | exact ((HBk0.out.alloc HBk0.out.size _).alloc (le_al HBk0.out.size) _).alloc (le_al (le_al HBk0.out.size)) _) (hbk2.mono (by (try simp only [World.size_alloc]); (try simp only [size_setCell']); omega)))
        have HNk2 := Lib.hid hbk2
        clear hbk2 hsk2
        obtain ⟨_, _, _, _, _, _, _, _, _⟩ := HBX2.out k2 HBk2.out
        go_wp2_with fail
        refine (HPa.out _ (by first | exact HBk2.out | exact HBk2.out.alloc HBk2.out.size _ | exact (HBk2.out.alloc HBk2.out.size _).alloc (le_al HBk2.out.size) _ | exact ((HBk2.out.alloc HBk2.out.size _).alloc (le_al HBk2.out.size) _).alloc (le_al (le_al HBk2.out.size)) _ | exact HBk1.out | exact HBk1.out.alloc HBk1.out.size _ | exact (HBk1.out.alloc HBk1.out.size _).alloc (le_al HBk1.out.size) _ | exact ((HBk1.out.alloc HBk1.out.size _).alloc (le_al HBk1.out.size) _).alloc (le_al (le_al HBk1.out.size)) _ | exact HBk0.out | exact HBk0.out.alloc HBk0.out.size _ | exact (HBk0.out.alloc HBk0.out.size _).alloc (le_al HBk0.out.size) _ | exact ((HBk0.out.alloc HBk0.out.size _).alloc (le_al HBk0.out.size) _).alloc (le_al (le_al HBk0.out.size)) _)).mono ?_
        rintro e k3 ⟨rfl, hbk3⟩
        obtain ⟨hck3, hfk3⟩ := bcell hbk3
        have hsk3 := hbk3.size
        try simp only [World.size_alloc] at hsk3
        try simp only [size_setCell'] at hsk3
        try have lek3_0 : wr.heap.size ≤ k3.heap.size := (by omega)
        try have ltk3_0 : wr.heap.size < k3.heap.size := (by omega)
        try have lek3_1 : k1.heap.size ≤ k3.heap.size := (by omega)
        try have ltk3_1 : k1.heap.size < k3.heap.size := (by omega)
        try have lek3_2 : k2.heap.size ≤ k3.heap.size := (by omega)
        try have ltk3_2 : k2.heap.size < k3.heap.size := (by omega)
        have HBk3 : Hid (Below wr.heap.size wr k3) := Lib.hid (Below.trans (by first | exact HBk2.out | exact HBk2.out.alloc HBk2.out.size _ | exact (HBk2.out.alloc HBk2.out.size _).alloc (le_al HBk2.out.size) _ | exact ((HBk2.out.alloc HBk2.out.size _).alloc (le_al HBk2.out.size) _).alloc (le_al (le_al HBk2.out.size)) _ | exact HBk1.out | exact HBk1.out.alloc HBk1.out.size _ | exact (HBk1.out.alloc HBk1.out.size _).alloc (le_al HBk1.out.size) _ | exact ((HBk1.out.alloc HBk1.out.size _).alloc (le_al HBk1.out.size) _).alloc (le_al (le_al HBk1.out.size)) _ | exact HBk0.out | exact HBk0.out.alloc HBk0.out.size _ | exact (HBk0.out.alloc HBk0.out.size _).alloc (le_al HBk0.out.size) _ | exact ((HBk0.out.alloc HBk0.out.size _).alloc (le_al HBk0.out.size) _).alloc (le_al (le_al HBk0.out.size)) _) (hbk3.mono (by (try simp only [World.size_alloc]); (try simp only [size_setCell']); omega)))
        have HNk3 := Lib.hid hbk3
        clear hbk3 hsk3
        obtain ⟨_, _, _, _, _, _, _, _, _⟩ := HBX2.out k3 HBk3.out
        go_wp2_with fail
        refine (HUaa.out _ (by first | exact HBk3.out | exact HBk3.out.alloc HBk3.out.size _ | exact (HBk3.out.alloc HBk3.out.size _).alloc (le_al HBk3.out.size) _ | exact ((HBk3.out.alloc HBk3.out.size _).alloc (le_al HBk3.out.size) _).alloc (le_al (le_al HBk3.out.size)) _ | exact HBk2.out | exact HBk2.out.alloc HBk2.out.size _ | exact (HBk2.out.alloc HBk2.out.size _).alloc (le_al HBk2.out.size) _ | exact ((HBk2.out.alloc HBk2.out.size _).alloc (le_al HBk2.out.size) _).alloc (le_al (le_al HBk2.out.size)) _ | exact HBk1.out | exact HBk1.out.alloc HBk1.out.size _ | exact (HBk1.out.alloc HBk1.out.size _).alloc (le_al HBk1.out.size) _ | exact ((HBk1.out.alloc HBk1.out.size _).alloc (le_al HBk1.out.size) _).alloc (le_al (le_al HBk1.out.size)) _)).mono ?_
        rintro e k4 ⟨rfl, hbk4⟩
        obtain ⟨hck4, hfk4⟩ := bcell hbk4
        have hsk4 := hbk4.size
        try simp only [World.size_alloc] at hsk4
        try simp only [size_setCell'] at hsk4
        try have lek4_0 : wr.heap.size ≤ k4.heap.size := (by omega)
        try have ltk4_0 : wr.heap.size < k4.heap.size := (by omega)
        try have lek4_1 : k1.heap.size ≤ k4.heap.size := (by omega)
        try have ltk4_1 : k1.heap.size < k4.heap.size := (by omega)
        try have lek4_2 : k2.heap.size ≤ k4.heap.size := (by omega)
        try have ltk4_2 : k2.heap.size < k4.heap.size := (by omega)
        try have lek4_3 : k3.heap.size ≤ k4.heap.size := (by omega)
        try have ltk4_3 : k3.heap.size < k4.heap.size := (by omega)
        have HBk4 : Hid (Below wr.heap.size wr k4) := Lib.hid (Below.trans (by first | exact HBk3.out | exact HBk3.out.alloc HBk3.out.size _ | exact (HBk3.out.alloc HBk3.out.size _).alloc (le_al HBk3.out.size) _ | exact ((HBk3.out.alloc HBk3.out.size _).alloc (le_al HBk3.out.size) _).alloc (le_al (le_al HBk3.out.size)) _ | exact HBk2.out | exact HBk2.out.alloc HBk2.out.size _ | exact (HBk2.out.alloc HBk2.out.size _).alloc (le_al HBk2.out.size) _ | exact ((HBk2.out.alloc HBk2.out.size _).alloc (le_al HBk2.out.size) _).alloc (le_al (le_al HBk2.out.size)) _ | exact HBk1.out | exact HBk1.out.alloc HBk1.out.size _ | exact (HBk1.out.alloc HBk1.out.size _).alloc (le_al HBk1.out.size) _ | exact ((HBk1.out.alloc HBk1.out.size _).alloc (le_al HBk1.out.size) _).alloc (le_al (le_al HBk1.out.size)) _) (hbk4.mono (by (try simp only [World.size_alloc]); (try simp only [size_setCell']); omega)))
        have HNk4 := Lib.hid hbk4
        clear hbk4 hsk4
        obtain ⟨_, _, _, _, _, _, _, _, _⟩ := HBX2.out k4 HBk4.out
        go_wp2_with (first
          | (go_at_call 32; (with_reducible refine (HUac.out _ (by first | exact HBk4.out | exact HBk4.out.alloc HBk4.out.size _ | exact (HBk4.out.alloc HBk4.out.size _).alloc (le_al HBk4.out.size) _ | exact ((HBk4.out.alloc HBk4.out.size _).alloc (le_al HBk4.out.size) _).alloc (le_al (le_al HBk4.out.size)) _ | exact HBk3.out | exact HBk3.out.alloc HBk3.out.size _ | exact (HBk3.out.alloc HBk3.out.size _).alloc (le_al HBk3.out.size) _ | exact ((HBk3.out.alloc HBk3.out.size _).alloc (le_al HBk3.out.size) _).alloc (le_al (le_al HBk3.out.size)) _ | exact HBk2.out | exact HBk2.out.alloc HBk2.out.size _ | exact (HBk2.out.alloc HBk2.out.size _).alloc (le_al HBk2.out.size) _ | exact ((HBk2.out.alloc HBk2.out.size _).alloc (le_al HBk2.out.size) _).alloc (le_al (le_al HBk2.out.size)) _)).mono ?_); rintro e k5 ⟨rfl, hbk5⟩; obtain ⟨hck5, hfk5⟩ := bcell hbk5; have hsk5 := hbk5.size; (try simp only [World.size_alloc] at hsk5); (try simp only [size_setCell'] at hsk5); (try have lek5_0 : wr.heap.size ≤ k5.heap.size := (by omega)); (try have ltk5_0 : wr.heap.size < k5.heap.size := (by omega)); (try have lek5_1 : k1.heap.size ≤ k5.heap.size := (by omega)); (try have ltk5_1 : k1.heap.size < k5.heap.size := (by omega)); (try have lek5_2 : k2.heap.size ≤ k5.heap.size := (by omega)); (try have ltk5_2 : k2.heap.size < k5.heap.size := (by omega)); (try have lek5_3 : k3.heap.size ≤ k5.heap.size := (by omega)); (try have ltk5_3 : k3.heap.size < k5.heap.size := (by omega)); (try have lek5_4 : k4.heap.size ≤ k5.heap.size := (by omega)); (try have ltk5_4 : k4.heap.size < k5.heap.size := (by omega)); have HBk5 : Hid (Below wr.heap.size wr k5) := Lib.hid (Below.trans (by first | exact HBk4.out | exact HBk4.out.alloc HBk4.out.size _ | exact (HBk4.out.alloc HBk4.out.size _).alloc (le_al HBk4.out.size) _ | exact ((HBk4.out.alloc HBk4.out.size _).alloc (le_al HBk4.out.size) _).alloc (le_al (le_al HBk4.out.size)) _ | exact HBk3.out | exact HBk3.out.alloc HBk3.out.size _ | exact (HBk3.out.alloc HBk3.out.size _).alloc (le_al HBk3.out.size) _ | exact ((HBk3.out.alloc HBk3.out.size _).alloc (le_al HBk3.out.size) _).alloc (le_al (le_al HBk3.out.size)) _ | exact HBk2.out | exact HBk2.out.alloc HBk2.out.size _ | exact (HBk2.out.alloc HBk2.out.size _).alloc (le_al HBk2.out.size) _ | exact ((HBk2.out.alloc HBk2.out.size _).alloc (le_al HBk2.out.size) _).alloc (le_al (le_al HBk2.out.size)) _) (hbk5.mono (by (try simp only [World.size_alloc]); (try simp only [size_setCell']); omega))); have HNk5 := Lib.hid hbk5; clear hbk5 hsk5; obtain ⟨_, _, _, _, _, _, _, _, _⟩ := HBX2.out k5 HBk5.out)
          | (go_at_call 32; (with_reducible refine (HUba.out _ (by first | exact HBk5.out | exact HBk5.out.alloc HBk5.out.size _ | exact (HBk5.out.alloc HBk5.out.size _).alloc (le_al HBk5.out.size) _ | exact ((HBk5.out.alloc HBk5.out.size _).alloc (le_al HBk5.out.size) _).alloc (le_al (le_al HBk5.out.size)) _ | exact HBk4.out | exact HBk4.out.alloc HBk4.out.size _ | exact (HBk4.out.alloc HBk4.out.size _).alloc (le_al HBk4.out.size) _ | exact ((HBk4.out.alloc HBk4.out.size _).alloc (le_al HBk4.out.size) _).alloc (le_al (le_al HBk4.out.size)) _ | exact HBk3.out | exact HBk3.out.alloc HBk3.out.size _ | exact (HBk3.out.alloc HBk3.out.size _).alloc (le_al HBk3.out.size) _ | exact ((HBk3.out.alloc HBk3.out.size _).alloc (le_al HBk3.out.size) _).alloc (le_al (le_al HBk3.out.size)) _)).mono ?_); rintro e k6 ⟨rfl, hbk6⟩; obtain ⟨hck6, hfk6⟩ := bcell hbk6; have hsk6 := hbk6.size; (try simp only [World.size_alloc] at hsk6); (try simp only [size_setCell'] at hsk6); (try have lek6_0 : wr.heap.size ≤ k6.heap.size := (by omega)); (try have ltk6_0 : wr.heap.size < k6.heap.size := (by omega)); (try have lek6_1 : k1.heap.size ≤ k6.heap.size := (by omega)); (try have ltk6_1 : k1.heap.size < k6.heap.size := (by omega)); (try have lek6_2 : k2.heap.size ≤ k6.heap.size := (by omega)); (try have ltk6_2 : k2.heap.size < k6.heap.size := (by omega)); (try have lek6_3 : k3.heap.size ≤ k6.heap.size := (by omega)); (try have ltk6_3 : k3.heap.size < k6.heap.size := (by omega)); (try have lek6_4 : k4.heap.size ≤ k6.heap.size := (by omega)); (try have ltk6_4 : k4.heap.size < k6.heap.size := (by omega)); (try have lek6_5 : k5.heap.size ≤ k6.heap.size := (by omega)); (try have ltk6_5 : k5.heap.size < k6.heap.size := (by omega)); have HBk6 : Hid (Below wr.heap.size wr k6) := Lib.hid (Below.trans (by first | exact HBk5.out | exact HBk5.out.alloc HBk5.out.size _ | exact (HBk5.out.alloc HBk5.out.size _).alloc (le_al HBk5.out.size) _ | exact ((HBk5.out.alloc HBk5.out.size _).alloc (le_al HBk5.out.size) _).alloc (le_al (le_al HBk5.out.size)) _ | exact HBk4.out | exact HBk4.out.alloc HBk4.out.size _ | exact (HBk4.out.alloc HBk4.out.size _).alloc (le_al HBk4.out.size) _ | exact ((HBk4.out.alloc HBk4.out.size _).alloc (le_al HBk4.out.size) _).alloc (le_al (le_al HBk4.out.size)) _ | exact HBk3.out | exact HBk3.out.alloc HBk3.out.size _ | exact (HBk3.out.alloc HBk3.out.size _).alloc (le_al HBk3.out.size) _ | exact ((HBk3.out.alloc HBk3.out.size _).alloc (le_al HBk3.out.size) _).alloc (le_al (le_al HBk3.out.size)) _) (hbk6.mono (by (try simp only [World.size_alloc]); (try simp only [size_setCell']); omega))); have HNk6 := Lib.hid hbk6; clear hbk6 hsk6; obtain ⟨_, _, _, _, _, _, _, _, _⟩ := HBX2.out k6 HBk6.out)
          | (go_at_call 32; (with_reducible refine (HUap.out _ (by first | exact HBk6.out | exact HBk6.out.alloc HBk6.out.size _ | exact (HBk6.out.alloc HBk6.out.size _).alloc (le_al HBk6.out.size) _ | exact ((HBk6.out.alloc HBk6.out.size _).alloc (le_al HBk6.out.size) _).alloc (le_al (le_al HBk6.out.size)) _ | exact HBk5.out | exact HBk5.out.alloc HBk5.out.size _ | exact (HBk5.out.alloc HBk5.out.size _).alloc (le_al HBk5.out.size) _ | exact ((HBk5.out.alloc HBk5.out.size _).alloc (le_al HBk5.out.size) _).alloc (le_al (le_al HBk5.out.size)) _ | exact HBk4.out | exact HBk4.out.alloc HBk4.out.size _ | exact (HBk4.out.alloc HBk4.out.size _).alloc (le_al HBk4.out.size) _ | exact ((HBk4.out.alloc HBk4.out.size _).alloc (le_al HBk4.out.size) _).alloc (le_al (le_al HBk4.out.size)) _)).mono ?_); rintro e k7 ⟨rfl, hbk7⟩; obtain ⟨hck7, hfk7⟩ := bcell hbk7; have hsk7 := hbk7.size; (try simp only [World.size_alloc] at hsk7); (try simp only [size_setCell'] at hsk7); (try have lek7_0 : wr.heap.size ≤ k7.heap.size := (by omega)); (try have ltk7_0 : wr.heap.size < k7.heap.size := (by omega)); (try have lek7_1 : k1.heap.size ≤ k7.heap.size := (by omega)); (try have ltk7_1 : k1.heap.size < k7.heap.size := (by omega)); (try have lek7_2 : k2.heap.size ≤ k7.heap.size := (by omega)); (try have ltk7_2 : k2.heap.size < k7.heap.size := (by omega)); (try have lek7_3 : k3.heap.size ≤ k7.heap.size := (by omega)); (try have ltk7_3 : k3.heap.size < k7.heap.size := (by omega)); (try have lek7_4 : k4.heap.size ≤ k7.heap.size := (by omega)); (try have ltk7_4 : k4.heap.size < k7.heap.size := (by omega)); (try have lek7_5 : k5.heap.size ≤ k7.heap.size := (by omega)); (try have ltk7_5 : k5.heap.size < k7.heap.size := (by omega)); (try have lek7_6 : k6.heap.size ≤ k7.heap.size := (by omega)); (try have ltk7_6 : k6.heap.size < k7.heap.size := (by omega)); have HBk7 : Hid (Below wr.heap.size wr k7) := Lib.hid (Below.trans (by first | exact HBk6.out | exact HBk6.out.alloc HBk6.out.size _ | exact (HBk6.out.alloc HBk6.out.size _).alloc (le_al HBk6.out.size) _ | exact ((HBk6.out.alloc HBk6.out.size _).alloc (le_al HBk6.out.size) _).alloc (le_al (le_al HBk6.out.size)) _ | exact HBk5.out | exact HBk5.out.alloc HBk5.out.size _ | exact (HBk5.out.alloc HBk5.out.size _).alloc (le_al HBk5.out.size) _ | exact ((HBk5.out.alloc HBk5.out.size _).alloc (le_al HBk5.out.size) _).alloc (le_al (le_al HBk5.out.size)) _ | exact HBk4.out | exact HBk4.out.alloc HBk4.out.size _ | exact (HBk4.out.alloc HBk4.out.size _).alloc (le_al HBk4.out.size) _ | exact ((HBk4.out.alloc HBk4.out.size _).alloc (le_al HBk4.out.size) _).alloc (le_al (le_al HBk4.out.size)) _) (hbk7.mono (by (try simp only [World.size_alloc]); (try simp only [size_setCell']); omega))); have HNk7 := Lib.hid hbk7; clear hbk7 hsk7; obtain ⟨_, _, _, _, _, _, _, _, _⟩ := HBX2.out k7 HBk7.out)
          | (go_at_call 32; (with_reducible refine (HUpb.out _ (by first | exact HBk7.out | exact HBk7.out.alloc HBk7.out.size _ | exact (HBk7.out.alloc HBk7.out.size _).alloc (le_al HBk7.out.size) _ | exact ((HBk7.out.alloc HBk7.out.size _).alloc (le_al HBk7.out.size) _).alloc (le_al (le_al HBk7.out.size)) _ | exact HBk6.out | exact HBk6.out.alloc HBk6.out.size _ | exact (HBk6.out.alloc HBk6.out.size _).alloc (le_al HBk6.out.size) _ | exact ((HBk6.out.alloc HBk6.out.size _).alloc (le_al HBk6.out.size) _).alloc (le_al (le_al HBk6.out.size)) _ | exact HBk5.out | exact HBk5.out.alloc HBk5.out.size _ | exact (HBk5.out.alloc HBk5.out.size _).alloc (le_al HBk5.out.size) _ | exact ((HBk5.out.alloc HBk5.out.size _).alloc (le_al HBk5.out.size) _).alloc (le_al (le_al HBk5.out.size)) _)).mono ?_); rintro e k8 ⟨rfl, hbk8⟩; obtain ⟨hck8, hfk8⟩ := bcell hbk8; have hsk8 := hbk8.size; (try simp only [World.size_alloc] at hsk8); (try simp only [size_setCell'] at hsk8); (try have lek8_0 : wr.heap.size ≤ k8.heap.size := (by omega)); (try have ltk8_0 : wr.heap.size < k8.heap.size := (by omega)); (try have lek8_1 : k1.heap.size ≤ k8.heap.size := (by omega)); (try have ltk8_1 : k1.heap.size < k8.heap.size := (by omega)); (try have lek8_2 : k2.heap.size ≤ k8.heap.size := (by omega)); (try have ltk8_2 : k2.heap.size < k8.heap.size := (by omega)); (try have lek8_3 : k3.heap.size ≤ k8.heap.size := (by omega)); (try have ltk8_3 : k3.heap.size < k8.heap.size := (by omega)); (try have lek8_4 : k4.heap.size ≤ k8.heap.size := (by omega)); (try have ltk8_4 : k4.heap.size < k8.heap.size := (by omega)); (try have lek8_5 : k5.heap.size ≤ k8.heap.size := (by omega)); (try have ltk8_5 : k5.heap.size < k8.heap.size := (by omega)); (try have lek8_6 : k6.heap.size ≤ k8.heap.size := (by omega)); (try have ltk8_6 : k6.heap.size < k8.heap.size := (by omega)); (try have lek8_7 : k7.heap.size ≤ k8.heap.size := (by omega)); (try have ltk8_7 : k7.heap.size < k8.heap.size := (by omega)); have HBk8 : Hid (Below wr.heap.size wr k8) := Lib.hid (Below.trans (by first | exact HBk7.out | exact HBk7.out.alloc HBk7.out.size _ | exact (HBk7.out.alloc HBk7.out.size _).alloc (le_al HBk7.out.size) _ | exact ((HBk7.out.alloc HBk7.out.size _).alloc (le_al HBk7.out.size) _).alloc (le_al (le_al HBk7.out.size)) _ | exact HBk6.out | exact HBk6.out.alloc HBk6.out.size _ | exact (HBk6.out.alloc HBk6.out.size _).alloc (le_al HBk6.out.size) _ | exact ((HBk6.out.alloc HBk6.out.size _).alloc (le_al HBk6.out.size) _).alloc (le_al (le_al HBk6.out.size)) _ | exact HBk5.out | exact HBk5.out.alloc HBk5.out.size _ | exact (HBk5.out.alloc HBk5.out.size _).alloc (le_al HBk5.out.size) _ | exact ((HBk5.out.alloc HBk5.out.size _).alloc (le_al HBk5.out.size) _).alloc (le_al (le_al HBk5.out.size)) _) (hbk8.mono (by (try simp only [World.size_alloc]); (try simp only [size_setCell']); omega))); have HNk8 := Lib.hid hbk8; clear hbk8 hsk8; obtain ⟨_, _, _, _, _, _, _, _, _⟩ := HBX2.out k8 HBk8.out))
      all_goals
        go_ret
        refine ⟨ret_bool ?_, HBW.out.trans (Below.mono (by first | exact HBk8.out | exact HBk7.out | exact HBk6.out | exact HBk5.out | exact HBk4.out) HBW.out.size)⟩
        first
          | rfl
          | skip
end Go.Proofs.Ytmnkaohhjhjciaa
