/-
  undo.Back, the record's lists told by their cells alone; condition: the graph is in order.
-/
import Derived.Test.YtlokljaeknmdpaaGreatKZ39
import Derived.Test.YtlokljaeknmdpaaGreatKZ32
/-! ## UndoE -/
namespace Go.Proofs.YtlokljaeknmdpaaGreat
open Go.RowKit Go.Shelf Go.Proofs
set_option linter.unusedVariables false

set_option maxRecDepth 100000 in
set_option maxHeartbeats 8000000 in
theorem back_sl (gb mI mE : Nat) (g : Gr) (r : Rec) (v1 v2 v3 v4 : Value) (err : Int) (w : World) (h : GrAt w gb mI mE g) (hok : g.Ok) (hr : SlAt w 5 Ent.cells v1 r.lost ∧ SlAt w 5 Ent.cells v2 r.made ∧ SlAt w 6 Ino.cells v3 r.was ∧ SlAt w 2 St.cells v4 r.new)
    (hl : r.lost.length ≤ 1000 ∧ r.made.length ≤ 1000 ∧ r.was.length ≤ 1000 ∧ r.new.length ≤ 1000) (hnm : ∀ x ∈ r.lost, x.name.size ≤ maxLen) :
    Calls Tryz.prog 28 #[.pointer (some ⟨gb, 0, none⟩), .agg #[v1, v2, v3, v4, .int .i64 err]] w fun e w' => e = .returned (.tuple #[]) ∧ GrAt w' gb mI mE (g.back r) ∧ Turn (Maps2 mI mE) w w' := by
  obtain ⟨lost, made, was, new, rerr⟩ := r
  obtain ⟨a1, c1, rfl⟩ := hr.1.len
  obtain ⟨a2, c2, rfl⟩ := hr.2.1.len
  obtain ⟨a3, c3, rfl⟩ := hr.2.2.1.len
  obtain ⟨a4, c4, rfl⟩ := hr.2.2.2.len
  simp only at hl hnm
  obtain ⟨hl1, hl2, hl3, hl4⟩ := hl
  have HL : Hid (lost.length ≤ 1000 ∧ made.length ≤ 1000 ∧ was.length ≤ 1000 ∧ new.length ≤ 1000) := Lib.hid ⟨hl1, hl2, hl3, hl4⟩
  have HNM := Lib.hid hnm
  obtain ⟨W0, hW0⟩ : ∃ W0, W0 = w.alloc (.cells #[.slice a1 lost.length c1, .slice a2 made.length c2, .slice a3 was.length c3, .slice a4 new.length c4, .int .i64 err] 44) := ⟨_, rfl⟩
  have HN0 : Hid (New w W0) := Lib.hid (by rw [hW0]; exact (New.refl w).alloc _)
  have HZ : Hid (gb < w.heap.size ∧ mI < w.heap.size ∧ mE < w.heap.size ∧ W0.heap.size = w.heap.size + 1) := Lib.hid ⟨h.lt.1, h.lt.2.1, h.lt.2.2, by rw [hW0]; simp only [World.size_alloc]⟩
  have HG0 : Hid (GrAt W0 gb mI mE g) := Lib.hid (h.new HN0.out)
  have HRC : Hid (∀ W, Turn (Maps2 mI mE) W0 W → SlAt W 5 Ent.cells (.slice a1 lost.length c1) lost ∧ SlAt W 5 Ent.cells (.slice a2 made.length c2) made ∧ SlAt W 6 Ino.cells (.slice a3 was.length c3) was ∧ SlAt W 2 St.cells (.slice a4 new.length c4) new) := Lib.hid fun W hW =>
    have ht : Turn (Maps2 mI mE) w W := (HN0.out.turn _).trans hW
    ⟨hr.1.turn ht, hr.2.1.turn ht, hr.2.2.1.turn ht, hr.2.2.2.turn ht⟩
  have HBX : Hid (∀ W, Turn (Maps2 mI mE) W0 W → W.heap[w.heap.size]? = some (.cells #[.slice a1 lost.length c1, .slice a2 made.length c2, .slice a3 was.length c3, .slice a4 new.length c4, .int .i64 err] 44 (0, 0))) := Lib.hid fun W hW => by
    have hz := HZ.out
    rw [hW.block _ (by omega) (fun hq => by rcases hq with hq | hq <;> omega), hW0]; exact heap_alloc_new _ _
  have HOK := Lib.hid hok
  clear h hok hr hl1 hl2 hl3 hl4 hnm
  have HT0 : Hid (Turn (Maps2 mI mE) W0 W0) := Lib.hid (Turn.refl _ _)
  obtain ⟨k0, k1, k2, k3, k4⟩ := rec_cells (HBX.out _ HT0.out)
  have hl0 : w.heap.size < W0.heap.size := by have := HZ.out; omega
  go_enter Tryz.func28, Tryz.ntmps28
  go_wp2_with fail
  rw [← hW0]
  have HW0 := Lib.hid hW0
  clear hW0
  go_wp2
  go_loopg [15] made.length (fun gg s wr => ∃ i : Nat, s = .int .i64 i ∧ i ≤ made.length ∧ made.length - i ≤ gg ∧ Aside (GrAt wr gb mI mE ((made.take i).foldl (fun (g : Gr) (x : Ent) => g.untie x.pl) (g))) ∧ Aside (Turn (Maps2 mI mE) W0 wr))
  case atStart => exact ⟨0, rfl, Nat.zero_le _, by omega, (show Aside _ from HG0.out), (show Aside _ from HT0.out)⟩
  case round =>
    obtain ⟨i, rfl, hil, hgg, hG, hT⟩ := hrel
    have hi0 : (0 : Int) ≤ (i : Int) := by omega
    have hwi : IntKind.i64.wrap ((i : Int) + 1) = (i : Int) + 1 := wrapNat (i + 1) (by have := HL.out.2.1; omega)
    obtain ⟨k0, k1, k2, k3, k4⟩ := rec_cells (HBX.out _ hT.out)
    have hlr : w.heap.size < wr.heap.size := by have := hT.out.size; have := HZ.out; omega
    by_cases hlt : i < made.length
    · have hlti : (i : Int) < (made.length : Int) := by omega
      obtain ⟨bb, off, hva, hbl, hcells⟩ := slAt_at (HRC.out wr hT.out).2.1 hlt
      subst hva
      obtain ⟨x1_0, x1_1, x1_2, x1_3, x1_4⟩ := cellsEnt hcells i hlt
      have HST := Lib.hid (foldl_take (fun (g : Gr) (x : Ent) => g.untie x.pl) (g) made i hlt)
      have HOKN : Hid (((made.take i).foldl (fun (g : Gr) (x : Ent) => g.untie x.pl) (g)).Ok) := Lib.hid (fold_ok (fun (g : Gr) (x : Ent) => g.untie x.pl) (fun g x h => h.untieD _) _ HOK.out)
      clear hcells
      generalize made[i]! = x at x1_0 x1_1 x1_2 x1_3 x1_4 HST
      generalize (made.take i).foldl (fun (g : Gr) (x : Ent) => g.untie x.pl) (g) = F at *
      have HNW : Hid (New wr (wr.alloc (.cells #[.int .i64 x.at_.t, .int .i64 x.at_.r, .string x.name, .int .i64 x.ino.t, .int .i64 x.ino.r] 34))) := Lib.hid ((New.refl wr).alloc _)
      have HXB : Hid (∀ S W, Turn S (wr.alloc (.cells #[.int .i64 x.at_.t, .int .i64 x.at_.r, .string x.name, .int .i64 x.ino.t, .int .i64 x.ino.r] 34)) W → (W.cell? ⟨wr.heap.size, 0, none⟩ = some (.int .i64 x.at_.t) ∧ W.cell? ⟨wr.heap.size, 1, none⟩ = some (.int .i64 x.at_.r) ∧ W.cell? ⟨wr.heap.size, 2, none⟩ = some (.string x.name) ∧ W.cell? ⟨wr.heap.size, 3, none⟩ = some (.int .i64 x.ino.t) ∧ W.cell? ⟨wr.heap.size, 4, none⟩ = some (.int .i64 x.ino.r) ∧ wr.heap.size < W.heap.size)) := Lib.hid fun S W hW => ⟨(hW.cell ⟨_, 0, none⟩ (by simp)).trans (cell_new _ _ rfl _ _ 0 _ rfl), (hW.cell ⟨_, 1, none⟩ (by simp)).trans (cell_new _ _ rfl _ _ 1 _ rfl), (hW.cell ⟨_, 2, none⟩ (by simp)).trans (cell_new _ _ rfl _ _ 2 _ rfl), (hW.cell ⟨_, 3, none⟩ (by simp)).trans (cell_new _ _ rfl _ _ 3 _ rfl), (hW.cell ⟨_, 4, none⟩ (by simp)).trans (cell_new _ _ rfl _ _ 4 _ rfl), by have := hW.size; simp at this; omega⟩
      have HGW := Lib.hid (hG.out.new HNW.out)
      have HTW := Lib.hid (hT.out.trans (HNW.out.turn (Maps2 mI mE)))
      go_wp2_with fail
      refine (untie_g gb mI mE F ⟨x.at_, x.name⟩ (wr.alloc (.cells #[.int .i64 x.at_.t, .int .i64 x.at_.r, .string x.name, .int .i64 x.ino.t, .int .i64 x.ino.r] 34)) HGW.out HOKN.out).mono ?_
      rintro e w2 ⟨rfl, hG2, hT2⟩
      have HG2 := Lib.hid hG2
      have HT2 := Lib.hid hT2
      clear hG2 hT2
      go_wp2
      go_roundg (made.length - (i + 1))
      case measure => omega
      case rel => exact ⟨i + 1, by first | rfl | go_num, by omega, by omega, (show Aside _ from by rw [HST.out]; exact HG2.out), (show Aside _ from HTW.out.trans HT2.out)⟩
    · have hlti : ¬ (i : Int) < (made.length : Int) := by omega
      obtain rfl : i = made.length := by omega
      have HGL1 : Hid (GrAt wr gb mI mE (made.foldl (fun (g : Gr) (x : Ent) => g.untie x.pl) (g))) := Lib.hid (by have := hG.out; rw [List.take_length] at this; exact this)
      have HTL1 := Lib.hid hT.out
      have HOL1 : Hid ((made.foldl (fun (g : Gr) (x : Ent) => g.untie x.pl) (g)).Ok) := Lib.hid (fold_ok (fun (g : Gr) (x : Ent) => g.untie x.pl) (fun g x h => h.untieD _) _ HOK.out)
      clear hG hT hgg hil hwi hi0
      go_wp2
      go_loopg [29] new.length (fun gg s wr => ∃ i : Nat, s = .int .i64 i ∧ i ≤ new.length ∧ new.length - i ≤ gg ∧ Aside (GrAt wr gb mI mE ((new.take i).foldl Gr.drop (made.foldl (fun (g : Gr) (x : Ent) => g.untie x.pl) (g)))) ∧ Aside (Turn (Maps2 mI mE) W0 wr))
      case atStart => exact ⟨0, rfl, Nat.zero_le _, by omega, (show Aside _ from HGL1.out), (show Aside _ from HTL1.out)⟩
      case round =>
        obtain ⟨i, rfl, hil, hgg, hG, hT⟩ := hrel
        have hi0 : (0 : Int) ≤ (i : Int) := by omega
        have hwi : IntKind.i64.wrap ((i : Int) + 1) = (i : Int) + 1 := wrapNat (i + 1) (by have := HL.out.2.2.2; omega)
        obtain ⟨k0, k1, k2, k3, k4⟩ := rec_cells (HBX.out _ hT.out)
        have hlr : w.heap.size < wr.heap.size := by have := hT.out.size; have := HZ.out; omega
        by_cases hlt : i < new.length
        · have hlti : (i : Int) < (new.length : Int) := by omega
          obtain ⟨bb, off, hva, hbl, hcells⟩ := slAt_at (HRC.out wr hT.out).2.2.2 hlt
          subst hva
          obtain ⟨x2_0, x2_1⟩ := cellsSt' hcells i hlt
          have HST := Lib.hid (foldl_take Gr.drop (made.foldl (fun (g : Gr) (x : Ent) => g.untie x.pl) (g)) new i hlt)
          have HOKN : Hid (((new.take i).foldl Gr.drop (made.foldl (fun (g : Gr) (x : Ent) => g.untie x.pl) (g))).Ok) := Lib.hid (fold_ok Gr.drop (fun g x h => h.dropD _) _ HOL1.out)
          clear hcells
          generalize new[i]! = x at x2_0 x2_1 HST
          generalize (new.take i).foldl Gr.drop (made.foldl (fun (g : Gr) (x : Ent) => g.untie x.pl) (g)) = F at *
          have HNW : Hid (New wr (wr.alloc (.cells #[.int .i64 x.t, .int .i64 x.r] 31))) := Lib.hid ((New.refl wr).alloc _)
          have HXB : Hid (∀ S W, Turn S (wr.alloc (.cells #[.int .i64 x.t, .int .i64 x.r] 31)) W → (W.cell? ⟨wr.heap.size, 0, none⟩ = some (.int .i64 x.t) ∧ W.cell? ⟨wr.heap.size, 1, none⟩ = some (.int .i64 x.r) ∧ wr.heap.size < W.heap.size)) := Lib.hid fun S W hW => ⟨(hW.cell ⟨_, 0, none⟩ (by simp)).trans (cell_new _ _ rfl _ _ 0 _ rfl), (hW.cell ⟨_, 1, none⟩ (by simp)).trans (cell_new _ _ rfl _ _ 1 _ rfl), by have := hW.size; simp at this; omega⟩
          have HGW := Lib.hid (hG.out.new HNW.out)
          have HTW := Lib.hid (hT.out.trans (HNW.out.turn (Maps2 mI mE)))
          go_wp2_with fail
          refine (drop_g gb mI mE F x (wr.alloc (.cells #[.int .i64 x.t, .int .i64 x.r] 31)) HGW.out HOKN.out (by have := HOKN.out.few; omega)).mono ?_
          rintro e w2 ⟨rfl, hG2, hT2⟩
          have HG2 := Lib.hid hG2
          have HT2 := Lib.hid hT2
          clear hG2 hT2
          go_wp2
          go_roundg (new.length - (i + 1))
          case measure => omega
          case rel => exact ⟨i + 1, by first | rfl | go_num, by omega, by omega, (show Aside _ from by rw [HST.out]; exact HG2.out), (show Aside _ from HTW.out.trans HT2.out)⟩
        · have hlti : ¬ (i : Int) < (new.length : Int) := by omega
          obtain rfl : i = new.length := by omega
          have HGL2 : Hid (GrAt wr gb mI mE (new.foldl Gr.drop (made.foldl (fun (g : Gr) (x : Ent) => g.untie x.pl) (g)))) := Lib.hid (by have := hG.out; rw [List.take_length] at this; exact this)
          have HTL2 := Lib.hid hT.out
          have HOL2 : Hid ((new.foldl Gr.drop (made.foldl (fun (g : Gr) (x : Ent) => g.untie x.pl) (g))).Ok) := Lib.hid (fold_ok Gr.drop (fun g x h => h.dropD _) _ HOL1.out)
          clear hG hT hgg hil hwi hi0
          go_wp2
          go_loopg [40] was.length (fun gg s wr => ∃ i : Nat, s = .int .i64 i ∧ i ≤ was.length ∧ was.length - i ≤ gg ∧ Aside (GrAt wr gb mI mE ((was.take i).foldl Gr.remake (new.foldl Gr.drop (made.foldl (fun (g : Gr) (x : Ent) => g.untie x.pl) (g))))) ∧ Aside (Turn (Maps2 mI mE) W0 wr))
          case atStart => exact ⟨0, rfl, Nat.zero_le _, by omega, (show Aside _ from HGL2.out), (show Aside _ from HTL2.out)⟩
          case round =>
            obtain ⟨i, rfl, hil, hgg, hG, hT⟩ := hrel
            have hi0 : (0 : Int) ≤ (i : Int) := by omega
            have hwi : IntKind.i64.wrap ((i : Int) + 1) = (i : Int) + 1 := wrapNat (i + 1) (by have := HL.out.2.2.1; omega)
            obtain ⟨k0, k1, k2, k3, k4⟩ := rec_cells (HBX.out _ hT.out)
            have hlr : w.heap.size < wr.heap.size := by have := hT.out.size; have := HZ.out; omega
            by_cases hlt : i < was.length
            · have hlti : (i : Int) < (was.length : Int) := by omega
              obtain ⟨bb, off, hva, hbl, hcells⟩ := slAt_at (HRC.out wr hT.out).2.2.1 hlt
              subst hva
              obtain ⟨x3_0, x3_1, x3_2, x3_3, x3_4, x3_5⟩ := cellsIno hcells i hlt
              have HST := Lib.hid (foldl_take Gr.remake (new.foldl Gr.drop (made.foldl (fun (g : Gr) (x : Ent) => g.untie x.pl) (g))) was i hlt)
              have HOKN : Hid (((was.take i).foldl Gr.remake (new.foldl Gr.drop (made.foldl (fun (g : Gr) (x : Ent) => g.untie x.pl) (g)))).Ok) := Lib.hid (fold_ok Gr.remake (fun g x h => remake_ok g x h) _ HOL2.out)
              clear hcells
              generalize was[i]! = x at x3_0 x3_1 x3_2 x3_3 x3_4 x3_5 HST
              generalize (was.take i).foldl Gr.remake (new.foldl Gr.drop (made.foldl (fun (g : Gr) (x : Ent) => g.untie x.pl) (g))) = F at *
              have HNW : Hid (New wr (wr.alloc (.cells #[.int .i64 x.id.t, .int .i64 x.id.r, .int .i64 x.kind, .int .i64 x.links, .int .i64 x.mode, .string x.data] 62))) := Lib.hid ((New.refl wr).alloc _)
              have HXB : Hid (∀ S W, Turn S (wr.alloc (.cells #[.int .i64 x.id.t, .int .i64 x.id.r, .int .i64 x.kind, .int .i64 x.links, .int .i64 x.mode, .string x.data] 62)) W → (W.cell? ⟨wr.heap.size, 0, none⟩ = some (.int .i64 x.id.t) ∧ W.cell? ⟨wr.heap.size, 1, none⟩ = some (.int .i64 x.id.r) ∧ W.cell? ⟨wr.heap.size, 2, none⟩ = some (.int .i64 x.kind) ∧ W.cell? ⟨wr.heap.size, 3, none⟩ = some (.int .i64 x.links) ∧ W.cell? ⟨wr.heap.size, 4, none⟩ = some (.int .i64 x.mode) ∧ W.cell? ⟨wr.heap.size, 5, none⟩ = some (.string x.data) ∧ wr.heap.size < W.heap.size)) := Lib.hid fun S W hW => ⟨(hW.cell ⟨_, 0, none⟩ (by simp)).trans (cell_new _ _ rfl _ _ 0 _ rfl), (hW.cell ⟨_, 1, none⟩ (by simp)).trans (cell_new _ _ rfl _ _ 1 _ rfl), (hW.cell ⟨_, 2, none⟩ (by simp)).trans (cell_new _ _ rfl _ _ 2 _ rfl), (hW.cell ⟨_, 3, none⟩ (by simp)).trans (cell_new _ _ rfl _ _ 3 _ rfl), (hW.cell ⟨_, 4, none⟩ (by simp)).trans (cell_new _ _ rfl _ _ 4 _ rfl), (hW.cell ⟨_, 5, none⟩ (by simp)).trans (cell_new _ _ rfl _ _ 5 _ rfl), by have := hW.size; simp at this; omega⟩
              have HGW := Lib.hid (hG.out.new HNW.out)
              have HTW := Lib.hid (hT.out.trans (HNW.out.turn (Maps2 mI mE)))
              go_wp2_with fail
              refine (make_g gb mI mE F x.id x.kind (wr.alloc (.cells #[.int .i64 x.id.t, .int .i64 x.id.r, .int .i64 x.kind, .int .i64 x.links, .int .i64 x.mode, .string x.data] 62)) HGW.out HOKN.out).mono ?_
              rintro e w2 ⟨rfl, hG2, hT2⟩
              have HG2 := Lib.hid hG2
              have HT2 := Lib.hid hT2
              clear hG2 hT2
              obtain ⟨_, _, _, _, _, _, _⟩ := HXB.out _ _ HT2.out
              go_wp2_with fail
              refine (set_g gb mI mE (F.make x.id x.kind) x.id x.mode x.data w2 HG2.out (HOKN.out.makeD _ _)).mono ?_
              rintro e w3 ⟨rfl, hG3, hT3⟩
              have HG3 := Lib.hid hG3
              have HT3 := Lib.hid hT3
              clear hG3 hT3
              go_wp2
              go_roundg (was.length - (i + 1))
              case measure => omega
              case rel => exact ⟨i + 1, by first | rfl | go_num, by omega, by omega, (show Aside _ from by rw [HST.out]; exact HG3.out), (show Aside _ from (HTW.out.trans HT2.out).trans HT3.out)⟩
            · have hlti : ¬ (i : Int) < (was.length : Int) := by omega
              obtain rfl : i = was.length := by omega
              have HGL3 : Hid (GrAt wr gb mI mE (was.foldl Gr.remake (new.foldl Gr.drop (made.foldl (fun (g : Gr) (x : Ent) => g.untie x.pl) (g))))) := Lib.hid (by have := hG.out; rw [List.take_length] at this; exact this)
              have HTL3 := Lib.hid hT.out
              have HOL3 : Hid ((was.foldl Gr.remake (new.foldl Gr.drop (made.foldl (fun (g : Gr) (x : Ent) => g.untie x.pl) (g)))).Ok) := Lib.hid (fold_ok Gr.remake (fun g x h => remake_ok g x h) _ HOL2.out)
              clear hG hT hgg hil hwi hi0
              go_wp2
              go_loopg [62] lost.length (fun gg s wr => ∃ i : Nat, s = .int .i64 i ∧ i ≤ lost.length ∧ lost.length - i ≤ gg ∧ Aside (GrAt wr gb mI mE ((lost.take i).foldl Gr.tie (was.foldl Gr.remake (new.foldl Gr.drop (made.foldl (fun (g : Gr) (x : Ent) => g.untie x.pl) (g)))))) ∧ Aside (Turn (Maps2 mI mE) W0 wr))
              case atStart => exact ⟨0, rfl, Nat.zero_le _, by omega, (show Aside _ from HGL3.out), (show Aside _ from HTL3.out)⟩
              case round =>
                obtain ⟨i, rfl, hil, hgg, hG, hT⟩ := hrel
                have hi0 : (0 : Int) ≤ (i : Int) := by omega
                have hwi : IntKind.i64.wrap ((i : Int) + 1) = (i : Int) + 1 := wrapNat (i + 1) (by have := HL.out.1; omega)
                obtain ⟨k0, k1, k2, k3, k4⟩ := rec_cells (HBX.out _ hT.out)
                have hlr : w.heap.size < wr.heap.size := by have := hT.out.size; have := HZ.out; omega
                by_cases hlt : i < lost.length
                · have hlti : (i : Int) < (lost.length : Int) := by omega
                  obtain ⟨bb, off, hva, hbl, hcells⟩ := slAt_at (HRC.out wr hT.out).1 hlt
                  subst hva
                  obtain ⟨x4_0, x4_1, x4_2, x4_3, x4_4⟩ := cellsEnt hcells i hlt
                  have HST := Lib.hid (foldl_take Gr.tie (was.foldl Gr.remake (new.foldl Gr.drop (made.foldl (fun (g : Gr) (x : Ent) => g.untie x.pl) (g)))) lost i hlt)
                  have HOKN : Hid (((lost.take i).foldl Gr.tie (was.foldl Gr.remake (new.foldl Gr.drop (made.foldl (fun (g : Gr) (x : Ent) => g.untie x.pl) (g))))).Ok) := Lib.hid (fold_ok Gr.tie (fun g x h => h.tieD _) _ HOL3.out)
                  have HNX := Lib.hid (HNM.out _ (getElem!_mem hlt))
                  clear hcells
                  generalize lost[i]! = x at x4_0 x4_1 x4_2 x4_3 x4_4 HST HNX
                  generalize (lost.take i).foldl Gr.tie (was.foldl Gr.remake (new.foldl Gr.drop (made.foldl (fun (g : Gr) (x : Ent) => g.untie x.pl) (g)))) = F at *
                  have HNW : Hid (New wr (wr.alloc (.cells #[.int .i64 x.at_.t, .int .i64 x.at_.r, .string x.name, .int .i64 x.ino.t, .int .i64 x.ino.r] 34))) := Lib.hid ((New.refl wr).alloc _)
                  have HXB : Hid (∀ S W, Turn S (wr.alloc (.cells #[.int .i64 x.at_.t, .int .i64 x.at_.r, .string x.name, .int .i64 x.ino.t, .int .i64 x.ino.r] 34)) W → (W.cell? ⟨wr.heap.size, 0, none⟩ = some (.int .i64 x.at_.t) ∧ W.cell? ⟨wr.heap.size, 1, none⟩ = some (.int .i64 x.at_.r) ∧ W.cell? ⟨wr.heap.size, 2, none⟩ = some (.string x.name) ∧ W.cell? ⟨wr.heap.size, 3, none⟩ = some (.int .i64 x.ino.t) ∧ W.cell? ⟨wr.heap.size, 4, none⟩ = some (.int .i64 x.ino.r) ∧ wr.heap.size < W.heap.size)) := Lib.hid fun S W hW => ⟨(hW.cell ⟨_, 0, none⟩ (by simp)).trans (cell_new _ _ rfl _ _ 0 _ rfl), (hW.cell ⟨_, 1, none⟩ (by simp)).trans (cell_new _ _ rfl _ _ 1 _ rfl), (hW.cell ⟨_, 2, none⟩ (by simp)).trans (cell_new _ _ rfl _ _ 2 _ rfl), (hW.cell ⟨_, 3, none⟩ (by simp)).trans (cell_new _ _ rfl _ _ 3 _ rfl), (hW.cell ⟨_, 4, none⟩ (by simp)).trans (cell_new _ _ rfl _ _ 4 _ rfl), by have := hW.size; simp at this; omega⟩
                  have HGW := Lib.hid (hG.out.new HNW.out)
                  have HTW := Lib.hid (hT.out.trans (HNW.out.turn (Maps2 mI mE)))
                  go_wp2_with fail
                  refine (tie_g gb mI mE F x (wr.alloc (.cells #[.int .i64 x.at_.t, .int .i64 x.at_.r, .string x.name, .int .i64 x.ino.t, .int .i64 x.ino.r] 34)) HGW.out HOKN.out (by have := HOKN.out.few; omega) HNX.out).mono ?_
                  rintro e w2 ⟨rfl, hG2, hT2⟩
                  have HG2 := Lib.hid hG2
                  have HT2 := Lib.hid hT2
                  clear hG2 hT2
                  go_wp2
                  go_roundg (lost.length - (i + 1))
                  case measure => omega
                  case rel => exact ⟨i + 1, by first | rfl | go_num, by omega, by omega, (show Aside _ from by rw [HST.out]; exact HG2.out), (show Aside _ from HTW.out.trans HT2.out)⟩
                · have hlti : ¬ (i : Int) < (lost.length : Int) := by omega
                  obtain rfl : i = lost.length := by omega
                  have HGL4 : Hid (GrAt wr gb mI mE (lost.foldl Gr.tie (was.foldl Gr.remake (new.foldl Gr.drop (made.foldl (fun (g : Gr) (x : Ent) => g.untie x.pl) (g)))))) := Lib.hid (by have := hG.out; rw [List.take_length] at this; exact this)
                  have HTL4 := Lib.hid hT.out
                  have HOL4 : Hid ((lost.foldl Gr.tie (was.foldl Gr.remake (new.foldl Gr.drop (made.foldl (fun (g : Gr) (x : Ent) => g.untie x.pl) (g))))).Ok) := Lib.hid (fold_ok Gr.tie (fun g x h => h.tieD _) _ HOL3.out)
                  clear hG hT hgg hil hwi hi0
                  go_wp2
                  go_end0
                  exact ⟨rfl, HGL4.out, (HN0.out.turn _).trans HTL4.out⟩
end Go.Proofs.YtlokljaeknmdpaaGreat
