/-
  What the laws of chapter 15 share: few, the example at their head; no conditions. · path.Find at no graph; no condition but the path's length. · The law PathNobody walked; no conditions.
-/
import Derived.Test.YtfbjiaedfmdcfaaGreatDoorKZ28
import Derived.Test.YtfbjiaedfmdcfaaGreatDoorKZ40
import Derived.Test.YtfbjiaedfmdcfaaGreatDoorKZ42
/-! ## L15 -/
namespace Go.Proofs.YtfbjiaedfmdcfaaGreatDoor.L15
open Go.RowKit Go.Shelf Go.Proofs

def shP : Op := ⟨⟨1, 0⟩, 3, ⟨0, 0⟩, ⟨0, 0⟩, ⟨0, 0⟩, ⟨#[97]⟩, ⟨#[]⟩, 0, ⟨#[97]⟩⟩
theorem shW : Gr.new.opWhy shP = 0 := by kernel_rfl
theorem shG : Gr.new.apply shP = Gr.new.grown shP := by
  obtain ⟨hm, hkw⟩ := opWhy_zero shW
  rw [apply_zero shW]
  rw [kindWhy_make (Or.inr (Or.inr rfl))] at hkw
  exact (Gr.Ok.new.does_make (Or.inr (Or.inr rfl)) hm hkw).1
theorem shR : ofOps [shP] = Gr.new.grown shP := by
  have h1 : sortOps [shP] = [shP] := by kernel_rfl
  unfold ofOps ran
  rw [h1]
  exact shG
theorem shA : (ofOps [shP]).findP ⟨0, 0⟩ ⟨#[97, 47, 98]⟩ false = (spot0, 9) := by rw [shR]; kernel_rfl
theorem shB : (ofOps [shP]).findP ⟨0, 0⟩ ⟨#[47, 46, 47, 97]⟩ false = (⟨⟨0, 0⟩, ⟨#[97]⟩, ⟨1, 0⟩, true⟩, 0) := by rw [shR]; kernel_rfl
theorem shS : ∀ o ∈ [shP], o.Small := fun o ho => by
  simp only [List.mem_cons, List.not_mem_nil, or_false] at ho
  subst ho
  unfold Op.Small shP reachBytes; decide

set_option maxRecDepth 100000 in
set_option maxHeartbeats 2000000 in
theorem shownP_any (w : World) : Calls Tryz.prog 28 #[] w fun x w' => x = .returned (.bool true) ∧ Below w.heap.size w w' := by
  have hrow : (w.alloc (.cells ([shP].flatMap Op.cells).toArray 42)).ownsRow 0 42 13 (.slice (some ⟨w.heap.size, 0, none⟩) 1 1) 1 ([shP].flatMap Op.cells) := World.ownsRow_lit w _ 1 (Nat.zero_le _) (by unfold maxLen; omega) rfl
  have hsl : SlAt (w.alloc (.cells ([shP].flatMap Op.cells).toArray 42)) 13 Op.cells (.slice (some ⟨w.heap.size, 0, none⟩) 1 1) [shP] := SlAt.of_row (fun _ => rfl) hrow
  have HOF := Lib.hid (of_any _ [shP] _ hsl shS (by decide))
  clear hrow hsl
  go_enter Tryz.func28, Tryz.ntmps28
  go_wp2_with fail
  refine Calls.mono HOF.out ?_
  rintro e w1 ⟨v1, rfl, ⟨gb, mI, mE, rfl, hG, h1, h2, h3⟩, hb⟩
  have HB1 : Hid (Below w.heap.size w w1) := Lib.hid (((Below.refl _ w).alloc (Nat.le_refl _) _).trans (hb.mono (by simp)))
  have hR := hG.reads (ofOps_ok _) (by have := (ofOps_ok [shP]).few; omega)
  have HF1 := Lib.hid (fun W (hW : Below w1.heap.size w1 W) => find_any gb _ ⟨0, 0⟩ ⟨#[97, 47, 98]⟩ false W (hR.below hW) (ofOps_thin _) (by decide))
  have HF2 := Lib.hid (fun W (hW : Below w1.heap.size w1 W) => find_any gb _ ⟨0, 0⟩ ⟨#[47, 46, 47, 97]⟩ false W (hR.below hW) (ofOps_thin _) (by decide))
  rw [shA] at HF1
  rw [shB] at HF2
  simp only [Spot.v, spot0, St.v] at HF1 HF2
  clear hG h1 h2 h3 hb hR HOF
  go_wp2_with fail
  refine (HF1.out w1 (Below.refl _ _)).mono ?_
  rintro e w2 ⟨rfl, hb2⟩
  have HB2 := Lib.hid (HB1.out.trans (hb2.mono HB1.out.size))
  have HN2 := Lib.hid hb2
  clear hb2
  go_wp2_with fail
  refine (HF2.out _ (HN2.out.alloc HN2.out.size _)).mono ?_
  rintro e w3 ⟨rfl, hb3⟩
  have HB3 := Lib.hid ((HB2.out.alloc HB2.out.size _).trans (hb3.mono (by have := HB2.out.size; simp only [World.size_alloc]; omega)))
  clear hb3
  go_wp2
  go_ret
  exact ⟨rfl, HB3.out.alloc HB3.out.size _⟩
end Go.Proofs.YtfbjiaedfmdcfaaGreatDoor.L15

/-! ## PathJ -/
namespace Go.Proofs.YtfbjiaedfmdcfaaGreatDoor
open Go.RowKit Go.Shelf Go.Proofs

def findNil (p : ByteArray) : Int := if splitWhy p ≠ 0 then splitWhy p else 3

set_option maxRecDepth 100000 in
set_option maxHeartbeats 8000000 in
theorem find_nil (at_ : St) (p : ByteArray) (fol : Bool) (w : World) (hps : p.size ≤ 1000) :
    Calls Tryz.prog 31 #[.pointer none, at_.v, .string p, .bool fol] w fun e w' => e = .returned (.tuple #[spot0.v, .int .i64 (findNil p)]) ∧ Below w.heap.size w w' := by
  obtain ⟨W1, hW1⟩ : ∃ W1, W1 = ((w.alloc (.cells #[.int .i64 at_.t, .int .i64 at_.r] 26)).alloc (.cells #[.int .i64 0, .int .i64 0, .string ⟨#[]⟩, .int .i64 0, .int .i64 0, .bool false] 60)).alloc (.cells #[.pointer none, .int .i64 0, .int .i64 0, .string ⟨#[]⟩, .int .i64 0, .int .i64 0, .bool false, .slice none 0 0, .int .i64 0] 104) := ⟨_, rfl⟩
  have HB1 : Hid (Below w.heap.size w W1) := Lib.hid (by rw [hW1]; exact (((Below.refl _ w).alloc (Nat.le_refl _) _).alloc (by simp) _).alloc (by simp only [World.size_alloc]; omega) _)
  have hs1 : W1.heap.size = w.heap.size + 1 + 1 + 1 := by rw [hW1]; simp
  have HK1 : Hid (WkAt W1 (w.heap.size + 1 + 1) none spot0 (.slice none 0 0) 0) := Lib.hid (by
    have := World.alloc_heap_new ((w.alloc (.cells #[.int .i64 at_.t, .int .i64 at_.r] 26)).alloc (.cells #[.int .i64 0, .int .i64 0, .string ⟨#[]⟩, .int .i64 0, .int .i64 0, .bool false] 60)) (.cells #[.pointer none, .int .i64 0, .int .i64 0, .string ⟨#[]⟩, .int .i64 0, .int .i64 0, .bool false, .slice none 0 0, .int .i64 0] 104)
    rw [World.size_alloc, World.size_alloc, ← hW1] at this
    exact this)
  have HA1 : Hid (W1.heap[w.heap.size]? = some (.cells #[.int .i64 at_.t, .int .i64 at_.r] 26) ∧ W1.heap[w.heap.size + 1]? = some (.cells #[.int .i64 0, .int .i64 0, .string ⟨#[]⟩, .int .i64 0, .int .i64 0, .bool false] 60 (0, 0))) := Lib.hid (by
    rw [hW1]
    constructor
    · rw [Below.heap_alloc _ _ _ (by simp only [World.size_alloc]; omega), Below.heap_alloc _ _ _ (by simp)]
      exact World.alloc_heap_new w _
    · have := World.alloc_heap_new (w.alloc (.cells #[.int .i64 at_.t, .int .i64 at_.r] 26)) (.cells #[.int .i64 0, .int .i64 0, .string ⟨#[]⟩, .int .i64 0, .int .i64 0, .bool false] 60)
      rw [World.size_alloc] at this
      rw [Below.heap_alloc _ _ _ (by simp only [World.size_alloc]; omega)]
      exact this)
  have HBG := Lib.hid (begin_any (w.heap.size + 1 + 1) none spot0 (.slice none 0 0) [] 0 at_ p W1 hps HK1.out (TxIn.nil _ _) (by simp))
  have HGT := Lib.hid (fun W (_ : Below w.heap.size w W) => get_nil at_ W)
  have HFP : Hid (findNil p = if splitWhy p ≠ 0 then splitWhy p else 3) := Lib.hid rfl
  generalize findNil p = R at *
  unfold St.v at HBG HGT ⊢
  unfold Ino.v at HGT
  unfold Spot.v
  have hcs : splitWhy p ≠ 0 ∨ splitWhy p = 0 := (Decidable.em (splitWhy p = 0)).symm
  generalize splitWhy p = z at HFP HBG hcs
  rcases hcs with hz | rfl
  · have HFR : Hid (R = z) := Lib.hid (by rw [HFP.out, if_pos hz])
    have hzb : (z == 0) = false := by simpa using hz
    have hzc : (z != 0) = true := by simpa using hz
    clear hz
    go_enter Tryz.func31, Tryz.ntmps31
    go_wp2_with fail
    go_step3
    go_wp2_with fail
    rw [← hW1]
    clear hW1
    refine Calls.mono HBG.out ?_
    rintro e w2 ⟨rfl, hw2, _, hz0⟩
    have HZ0 := Lib.hid hz0
    clear hz0
    have HW2 := Lib.hid hw2
    have hl0 : w.heap.size < W1.heap.size := by omega
    have hl1 : w.heap.size + 1 < W1.heap.size := by omega
    have ha0 : w2.heap[w.heap.size]? = some (.cells #[.int .i64 at_.t, .int .i64 at_.r] 26) := (hw2.block _ hl0 (by omega)).trans HA1.out.1
    have ha1 : w2.heap[w.heap.size + 1]? = some (.cells #[.int .i64 0, .int .i64 0, .string ⟨#[]⟩, .int .i64 0, .int .i64 0, .bool false] 60 (0, 0)) := (hw2.block _ hl1 (by omega)).trans HA1.out.2
    have HBW2 : Hid (Below w.heap.size w w2) := Lib.hid (HB1.out.trans (hw2.below (by omega) HB1.out.size))
    have x0 := cell_atW ha0 0 _ rfl
    have x1 := cell_atW ha0 1 _ rfl
    have HA2 := Lib.hid ha1
    have HW0 := Lib.hid hl1
    clear hw2 ha0 ha1
    go_wp2_with fail
    refine (HGT.out _ HBW2.out).mono ?_
    rintro e w3 ⟨rfl, hn3⟩
    have hb3 : Below w2.heap.size w2 w3 := hn3.below
    clear hn3
    have HN3 := Lib.hid hb3
    have HB3 := Lib.hid (HBW2.out.trans (hb3.mono HBW2.out.size))
    have ha3 : w3.heap[w.heap.size + 1]? = some (.cells #[.int .i64 0, .int .i64 0, .string ⟨#[]⟩, .int .i64 0, .int .i64 0, .bool false] 60 (0, 0)) := (hb3.block _ (Array.getElem?_eq_some_iff.1 HA2.out).1).trans HA2.out
    clear hb3
    go_wp2
    go_step3
    go_wp2
    refine wp_loop_rounds 1 ?_
    rw [rounds_succ]
    have q0 := cell_atW ha3 0 _ rfl
    have q1 := cell_atW ha3 1 _ rfl
    have q2 := cell_atW ha3 2 _ rfl
    have q3 := cell_atW ha3 3 _ rfl
    have q4 := cell_atW ha3 4 _ rfl
    have q5 := cell_atW ha3 5 _ rfl
    have p0 := frozen_atW ha3 0
    have p1 := frozen_atW ha3 1
    have p2 := frozen_atW ha3 2
    have p3 := frozen_atW ha3 3
    have p4 := frozen_atW ha3 4
    have p5 := frozen_atW ha3 5
    have hl3 : w.heap.size + 1 < w3.heap.size := (Array.getElem?_eq_some_iff.1 ha3).1
    have HA3 := Lib.hid ha3
    clear ha3
    go_wp2
    rw [Exit.noGoto_ret]
    refine bodyPost_ret (results_cell_tmp rfl _ _ (w.heap.size + 1) 60 _ _ _ rfl ((Below.heap_alloc _ _ _ (by simp only [World.size_setCell]; exact hl3)).trans (spotBox (s0 := spot0) HA3.out spot0)) Tryz.underlying60 rfl (by kernel_rfl)) rfl ?_
    rw [HFR.out]
    exact ⟨rfl, (spotBelow HB3.out (by omega) _ _ _ _ _ _).alloc (spotBelow HB3.out (by omega) _ _ _ _ _ _).size _⟩
  · have HFR : Hid (R = 3) := Lib.hid (by rw [HFP.out]; rfl)
    go_enter Tryz.func31, Tryz.ntmps31
    go_wp2_with fail
    go_step3
    go_wp2_with fail
    rw [← hW1]
    clear hW1
    refine Calls.mono HBG.out ?_
    rintro e w2 ⟨rfl, hw2, _, hz0⟩
    have HZ0 := Lib.hid hz0
    clear hz0
    have HW2 := Lib.hid hw2
    have hl0 : w.heap.size < W1.heap.size := by omega
    have hl1 : w.heap.size + 1 < W1.heap.size := by omega
    have ha0 : w2.heap[w.heap.size]? = some (.cells #[.int .i64 at_.t, .int .i64 at_.r] 26) := (hw2.block _ hl0 (by omega)).trans HA1.out.1
    have ha1 : w2.heap[w.heap.size + 1]? = some (.cells #[.int .i64 0, .int .i64 0, .string ⟨#[]⟩, .int .i64 0, .int .i64 0, .bool false] 60 (0, 0)) := (hw2.block _ hl1 (by omega)).trans HA1.out.2
    have HBW2 : Hid (Below w.heap.size w w2) := Lib.hid (HB1.out.trans (hw2.below (by omega) HB1.out.size))
    have x0 := cell_atW ha0 0 _ rfl
    have x1 := cell_atW ha0 1 _ rfl
    have HA2 := Lib.hid ha1
    have HW0 := Lib.hid hl1
    clear hw2 ha0 ha1
    go_wp2_with fail
    refine (HGT.out _ HBW2.out).mono ?_
    rintro e w3 ⟨rfl, hn3⟩
    have hb3 : Below w2.heap.size w2 w3 := hn3.below
    clear hn3
    have HN3 := Lib.hid hb3
    have HB3 := Lib.hid (HBW2.out.trans (hb3.mono HBW2.out.size))
    have ha3 : w3.heap[w.heap.size + 1]? = some (.cells #[.int .i64 0, .int .i64 0, .string ⟨#[]⟩, .int .i64 0, .int .i64 0, .bool false] 60 (0, 0)) := (hb3.block _ (Array.getElem?_eq_some_iff.1 HA2.out).1).trans HA2.out
    clear hb3
    go_wp2
    go_step3
    go_wp2
    refine wp_loop_rounds 1 ?_
    rw [rounds_succ]
    have q0 := cell_atW ha3 0 _ rfl
    have q1 := cell_atW ha3 1 _ rfl
    have q2 := cell_atW ha3 2 _ rfl
    have q3 := cell_atW ha3 3 _ rfl
    have q4 := cell_atW ha3 4 _ rfl
    have q5 := cell_atW ha3 5 _ rfl
    have p0 := frozen_atW ha3 0
    have p1 := frozen_atW ha3 1
    have p2 := frozen_atW ha3 2
    have p3 := frozen_atW ha3 3
    have p4 := frozen_atW ha3 4
    have p5 := frozen_atW ha3 5
    have hl3 : w.heap.size + 1 < w3.heap.size := (Array.getElem?_eq_some_iff.1 ha3).1
    have HA3 := Lib.hid ha3
    clear ha3
    go_wp2
    rw [Exit.noGoto_ret]
    refine bodyPost_ret (results_cell_tmp rfl _ _ (w.heap.size + 1) 60 _ _ _ rfl ((Below.heap_alloc _ _ _ (by simp only [World.size_setCell]; exact hl3)).trans (spotBox (s0 := spot0) HA3.out spot0)) Tryz.underlying60 rfl (by kernel_rfl)) rfl ?_
    rw [HFR.out]
    exact ⟨rfl, (spotBelow HB3.out (by omega) _ _ _ _ _ _).alloc (spotBelow HB3.out (by omega) _ _ _ _ _ _).size _⟩
end Go.Proofs.YtfbjiaedfmdcfaaGreatDoor

/-! ## LNobody -/
namespace Go.Proofs.YtfbjiaedfmdcfaaGreatDoor.L15
open Go.RowKit Go.Shelf Go.Proofs

theorem eq_spot (s : Spot) (w : World) : (Op.equal 60 s.v s.v).run Tryz.prog w = .ok true w := by
  show (Op.equalIn (9999 + 1) 60 _ _).run Tryz.prog w = _
  have hu := Tryz.underlying2
  have hs := Tryz.underlying9
  have hb := Tryz.underlying4
  have ha := Tryz.underlying26
  have ho := Tryz.underlying60
  obtain ⟨⟨a, b⟩, c, ⟨d, e⟩, f⟩ := s
  unfold Spot.v
  simp only
  go_simp
theorem eql_spot (s : Spot) (w : World) : (binOp .eql 60 s.v s.v).run Tryz.prog w = .ok (.bool true) w := by
  have h := eq_spot s w
  unfold Spot.v at h ⊢
  simp only [binOp]
  simp [h]

theorem noA : Gr.new.findP ⟨0, 0⟩ ⟨#[46, 46, 47, 46, 46, 47, 46, 46]⟩ true = (⟨⟨0, 0⟩, ⟨#[]⟩, ⟨0, 0⟩, true⟩, 0) := by kernel_rfl
theorem noB : Gr.new.findP ⟨5, 0⟩ ⟨#[46]⟩ false = (spot0, 3) := by kernel_rfl
theorem noC (p : ByteArray) : (findNil p != 0) = true := by
  unfold findNil
  split
  · simpa using ‹_›
  · rfl

set_option maxRecDepth 100000 in
set_option maxHeartbeats 2000000 in
theorem nobody_walk (p : ByteArray) (at_ : St) (w : World) (_hp : p.size ≤ 140737488351232) : Calls Tryz.prog 7 #[.string p, at_.v] w fun x w' => x = .returned (.bool true) ∧ Below w.heap.size w w' := by
  have HB0 : Hid (Below w.heap.size w (w.alloc (.cells #[.int .i64 at_.t, .int .i64 at_.r] 26))) := Lib.hid ((Below.refl _ w).alloc (Nat.le_refl _) _)
  have HSH := Lib.hid (fun W => shownP_any W)
  have HNW := Lib.hid (fun W => new_g W)
  have HFN := Lib.hid (fun W (h : p.size ≤ 1000) => find_nil at_ p true W h)
  unfold St.v at HFN ⊢
  have hnz := noC p
  generalize findNil p = z at HFN hnz
  have hq1 := eql_spot spot0
  have hq2 := eql_spot ⟨⟨0, 0⟩, ⟨#[]⟩, ⟨0, 0⟩, true⟩
  unfold Spot.v spot0 at HFN hq1
  unfold Spot.v at hq2
  simp only at hq1 hq2
  by_cases hl : 500 < p.size
  · have hli : (500 : Int) < (p.size : Int) := by omega
    go_enter Tryz.func7, Tryz.ntmps7
    go_wp2_with (go_at_call 28; refine (HSH.out _).mono ?_; rintro e w1 ⟨rfl, hb1⟩; have HB1 := Lib.hid (HB0.out.trans (hb1.mono HB0.out.size)); clear hb1)
    go_ret
    exact ⟨rfl, HB1.out⟩
  · have hli : ¬ (500 : Int) < (p.size : Int) := by omega
    have HPL : Hid (p.size ≤ 1000) := Lib.hid (by omega)
    go_enter Tryz.func7, Tryz.ntmps7
    go_wp2_with fail
    refine (HSH.out _).mono ?_
    rintro e w1 ⟨rfl, hb1⟩
    have HB1 := Lib.hid (HB0.out.trans (hb1.mono HB0.out.size))
    have hx : w1.heap[w.heap.size]? = some (.cells #[.int .i64 at_.t, .int .i64 at_.r] 26) := (hb1.block w.heap.size (by simp)).trans (World.alloc_heap_new w _)
    have x0 := cell_atW hx 0 _ rfl
    have x1 := cell_atW hx 1 _ rfl
    clear hb1 hx
    go_wp2_with fail
    refine (HFN.out _ HPL.out).mono ?_
    rintro e w2 ⟨rfl, hb2⟩
    have HB2 := Lib.hid (HB1.out.trans (hb2.mono HB1.out.size))
    clear hb2
    go_wp2_with fail
    refine (HNW.out _).mono ?_
    rintro e w3 ⟨v3, rfl, ⟨gb, mI, mE, rfl, hG, h1, h2, h3⟩, hb⟩
    have hR := hG.reads Gr.Ok.new (by have := Gr.Ok.new.few; omega)
    have HF1 := Lib.hid (fun W (hW : Below w3.heap.size w3 W) => find_any gb _ ⟨0, 0⟩ ⟨#[46, 46, 47, 46, 46, 47, 46, 46]⟩ true W (hR.below hW) Gr.Thin.new (by decide))
    rw [noA] at HF1
    simp only [Spot.v, St.v] at HF1
    have HB3 := Lib.hid ((HB2.out.alloc HB2.out.size _).trans (hb.mono (by have := HB2.out.size; simp only [World.size_alloc]; omega)))
    have hO3 := (hb.block w2.heap.size (by simp)).trans (World.alloc_heap_new w2 _)
    have HO3 := Lib.hid hO3
    clear hG h1 h2 h3 hR hb hO3
    go_wp2_with fail
    refine (HF1.out _ (Below.refl _ _)).mono ?_
    rintro e w4 ⟨rfl, hb4⟩
    have HB4 := Lib.hid (HB3.out.trans (hb4.mono HB3.out.size))
    have hO4 := (hb4.block _ (Array.getElem?_eq_some_iff.1 HO3.out).1).trans HO3.out
    have HO4 := Lib.hid hO4
    clear hb4 hO4
    go_wp2_with fail
    refine (HNW.out _).mono ?_
    rintro e w5 ⟨v5, rfl, ⟨gc, mI5, mE5, rfl, hG, h1, h2, h3⟩, hb⟩
    have hR := hG.reads Gr.Ok.new (by have := Gr.Ok.new.few; omega)
    have HF2 := Lib.hid (fun W (hW : Below w5.heap.size w5 W) => find_any gc _ ⟨5, 0⟩ ⟨#[46]⟩ false W (hR.below hW) Gr.Thin.new (by decide))
    rw [noB] at HF2
    simp only [Spot.v, spot0, St.v] at HF2
    have HB5 := Lib.hid ((HB4.out.alloc HB4.out.size _).trans (hb.mono (by have := HB4.out.size; simp only [World.size_alloc]; omega)))
    have hP5 := (hb.block w4.heap.size (by simp)).trans (World.alloc_heap_new w4 _)
    have hO5 := (hb.block w2.heap.size (by have := (Array.getElem?_eq_some_iff.1 HO4.out).1; simp only [World.size_alloc]; omega)).trans ((Below.heap_alloc w4 _ _ (Array.getElem?_eq_some_iff.1 HO4.out).1).trans HO4.out)
    have HP5 := Lib.hid hP5
    have HO5 := Lib.hid hO5
    clear hG h1 h2 h3 hR hb hP5 hO5
    go_wp2_with fail
    refine (HF2.out _ (Below.refl _ _)).mono ?_
    rintro e w6 ⟨rfl, hb6⟩
    have HB6 := Lib.hid (HB5.out.trans (hb6.mono HB5.out.size))
    have hO := (hb6.block _ (Array.getElem?_eq_some_iff.1 HO5.out).1).trans HO5.out
    have hP := (hb6.block _ (Array.getElem?_eq_some_iff.1 HP5.out).1).trans HP5.out
    have q0 := cell_atW hO 0 _ rfl
    have q1 := cell_atW hO 1 _ rfl
    have q2 := cell_atW hO 2 _ rfl
    have q3 := cell_atW hO 3 _ rfl
    have q4 := cell_atW hO 4 _ rfl
    have q5 := cell_atW hO 5 _ rfl
    have p0 := cell_atW hP 0 _ rfl
    have p1 := cell_atW hP 1 _ rfl
    have p2 := cell_atW hP 2 _ rfl
    have p3 := cell_atW hP 3 _ rfl
    have p4 := cell_atW hP 4 _ rfl
    have p5 := cell_atW hP 5 _ rfl
    have lO := (Array.getElem?_eq_some_iff.1 hO).1
    have lP := (Array.getElem?_eq_some_iff.1 hP).1
    clear hb6 hO hP
    go_wp2
    go_ret
    exact ⟨rfl, HB6.out.alloc HB6.out.size _⟩
end Go.Proofs.YtfbjiaedfmdcfaaGreatDoor.L15
