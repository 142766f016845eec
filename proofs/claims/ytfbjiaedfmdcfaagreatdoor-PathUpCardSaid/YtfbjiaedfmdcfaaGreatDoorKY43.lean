/-
  What the laws of chapter 15 share: few, the example at their head; no conditions.
-/
import Derived.Test.YtfbjiaedfmdcfaaGreatDoorKY28
import Derived.Test.YtfbjiaedfmdcfaaGreatDoorKY40
import Derived.Test.YtfbjiaedfmdcfaaGreatDoorKY42
/-! ## L15 -/
namespace Go.Proofs.YtfbjiaedfmdcfaaGreatDoor.L15
open Go.RowKit Go.Shelf Go.Proofs

set_option maxRecDepth 100000 in
set_option maxHeartbeats 1000000 in
theorem fewP_any (v : Value) (l : List Op) (w : World) (h : SlAt w 13 Op.cells v l) : Calls Tryz.prog 29 #[v] w fun x w' => x = .returned (.bool (decide (l.length ≤ 60))) ∧ w' = w := by
  obtain ⟨a, c, rfl⟩ := h.len
  clear h
  have e : decide (l.length ≤ 60) = decide ((l.length : Int) ≤ 60) := by rw [decide_eq_decide]; omega
  rw [e]
  clear e
  go_enter Tryz.func29, Tryz.ntmps29
  go_wp2
  go_ret
  exact ⟨rfl, rfl⟩

def shP : Op := ⟨⟨1, 0⟩, 3, ⟨0, 0⟩, ⟨0, 0⟩, ⟨0, 0⟩, ⟨#[97]⟩, ⟨#[]⟩, 0, ⟨#[97]⟩⟩
theorem shW : Gr.new.opWhy shP = 0 := by kernel_rfl
theorem shG : Gr.new.apply shP = Gr.new.grown shP := by
  obtain ⟨hm, hkw⟩ := opWhy_zero shW
  rw [apply_zero shW]
  rw [kindWhy_make (Or.inr (Or.inr rfl))] at hkw
  exact (Gr.Ok.new.does_make (Or.inr (Or.inr rfl)) hm hkw).1
theorem shR : ofOps [shP] = Gr.new.grown shP := by
  have h1 : sortOps [shP] = [shP] := by kernel_rfl
  unfold ofOps ran
  rw [h1]
  exact shG
theorem shA : (ofOps [shP]).findP ⟨0, 0⟩ ⟨#[97, 47, 98]⟩ false = (spot0, 9) := by rw [shR]; kernel_rfl
theorem shB : (ofOps [shP]).findP ⟨0, 0⟩ ⟨#[47, 46, 47, 97]⟩ false = (⟨⟨0, 0⟩, ⟨#[97]⟩, ⟨1, 0⟩, true⟩, 0) := by rw [shR]; kernel_rfl
theorem shS : ∀ o ∈ [shP], o.Small := fun o ho => by
  simp only [List.mem_cons, List.not_mem_nil, or_false] at ho
  subst ho
  unfold Op.Small shP reachBytes; decide

set_option maxRecDepth 100000 in
set_option maxHeartbeats 2000000 in
theorem shownP_any (w : World) : Calls Tryz.prog 28 #[] w fun x w' => x = .returned (.bool true) ∧ Below w.heap.size w w' := by
  have hrow : (w.alloc (.cells ([shP].flatMap Op.cells).toArray 42)).ownsRow 0 42 13 (.slice (some ⟨w.heap.size, 0, none⟩) 1 1) 1 ([shP].flatMap Op.cells) := World.ownsRow_lit w _ 1 (Nat.zero_le _) (by unfold maxLen; omega) rfl
  have hsl : SlAt (w.alloc (.cells ([shP].flatMap Op.cells).toArray 42)) 13 Op.cells (.slice (some ⟨w.heap.size, 0, none⟩) 1 1) [shP] := SlAt.of_row (fun _ => rfl) hrow
  have HOF := Lib.hid (of_any _ [shP] _ hsl shS (by decide))
  clear hrow hsl
  go_enter Tryz.func28, Tryz.ntmps28
  go_wp2_with fail
  refine Calls.mono HOF.out ?_
  rintro e w1 ⟨v1, rfl, ⟨gb, mI, mE, rfl, hG, h1, h2, h3⟩, hb⟩
  have HB1 : Hid (Below w.heap.size w w1) := Lib.hid (((Below.refl _ w).alloc (Nat.le_refl _) _).trans (hb.mono (by simp)))
  have hR := hG.reads (ofOps_ok _) (by have := (ofOps_ok [shP]).few; omega)
  have HF1 := Lib.hid (fun W (hW : Below w1.heap.size w1 W) => find_any gb _ ⟨0, 0⟩ ⟨#[97, 47, 98]⟩ false W (hR.below hW) (ofOps_thin _) (by decide))
  have HF2 := Lib.hid (fun W (hW : Below w1.heap.size w1 W) => find_any gb _ ⟨0, 0⟩ ⟨#[47, 46, 47, 97]⟩ false W (hR.below hW) (ofOps_thin _) (by decide))
  rw [shA] at HF1
  rw [shB] at HF2
  simp only [Spot.v, spot0, St.v] at HF1 HF2
  clear hG h1 h2 h3 hb hR HOF
  go_wp2_with fail
  refine (HF1.out w1 (Below.refl _ _)).mono ?_
  rintro e w2 ⟨rfl, hb2⟩
  have HB2 := Lib.hid (HB1.out.trans (hb2.mono HB1.out.size))
  have HN2 := Lib.hid hb2
  clear hb2
  go_wp2_with fail
  refine (HF2.out _ (HN2.out.alloc HN2.out.size _)).mono ?_
  rintro e w3 ⟨rfl, hb3⟩
  have HB3 := Lib.hid ((HB2.out.alloc HB2.out.size _).trans (hb3.mono (by have := HB2.out.size; simp only [World.size_alloc]; omega)))
  clear hb3
  go_wp2
  go_ret
  exact ⟨rfl, HB3.out.alloc HB3.out.size _⟩
end Go.Proofs.YtfbjiaedfmdcfaaGreatDoor.L15
