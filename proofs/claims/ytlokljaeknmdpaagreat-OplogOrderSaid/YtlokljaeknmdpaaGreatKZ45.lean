/-
  What the laws of chapter 14 share: same, the example at their head; conditions: texts within reach. · Opening a parameter that is a slice of bytes, or of whole numbers; no condition.
-/
import Derived.Test.YtlokljaeknmdpaaGreatKZ35
import Derived.Test.YtlokljaeknmdpaaGreatKZ44
import Derived.Test.YtlokljaeknmdpaaGreatKZ33
/-! ## L14 -/
namespace Go.Proofs.YtlokljaeknmdpaaGreat.L14
open Go.RowKit Go.Shelf Go.Proofs

set_option maxRecDepth 100000 in
set_option maxHeartbeats 2000000 in
theorem same_any (gb hb : Nat) (g : Gr) (w : World) (hok : g.Ok) (h1 : Reads gb g w) (h2 : Reads hb g w) : Calls Tryz.prog 48 #[.pointer (some ⟨gb, 0, none⟩), .pointer (some ⟨hb, 0, none⟩)] w fun e w' => e = .returned (.bool true) ∧ Below w.heap.size w w' := by
  have HB0 : Hid (Below w.heap.size w w) := Lib.hid (Below.refl _ _)
  have HI1 := Lib.hid (fun W (hW : Below w.heap.size w W) => h1.inodes W hW)
  have HI2 := Lib.hid (fun W (hW : Below w.heap.size w W) => h2.inodes W hW)
  have HE1 := Lib.hid (fun W (hW : Below w.heap.size w W) => h1.entries W hW)
  have HE2 := Lib.hid (fun W (hW : Below w.heap.size w W) => h2.entries W hW)
  have HL : Hid (g.n.length ≤ 100000 ∧ g.e.length ≤ 100000) := Lib.hid ⟨by have := hok.len; omega, by have := hok.few; omega⟩
  clear h1 h2 hok
  go_enter Tryz.func48, Tryz.ntmps48
  go_wp2_with fail
  refine (HI1.out _ (by first | exact HB0.out | exact HB0.out.alloc HB0.out.size _ | exact (HB0.out.alloc HB0.out.size _).alloc (le_al HB0.out.size) _ | exact ((HB0.out.alloc HB0.out.size _).alloc (le_al HB0.out.size) _).alloc (le_al (le_al HB0.out.size)) _)).mono ?_
  rintro e w1 ⟨a1, c1, rfl, hs1, hb1⟩
  obtain ⟨hc1, hf1⟩ := bcell hb1
  have hs1 := hb1.size
  try simp only [World.size_alloc] at hs1
  try simp only [size_setCell'] at hs1
  try have le1_0 : w.heap.size ≤ w1.heap.size := (by omega)
  try have lt1_0 : w.heap.size < w1.heap.size := (by omega)
  have HB1 : Hid (Below w.heap.size w w1) := Lib.hid (Below.trans (by first | exact HB0.out | exact HB0.out.alloc HB0.out.size _ | exact (HB0.out.alloc HB0.out.size _).alloc (le_al HB0.out.size) _ | exact ((HB0.out.alloc HB0.out.size _).alloc (le_al HB0.out.size) _).alloc (le_al (le_al HB0.out.size)) _) (hb1.mono (by (try simp only [World.size_alloc]); (try simp only [size_setCell']); omega)))
  have HN1 := Lib.hid hb1
  clear hb1 hs1
  have HS1 := Lib.hid hs1
  clear hs1
  go_wp2_with fail
  refine (HI2.out _ (by first | exact HB1.out | exact HB1.out.alloc HB1.out.size _ | exact (HB1.out.alloc HB1.out.size _).alloc (le_al HB1.out.size) _ | exact ((HB1.out.alloc HB1.out.size _).alloc (le_al HB1.out.size) _).alloc (le_al (le_al HB1.out.size)) _ | exact HB0.out | exact HB0.out.alloc HB0.out.size _ | exact (HB0.out.alloc HB0.out.size _).alloc (le_al HB0.out.size) _ | exact ((HB0.out.alloc HB0.out.size _).alloc (le_al HB0.out.size) _).alloc (le_al (le_al HB0.out.size)) _)).mono ?_
  rintro e w2 ⟨a2, c2, rfl, hs2, hb2⟩
  obtain ⟨hc2, hf2⟩ := bcell hb2
  have hs2 := hb2.size
  try simp only [World.size_alloc] at hs2
  try simp only [size_setCell'] at hs2
  try have le2_0 : w.heap.size ≤ w2.heap.size := (by omega)
  try have lt2_0 : w.heap.size < w2.heap.size := (by omega)
  try have le2_1 : w1.heap.size ≤ w2.heap.size := (by omega)
  try have lt2_1 : w1.heap.size < w2.heap.size := (by omega)
  have HB2 : Hid (Below w.heap.size w w2) := Lib.hid (Below.trans (by first | exact HB1.out | exact HB1.out.alloc HB1.out.size _ | exact (HB1.out.alloc HB1.out.size _).alloc (le_al HB1.out.size) _ | exact ((HB1.out.alloc HB1.out.size _).alloc (le_al HB1.out.size) _).alloc (le_al (le_al HB1.out.size)) _ | exact HB0.out | exact HB0.out.alloc HB0.out.size _ | exact (HB0.out.alloc HB0.out.size _).alloc (le_al HB0.out.size) _ | exact ((HB0.out.alloc HB0.out.size _).alloc (le_al HB0.out.size) _).alloc (le_al (le_al HB0.out.size)) _) (hb2.mono (by (try simp only [World.size_alloc]); (try simp only [size_setCell']); omega)))
  have HN2 := Lib.hid hb2
  clear hb2 hs2
  have HN3 := Lib.hid (nodes_same _ _ g.n g.n _ (HS1.out.below HN2.out) hs2 HL.out.1)
  clear hs2
  go_wp2_with fail
  refine (HN3.out).mono ?_
  rintro e w3 ⟨b3, rfl, hb3, hb3⟩
  obtain ⟨hc3, hf3⟩ := bcell hb3
  have hs3 := hb3.size
  try simp only [World.size_alloc] at hs3
  try simp only [size_setCell'] at hs3
  try have le3_0 : w.heap.size ≤ w3.heap.size := (by omega)
  try have lt3_0 : w.heap.size < w3.heap.size := (by omega)
  try have le3_1 : w1.heap.size ≤ w3.heap.size := (by omega)
  try have lt3_1 : w1.heap.size < w3.heap.size := (by omega)
  try have le3_2 : w2.heap.size ≤ w3.heap.size := (by omega)
  try have lt3_2 : w2.heap.size < w3.heap.size := (by omega)
  have HB3 : Hid (Below w.heap.size w w3) := Lib.hid (Below.trans (by first | exact HB2.out | exact HB2.out.alloc HB2.out.size _ | exact (HB2.out.alloc HB2.out.size _).alloc (le_al HB2.out.size) _ | exact ((HB2.out.alloc HB2.out.size _).alloc (le_al HB2.out.size) _).alloc (le_al (le_al HB2.out.size)) _ | exact HB1.out | exact HB1.out.alloc HB1.out.size _ | exact (HB1.out.alloc HB1.out.size _).alloc (le_al HB1.out.size) _ | exact ((HB1.out.alloc HB1.out.size _).alloc (le_al HB1.out.size) _).alloc (le_al (le_al HB1.out.size)) _ | exact HB0.out | exact HB0.out.alloc HB0.out.size _ | exact (HB0.out.alloc HB0.out.size _).alloc (le_al HB0.out.size) _ | exact ((HB0.out.alloc HB0.out.size _).alloc (le_al HB0.out.size) _).alloc (le_al (le_al HB0.out.size)) _) (hb3.mono (by (try simp only [World.size_alloc]); (try simp only [size_setCell']); omega)))
  have HN3 := Lib.hid hb3
  clear hb3 hs3
  obtain rfl := hb3 rfl
  go_wp2_with fail
  refine (HE1.out _ (by first | exact HB3.out | exact HB3.out.alloc HB3.out.size _ | exact (HB3.out.alloc HB3.out.size _).alloc (le_al HB3.out.size) _ | exact ((HB3.out.alloc HB3.out.size _).alloc (le_al HB3.out.size) _).alloc (le_al (le_al HB3.out.size)) _ | exact HB2.out | exact HB2.out.alloc HB2.out.size _ | exact (HB2.out.alloc HB2.out.size _).alloc (le_al HB2.out.size) _ | exact ((HB2.out.alloc HB2.out.size _).alloc (le_al HB2.out.size) _).alloc (le_al (le_al HB2.out.size)) _ | exact HB1.out | exact HB1.out.alloc HB1.out.size _ | exact (HB1.out.alloc HB1.out.size _).alloc (le_al HB1.out.size) _ | exact ((HB1.out.alloc HB1.out.size _).alloc (le_al HB1.out.size) _).alloc (le_al (le_al HB1.out.size)) _ | exact HB0.out | exact HB0.out.alloc HB0.out.size _ | exact (HB0.out.alloc HB0.out.size _).alloc (le_al HB0.out.size) _ | exact ((HB0.out.alloc HB0.out.size _).alloc (le_al HB0.out.size) _).alloc (le_al (le_al HB0.out.size)) _)).mono ?_
  rintro e w4 ⟨a4, c4, rfl, hs4, hb4⟩
  obtain ⟨hc4, hf4⟩ := bcell hb4
  have hs4 := hb4.size
  try simp only [World.size_alloc] at hs4
  try simp only [size_setCell'] at hs4
  try have le4_0 : w.heap.size ≤ w4.heap.size := (by omega)
  try have lt4_0 : w.heap.size < w4.heap.size := (by omega)
  try have le4_1 : w1.heap.size ≤ w4.heap.size := (by omega)
  try have lt4_1 : w1.heap.size < w4.heap.size := (by omega)
  try have le4_2 : w2.heap.size ≤ w4.heap.size := (by omega)
  try have lt4_2 : w2.heap.size < w4.heap.size := (by omega)
  try have le4_3 : w3.heap.size ≤ w4.heap.size := (by omega)
  try have lt4_3 : w3.heap.size < w4.heap.size := (by omega)
  have HB4 : Hid (Below w.heap.size w w4) := Lib.hid (Below.trans (by first | exact HB3.out | exact HB3.out.alloc HB3.out.size _ | exact (HB3.out.alloc HB3.out.size _).alloc (le_al HB3.out.size) _ | exact ((HB3.out.alloc HB3.out.size _).alloc (le_al HB3.out.size) _).alloc (le_al (le_al HB3.out.size)) _ | exact HB2.out | exact HB2.out.alloc HB2.out.size _ | exact (HB2.out.alloc HB2.out.size _).alloc (le_al HB2.out.size) _ | exact ((HB2.out.alloc HB2.out.size _).alloc (le_al HB2.out.size) _).alloc (le_al (le_al HB2.out.size)) _ | exact HB1.out | exact HB1.out.alloc HB1.out.size _ | exact (HB1.out.alloc HB1.out.size _).alloc (le_al HB1.out.size) _ | exact ((HB1.out.alloc HB1.out.size _).alloc (le_al HB1.out.size) _).alloc (le_al (le_al HB1.out.size)) _ | exact HB0.out | exact HB0.out.alloc HB0.out.size _ | exact (HB0.out.alloc HB0.out.size _).alloc (le_al HB0.out.size) _ | exact ((HB0.out.alloc HB0.out.size _).alloc (le_al HB0.out.size) _).alloc (le_al (le_al HB0.out.size)) _) (hb4.mono (by (try simp only [World.size_alloc]); (try simp only [size_setCell']); omega)))
  have HN4 := Lib.hid hb4
  clear hb4 hs4
  have HS4 := Lib.hid hs4
  clear hs4
  go_wp2_with fail
  refine (HE2.out _ (by first | exact HB4.out | exact HB4.out.alloc HB4.out.size _ | exact (HB4.out.alloc HB4.out.size _).alloc (le_al HB4.out.size) _ | exact ((HB4.out.alloc HB4.out.size _).alloc (le_al HB4.out.size) _).alloc (le_al (le_al HB4.out.size)) _ | exact HB3.out | exact HB3.out.alloc HB3.out.size _ | exact (HB3.out.alloc HB3.out.size _).alloc (le_al HB3.out.size) _ | exact ((HB3.out.alloc HB3.out.size _).alloc (le_al HB3.out.size) _).alloc (le_al (le_al HB3.out.size)) _ | exact HB2.out | exact HB2.out.alloc HB2.out.size _ | exact (HB2.out.alloc HB2.out.size _).alloc (le_al HB2.out.size) _ | exact ((HB2.out.alloc HB2.out.size _).alloc (le_al HB2.out.size) _).alloc (le_al (le_al HB2.out.size)) _ | exact HB1.out | exact HB1.out.alloc HB1.out.size _ | exact (HB1.out.alloc HB1.out.size _).alloc (le_al HB1.out.size) _ | exact ((HB1.out.alloc HB1.out.size _).alloc (le_al HB1.out.size) _).alloc (le_al (le_al HB1.out.size)) _ | exact HB0.out | exact HB0.out.alloc HB0.out.size _ | exact (HB0.out.alloc HB0.out.size _).alloc (le_al HB0.out.size) _ | exact ((HB0.out.alloc HB0.out.size _).alloc (le_al HB0.out.size) _).alloc (le_al (le_al HB0.out.size)) _)).mono ?_
  rintro e w5 ⟨a5, c5, rfl, hs5, hb5⟩
  obtain ⟨hc5, hf5⟩ := bcell hb5
  have hs5 := hb5.size
  try simp only [World.size_alloc] at hs5
  try simp only [size_setCell'] at hs5
  try have le5_0 : w.heap.size ≤ w5.heap.size := (by omega)
  try have lt5_0 : w.heap.size < w5.heap.size := (by omega)
  try have le5_1 : w1.heap.size ≤ w5.heap.size := (by omega)
  try have lt5_1 : w1.heap.size < w5.heap.size := (by omega)
  try have le5_2 : w2.heap.size ≤ w5.heap.size := (by omega)
  try have lt5_2 : w2.heap.size < w5.heap.size := (by omega)
  try have le5_3 : w3.heap.size ≤ w5.heap.size := (by omega)
  try have lt5_3 : w3.heap.size < w5.heap.size := (by omega)
  try have le5_4 : w4.heap.size ≤ w5.heap.size := (by omega)
  try have lt5_4 : w4.heap.size < w5.heap.size := (by omega)
  have HB5 : Hid (Below w.heap.size w w5) := Lib.hid (Below.trans (by first | exact HB4.out | exact HB4.out.alloc HB4.out.size _ | exact (HB4.out.alloc HB4.out.size _).alloc (le_al HB4.out.size) _ | exact ((HB4.out.alloc HB4.out.size _).alloc (le_al HB4.out.size) _).alloc (le_al (le_al HB4.out.size)) _ | exact HB3.out | exact HB3.out.alloc HB3.out.size _ | exact (HB3.out.alloc HB3.out.size _).alloc (le_al HB3.out.size) _ | exact ((HB3.out.alloc HB3.out.size _).alloc (le_al HB3.out.size) _).alloc (le_al (le_al HB3.out.size)) _ | exact HB2.out | exact HB2.out.alloc HB2.out.size _ | exact (HB2.out.alloc HB2.out.size _).alloc (le_al HB2.out.size) _ | exact ((HB2.out.alloc HB2.out.size _).alloc (le_al HB2.out.size) _).alloc (le_al (le_al HB2.out.size)) _ | exact HB1.out | exact HB1.out.alloc HB1.out.size _ | exact (HB1.out.alloc HB1.out.size _).alloc (le_al HB1.out.size) _ | exact ((HB1.out.alloc HB1.out.size _).alloc (le_al HB1.out.size) _).alloc (le_al (le_al HB1.out.size)) _ | exact HB0.out | exact HB0.out.alloc HB0.out.size _ | exact (HB0.out.alloc HB0.out.size _).alloc (le_al HB0.out.size) _ | exact ((HB0.out.alloc HB0.out.size _).alloc (le_al HB0.out.size) _).alloc (le_al (le_al HB0.out.size)) _) (hb5.mono (by (try simp only [World.size_alloc]); (try simp only [size_setCell']); omega)))
  have HN5 := Lib.hid hb5
  clear hb5 hs5
  have HN6 := Lib.hid (entries_same _ _ g.e g.e _ (HS4.out.below HN5.out) hs5 HL.out.2)
  clear hs5
  go_wp2_with fail
  refine (HN6.out).mono ?_
  rintro e w6 ⟨b6, rfl, hb6, hb6⟩
  obtain ⟨hc6, hf6⟩ := bcell hb6
  have hs6 := hb6.size
  try simp only [World.size_alloc] at hs6
  try simp only [size_setCell'] at hs6
  try have le6_0 : w.heap.size ≤ w6.heap.size := (by omega)
  try have lt6_0 : w.heap.size < w6.heap.size := (by omega)
  try have le6_1 : w1.heap.size ≤ w6.heap.size := (by omega)
  try have lt6_1 : w1.heap.size < w6.heap.size := (by omega)
  try have le6_2 : w2.heap.size ≤ w6.heap.size := (by omega)
  try have lt6_2 : w2.heap.size < w6.heap.size := (by omega)
  try have le6_3 : w3.heap.size ≤ w6.heap.size := (by omega)
  try have lt6_3 : w3.heap.size < w6.heap.size := (by omega)
  try have le6_4 : w4.heap.size ≤ w6.heap.size := (by omega)
  try have lt6_4 : w4.heap.size < w6.heap.size := (by omega)
  try have le6_5 : w5.heap.size ≤ w6.heap.size := (by omega)
  try have lt6_5 : w5.heap.size < w6.heap.size := (by omega)
  have HB6 : Hid (Below w.heap.size w w6) := Lib.hid (Below.trans (by first | exact HB5.out | exact HB5.out.alloc HB5.out.size _ | exact (HB5.out.alloc HB5.out.size _).alloc (le_al HB5.out.size) _ | exact ((HB5.out.alloc HB5.out.size _).alloc (le_al HB5.out.size) _).alloc (le_al (le_al HB5.out.size)) _ | exact HB4.out | exact HB4.out.alloc HB4.out.size _ | exact (HB4.out.alloc HB4.out.size _).alloc (le_al HB4.out.size) _ | exact ((HB4.out.alloc HB4.out.size _).alloc (le_al HB4.out.size) _).alloc (le_al (le_al HB4.out.size)) _ | exact HB3.out | exact HB3.out.alloc HB3.out.size _ | exact (HB3.out.alloc HB3.out.size _).alloc (le_al HB3.out.size) _ | exact ((HB3.out.alloc HB3.out.size _).alloc (le_al HB3.out.size) _).alloc (le_al (le_al HB3.out.size)) _ | exact HB2.out | exact HB2.out.alloc HB2.out.size _ | exact (HB2.out.alloc HB2.out.size _).alloc (le_al HB2.out.size) _ | exact ((HB2.out.alloc HB2.out.size _).alloc (le_al HB2.out.size) _).alloc (le_al (le_al HB2.out.size)) _ | exact HB1.out | exact HB1.out.alloc HB1.out.size _ | exact (HB1.out.alloc HB1.out.size _).alloc (le_al HB1.out.size) _ | exact ((HB1.out.alloc HB1.out.size _).alloc (le_al HB1.out.size) _).alloc (le_al (le_al HB1.out.size)) _ | exact HB0.out | exact HB0.out.alloc HB0.out.size _ | exact (HB0.out.alloc HB0.out.size _).alloc (le_al HB0.out.size) _ | exact ((HB0.out.alloc HB0.out.size _).alloc (le_al HB0.out.size) _).alloc (le_al (le_al HB0.out.size)) _) (hb6.mono (by (try simp only [World.size_alloc]); (try simp only [size_setCell']); omega)))
  have HN6 := Lib.hid hb6
  clear hb6 hs6
  obtain rfl := hb6 rfl
  go_wp2
  go_ret
  exact ⟨rfl, (by first | exact HB6.out | exact HB6.out.alloc HB6.out.size _ | exact (HB6.out.alloc HB6.out.size _).alloc (le_al HB6.out.size) _ | exact ((HB6.out.alloc HB6.out.size _).alloc (le_al HB6.out.size) _).alloc (le_al (le_al HB6.out.size)) _)⟩

def shA : Op := ⟨⟨2, 0⟩, 2, ⟨0, 0⟩, ⟨0, 0⟩, ⟨0, 0⟩, ⟨#[102]⟩, ⟨#[]⟩, 0, ⟨#[]⟩⟩
def shB : Op := ⟨⟨1, 0⟩, 1, ⟨0, 0⟩, ⟨0, 0⟩, ⟨0, 0⟩, ⟨#[102]⟩, ⟨#[]⟩, 0, ⟨#[]⟩⟩
noncomputable def L0 : Lg := ⟨Gr.new, ⟨0, 0⟩, []⟩
theorem sh0 : L0.addB shA = true := by kernel_rfl
theorem sh1 : (L0.add shA).addB shB = true := by kernel_rfl
theorem shO : ((L0.add shA).add shB).ops = [shB, shA] := by kernel_rfl
theorem shBs : ((L0.add shA).add shB).base = Gr.new := by kernel_rfl
theorem shN1 : L0.ops.length < 500 := by decide
theorem shN2 : (L0.add shA).ops.length < 500 := by
  have h : (L0.add shA).ops.length = 1 := by kernel_rfl
  omega
theorem shW : Gr.new.opWhy shB = 0 := by kernel_rfl
theorem shG : Gr.new.apply shB = Gr.new.grown shB := by
  obtain ⟨hm, hkw⟩ := opWhy_zero shW
  rw [apply_zero shW]
  rw [kindWhy_make (Or.inl rfl)] at hkw
  exact (Gr.Ok.new.does_make (Or.inl rfl) hm hkw).1
theorem shW2 : (Gr.new.grown shB).opWhy shA = 4 := by kernel_rfl
theorem shR : ((L0.add shA).add shB).g = Gr.new.grown shB := by
  unfold Lg.g
  rw [shO, shBs]
  show (Gr.new.apply shB).apply shA = _
  rw [shG, apply_err (by rw [shW2]; decide)]
theorem shK : (((L0.add shA).add shB).g).look ⟨⟨0, 0⟩, ⟨#[102]⟩⟩ = some ⟨1, 0⟩ := by rw [shR]; kernel_rfl
theorem shSA : shA.Small := by unfold Op.Small shA reachBytes; decide
theorem shSB : shB.Small := by unfold Op.Small shB reachBytes; decide

set_option maxRecDepth 100000 in
set_option maxHeartbeats 2000000 in
theorem shown_any (w : World) : Calls Tryz.prog 46 #[] w fun x w' => x = .returned (.bool true) ∧ Below w.heap.size w w' := by
  go_enter Tryz.func46, Tryz.ntmps46
  go_wp2_with fail
  refine (new_log w).mono ?_
  rintro e w1 ⟨lb, gb, mI, mE, rfl, hL1, hb1⟩
  have HB1 := Lib.hid hb1
  have HGE := Lib.hid hL1.ge
  have HD1 := Lib.hid (add_any _ lb gb mI mE L0 shA w1 hL1 shSA shN1)
  rw [sh0] at HD1
  clear hL1 hb1
  go_wp2_with fail
  refine HD1.out.mono ?_
  rintro e w2 ⟨rfl, hL2, hb2⟩
  have HB2 := Lib.hid (HB1.out.trans (hb2.below HB1.out.size HGE.out.1 HGE.out.2.2.1 HGE.out.2.2.2))
  have HD2 := Lib.hid (add_any _ lb gb mI mE (L0.add shA) shB w2 hL2 shSB shN2)
  rw [sh1] at HD2
  clear hL2 hb2
  go_wp2_with fail
  refine HD2.out.mono ?_
  rintro e w3 ⟨rfl, hL3, hb3⟩
  have HB3 := Lib.hid (HB2.out.trans (hb3.below HB2.out.size HGE.out.1 HGE.out.2.2.1 HGE.out.2.2.2))
  have HL3 := Lib.hid hL3
  have HOK := Lib.hid hL3.ok
  clear hL3 hb3
  go_wp2_with fail
  refine (graph_l _ lb gb mI mE _ w3 HL3.out).mono ?_
  rintro e w4 ⟨v4, rfl, ⟨g4, nI, nE, rfl, hG4, _, _, _⟩, hb4⟩
  have hgo : (((L0.add shA).add shB).g).Ok := runs_ok _ HOK.out.base
  have hR := hG4.reads hgo (by have := hgo.few; omega)
  have HLK := Lib.hid (fun W hW => hR.look ⟨⟨0, 0⟩, ⟨#[102]⟩⟩ ⟨1, 0⟩ true W (by rw [shK]; rfl) (by rw [shK]; rfl) hW)
  have HB4 := Lib.hid (HB3.out.trans (hb4.mono HB3.out.size))
  have HN4 := Lib.hid hb4
  clear hG4 hb4 hR hgo
  go_wp2_with fail
  refine (HLK.out w4 (Below.refl _ _)).mono ?_
  rintro e w5 ⟨rfl, hb5⟩
  have HB5 := Lib.hid (HB4.out.trans (hb5.mono HB4.out.size))
  have HL5 := Lib.hid (HL3.out.below (HN4.out.trans (hb5.mono HN4.out.size)))
  have hlk : ∀ w, (binOp .eql 31 (.agg #[.int .i64 1, .int .i64 0]) (.agg #[.int .i64 1, .int .i64 0])).run Tryz.prog w = .ok (.bool true) w := fun w => by
    have := eql_st ⟨1, 0⟩ ⟨1, 0⟩ w
    simpa using this
  clear hb5
  go_wp2_with fail
  refine (ops_l _ lb gb mI mE _ _ (HL5.out.below ((Below.refl _ w5).alloc (Nat.le_refl _) _))).mono ?_
  rintro e w6 ⟨v6, rfl, hr6, hb6⟩
  obtain ⟨a6, c6, rfl⟩ := hr6.shape
  rw [shO]
  have HB6 := Lib.hid ((HB5.out.alloc HB5.out.size _).trans (hb6.mono (by have := HB5.out.size; simp only [World.size_alloc]; omega)))
  clear hr6 hb6
  go_wp2
  go_ret
  exact ⟨rfl, HB6.out⟩
end Go.Proofs.YtlokljaeknmdpaaGreat.L14

/-! ## OpenU -/
namespace Go.Proofs.YtlokljaeknmdpaaGreat
open Go.RowKit Go.ChangeShapes Go.Deep

def U8.cells (n : Int) : List Value := [.int .u8 n]
section
variable {H : Type} {enc : TypeId × Value → H} {w : World} {base : Nat} {spare : Nat → Bool} {held : Bool}
theorem open_u8' {t : TypeId} {fuel : Nat} {cs : List Value} {x : DataW H × List MemPlace} (ht : Tryz.prog.underlying t = some (.int .u8)) (h : DataW.trod enc Tryz.prog w base spare held fuel t cs = some x) : ∃ n : Int, cs = [.int .u8 n] ∧ (Lit.int .u8 n).wf = true := by
  cases fuel with
  | zero => simp [DataW.trod] at h
  | succ n =>
    unfold DataW.trod at h
    rw [ht] at h
    split at h <;> simp_all
theorem open_u8 {fuel : Nat} {cs : List Value} {x : DataW H × List MemPlace} (h : DataW.trod enc Tryz.prog w base spare held fuel 5 cs = some x) : ∃ n : Int, cs = U8.cells n ∧ (Lit.int .u8 n).wf = true := open_u8' Tryz.underlying5 h
end
end Go.Proofs.YtlokljaeknmdpaaGreat
