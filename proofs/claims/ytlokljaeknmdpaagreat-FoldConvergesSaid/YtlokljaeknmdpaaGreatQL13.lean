/-
  What the laws of chapter 13 share: few, same, the document's comparison of operations, the example at their head; conditions: texts within reach.
-/
import Derived.Test.YtlokljaeknmdpaaGreatKFold
import Derived.Test.YtlokljaeknmdpaaGreatKDeed
import Derived.Test.YtlokljaeknmdpaaGreatQOpenO
namespace Go.Proofs.YtlokljaeknmdpaaGreat.L13
open Go.RowKit Go.Shelf Go.Proofs

set_option maxRecDepth 100000 in
set_option maxHeartbeats 1000000 in
theorem few_any (v : Value) (l : List Op) (w : World) (h : SlAt w 13 Op.cells v l) : Calls Tryz.prog 35 #[v] w fun x w' => x = .returned (.bool (decide (l.length ≤ 60))) ∧ w' = w := by
  obtain ⟨a, c, rfl⟩ := h.len
  clear h
  have e : decide (l.length ≤ 60) = decide ((l.length : Int) ≤ 60) := by rw [decide_eq_decide]; omega
  rw [e]
  clear e
  go_enter Tryz.func35, Tryz.ntmps35
  go_wp2
  go_ret
  exact ⟨rfl, rfl⟩

set_option maxRecDepth 100000 in
set_option maxHeartbeats 2000000 in
theorem same_any (gb hb : Nat) (g : Gr) (w : World) (hok : g.Ok) (h1 : Reads gb g w) (h2 : Reads hb g w) : Calls Tryz.prog 41 #[.pointer (some ⟨gb, 0, none⟩), .pointer (some ⟨hb, 0, none⟩)] w fun e w' => e = .returned (.bool true) ∧ Below w.heap.size w w' := by
  have HB0 : Hid (Below w.heap.size w w) := Lib.hid (Below.refl _ _)
  have HI1 := Lib.hid (fun W (hW : Below w.heap.size w W) => h1.inodes W hW)
  have HI2 := Lib.hid (fun W (hW : Below w.heap.size w W) => h2.inodes W hW)
  have HE1 := Lib.hid (fun W (hW : Below w.heap.size w W) => h1.entries W hW)
  have HE2 := Lib.hid (fun W (hW : Below w.heap.size w W) => h2.entries W hW)
  have HL : Hid (g.n.length ≤ 100000 ∧ g.e.length ≤ 100000) := Lib.hid ⟨by have := hok.len; omega, by have := hok.few; omega⟩
  clear h1 h2 hok
  go_enter Tryz.func41, Tryz.ntmps41
  go_wp2_with fail
  refine (HI1.out _ (by first | exact HB0.out | exact HB0.out.alloc HB0.out.size _ | exact (HB0.out.alloc HB0.out.size _).alloc (le_al HB0.out.size) _ | exact ((HB0.out.alloc HB0.out.size _).alloc (le_al HB0.out.size) _).alloc (le_al (le_al HB0.out.size)) _)).mono ?_
  rintro e w1 ⟨a1, c1, rfl, hs1, hb1⟩
  obtain ⟨hc1, hf1⟩ := bcell hb1
  have hs1 := hb1.size
  try simp only [World.size_alloc] at hs1
  try simp only [size_setCell'] at hs1
  try have le1_0 : w.heap.size ≤ w1.heap.size := (by omega)
  try have lt1_0 : w.heap.size < w1.heap.size := (by omega)
  have HB1 : Hid (Below w.heap.size w w1) := Lib.hid (Below.trans (by first | exact HB0.out | exact HB0.out.alloc HB0.out.size _ | exact (HB0.out.alloc HB0.out.size _).alloc (le_al HB0.out.size) _ | exact ((HB0.out.alloc HB0.out.size _).alloc (le_al HB0.out.size) _).alloc (le_al (le_al HB0.out.size)) _) (hb1.mono (by (try simp only [World.size_alloc]); (try simp only [size_setCell']); omega)))
  have HN1 := Lib.hid hb1
  clear hb1 hs1
  have HS1 := Lib.hid hs1
  clear hs1
  go_wp2_with fail
  refine (HI2.out _ (by first | exact HB1.out | exact HB1.out.alloc HB1.out.size _ | exact (HB1.out.alloc HB1.out.size _).alloc (le_al HB1.out.size) _ | exact ((HB1.out.alloc HB1.out.size _).alloc (le_al HB1.out.size) _).alloc (le_al (le_al HB1.out.size)) _ | exact HB0.out | exact HB0.out.alloc HB0.out.size _ | exact (HB0.out.alloc HB0.out.size _).alloc (le_al HB0.out.size) _ | exact ((HB0.out.alloc HB0.out.size _).alloc (le_al HB0.out.size) _).alloc (le_al (le_al HB0.out.size)) _)).mono ?_
  rintro e w2 ⟨a2, c2, rfl, hs2, hb2⟩
  obtain ⟨hc2, hf2⟩ := bcell hb2
  have hs2 := hb2.size
  try simp only [World.size_alloc] at hs2
  try simp only [size_setCell'] at hs2
  try have le2_0 : w.heap.size ≤ w2.heap.size := (by omega)
  try have lt2_0 : w.heap.size < w2.heap.size := (by omega)
  try have le2_1 : w1.heap.size ≤ w2.heap.size := (by omega)
  try have lt2_1 : w1.heap.size < w2.heap.size := (by omega)
  have HB2 : Hid (Below w.heap.size w w2) := Lib.hid (Below.trans (by first | exact HB1.out | exact HB1.out.alloc HB1.out.size _ | exact (HB1.out.alloc HB1.out.size _).alloc (le_al HB1.out.size) _ | exact ((HB1.out.alloc HB1.out.size _).alloc (le_al HB1.out.size) _).alloc (le_al (le_al HB1.out.size)) _ | exact HB0.out | exact HB0.out.alloc HB0.out.size _ | exact (HB0.out.alloc HB0.out.size _).alloc (le_al HB0.out.size) _ | exact ((HB0.out.alloc HB0.out.size _).alloc (le_al HB0.out.size) _).alloc (le_al (le_al HB0.out.size)) _) (hb2.mono (by (try simp only [World.size_alloc]); (try simp only [size_setCell']); omega)))
  have HN2 := Lib.hid hb2
  clear hb2 hs2
  have HN3 := Lib.hid (nodes_same _ _ g.n g.n _ (HS1.out.below HN2.out) hs2 HL.out.1)
  clear hs2
  go_wp2_with fail
  refine (HN3.out).mono ?_
  rintro e w3 ⟨b3, rfl, hb3, hb3⟩
  obtain ⟨hc3, hf3⟩ := bcell hb3
  have hs3 := hb3.size
  try simp only [World.size_alloc] at hs3
  try simp only [size_setCell'] at hs3
  try have le3_0 : w.heap.size ≤ w3.heap.size := (by omega)
  try have lt3_0 : w.heap.size < w3.heap.size := (by omega)
  try have le3_1 : w1.heap.size ≤ w3.heap.size := (by omega)
  try have lt3_1 : w1.heap.size < w3.heap.size := (by omega)
  try have le3_2 : w2.heap.size ≤ w3.heap.size := (by omega)
  try have lt3_2 : w2.heap.size < w3.heap.size := (by omega)
  have HB3 : Hid (Below w.heap.size w w3) := Lib.hid (Below.trans (by first | exact HB2.out | exact HB2.out.alloc HB2.out.size _ | exact (HB2.out.alloc HB2.out.size _).alloc (le_al HB2.out.size) _ | exact ((HB2.out.alloc HB2.out.size _).alloc (le_al HB2.out.size) _).alloc (le_al (le_al HB2.out.size)) _ | exact HB1.out | exact HB1.out.alloc HB1.out.size _ | exact (HB1.out.alloc HB1.out.size _).alloc (le_al HB1.out.size) _ | exact ((HB1.out.alloc HB1.out.size _).alloc (le_al HB1.out.size) _).alloc (le_al (le_al HB1.out.size)) _ | exact HB0.out | exact HB0.out.alloc HB0.out.size _ | exact (HB0.out.alloc HB0.out.size _).alloc (le_al HB0.out.size) _ | exact ((HB0.out.alloc HB0.out.size _).alloc (le_al HB0.out.size) _).alloc (le_al (le_al HB0.out.size)) _) (hb3.mono (by (try simp only [World.size_alloc]); (try simp only [size_setCell']); omega)))
  have HN3 := Lib.hid hb3
  clear hb3 hs3
  obtain rfl := hb3 rfl
  go_wp2_with fail
  refine (HE1.out _ (by first | exact HB3.out | exact HB3.out.alloc HB3.out.size _ | exact (HB3.out.alloc HB3.out.size _).alloc (le_al HB3.out.size) _ | exact ((HB3.out.alloc HB3.out.size _).alloc (le_al HB3.out.size) _).alloc (le_al (le_al HB3.out.size)) _ | exact HB2.out | exact HB2.out.alloc HB2.out.size _ | exact (HB2.out.alloc HB2.out.size _).alloc (le_al HB2.out.size) _ | exact ((HB2.out.alloc HB2.out.size _).alloc (le_al HB2.out.size) _).alloc (le_al (le_al HB2.out.size)) _ | exact HB1.out | exact HB1.out.alloc HB1.out.size _ | exact (HB1.out.alloc HB1.out.size _).alloc (le_al HB1.out.size) _ | exact ((HB1.out.alloc HB1.out.size _).alloc (le_al HB1.out.size) _).alloc (le_al (le_al HB1.out.size)) _ | exact HB0.out | exact HB0.out.alloc HB0.out.size _ | exact (HB0.out.alloc HB0.out.size _).alloc (le_al HB0.out.size) _ | exact ((HB0.out.alloc HB0.out.size _).alloc (le_al HB0.out.size) _).alloc (le_al (le_al HB0.out.size)) _)).mono ?_
  rintro e w4 ⟨a4, c4, rfl, hs4, hb4⟩
  obtain ⟨hc4, hf4⟩ := bcell hb4
  have hs4 := hb4.size
  try simp only [World.size_alloc] at hs4
  try simp only [size_setCell'] at hs4
  try have le4_0 : w.heap.size ≤ w4.heap.size := (by omega)
  try have lt4_0 : w.heap.size < w4.heap.size := (by omega)
  try have le4_1 : w1.heap.size ≤ w4.heap.size := (by omega)
  try have lt4_1 : w1.heap.size < w4.heap.size := (by omega)
  try have le4_2 : w2.heap.size ≤ w4.heap.size := (by omega)
  try have lt4_2 : w2.heap.size < w4.heap.size := (by omega)
  try have le4_3 : w3.heap.size ≤ w4.heap.size := (by omega)
  try have lt4_3 : w3.heap.size < w4.heap.size := (by omega)
  have HB4 : Hid (Below w.heap.size w w4) := Lib.hid (Below.trans (by first | exact HB3.out | exact HB3.out.alloc HB3.out.size _ | exact (HB3.out.alloc HB3.out.size _).alloc (le_al HB3.out.size) _ | exact ((HB3.out.alloc HB3.out.size _).alloc (le_al HB3.out.size) _).alloc (le_al (le_al HB3.out.size)) _ | exact HB2.out | exact HB2.out.alloc HB2.out.size _ | exact (HB2.out.alloc HB2.out.size _).alloc (le_al HB2.out.size) _ | exact ((HB2.out.alloc HB2.out.size _).alloc (le_al HB2.out.size) _).alloc (le_al (le_al HB2.out.size)) _ | exact HB1.out | exact HB1.out.alloc HB1.out.size _ | exact (HB1.out.alloc HB1.out.size _).alloc (le_al HB1.out.size) _ | exact ((HB1.out.alloc HB1.out.size _).alloc (le_al HB1.out.size) _).alloc (le_al (le_al HB1.out.size)) _ | exact HB0.out | exact HB0.out.alloc HB0.out.size _ | exact (HB0.out.alloc HB0.out.size _).alloc (le_al HB0.out.size) _ | exact ((HB0.out.alloc HB0.out.size _).alloc (le_al HB0.out.size) _).alloc (le_al (le_al HB0.out.size)) _) (hb4.mono (by (try simp only [World.size_alloc]); (try simp only [size_setCell']); omega)))
  have HN4 := Lib.hid hb4
  clear hb4 hs4
  have HS4 := Lib.hid hs4
  clear hs4
  go_wp2_with fail
  refine (HE2.out _ (by first | exact HB4.out | exact HB4.out.alloc HB4.out.size _ | exact (HB4.out.alloc HB4.out.size _).alloc (le_al HB4.out.size) _ | exact ((HB4.out.alloc HB4.out.size _).alloc (le_al HB4.out.size) _).alloc (le_al (le_al HB4.out.size)) _ | exact HB3.out | exact HB3.out.alloc HB3.out.size _ | exact (HB3.out.alloc HB3.out.size _).alloc (le_al HB3.out.size) _ | exact ((HB3.out.alloc HB3.out.size _).alloc (le_al HB3.out.size) _).alloc (le_al (le_al HB3.out.size)) _ | exact HB2.out | exact HB2.out.alloc HB2.out.size _ | exact (HB2.out.alloc HB2.out.size _).alloc (le_al HB2.out.size) _ | exact ((HB2.out.alloc HB2.out.size _).alloc (le_al HB2.out.size) _).alloc (le_al (le_al HB2.out.size)) _ | exact HB1.out | exact HB1.out.alloc HB1.out.size _ | exact (HB1.out.alloc HB1.out.size _).alloc (le_al HB1.out.size) _ | exact ((HB1.out.alloc HB1.out.size _).alloc (le_al HB1.out.size) _).alloc (le_al (le_al HB1.out.size)) _ | exact HB0.out | exact HB0.out.alloc HB0.out.size _ | exact (HB0.out.alloc HB0.out.size _).alloc (le_al HB0.out.size) _ | exact ((HB0.out.alloc HB0.out.size _).alloc (le_al HB0.out.size) _).alloc (le_al (le_al HB0.out.size)) _)).mono ?_
  rintro e w5 ⟨a5, c5, rfl, hs5, hb5⟩
  obtain ⟨hc5, hf5⟩ := bcell hb5
  have hs5 := hb5.size
  try simp only [World.size_alloc] at hs5
  try simp only [size_setCell'] at hs5
  try have le5_0 : w.heap.size ≤ w5.heap.size := (by omega)
  try have lt5_0 : w.heap.size < w5.heap.size := (by omega)
  try have le5_1 : w1.heap.size ≤ w5.heap.size := (by omega)
  try have lt5_1 : w1.heap.size < w5.heap.size := (by omega)
  try have le5_2 : w2.heap.size ≤ w5.heap.size := (by omega)
  try have lt5_2 : w2.heap.size < w5.heap.size := (by omega)
  try have le5_3 : w3.heap.size ≤ w5.heap.size := (by omega)
  try have lt5_3 : w3.heap.size < w5.heap.size := (by omega)
  try have le5_4 : w4.heap.size ≤ w5.heap.size := (by omega)
  try have lt5_4 : w4.heap.size < w5.heap.size := (by omega)
  have HB5 : Hid (Below w.heap.size w w5) := Lib.hid (Below.trans (by first | exact HB4.out | exact HB4.out.alloc HB4.out.size _ | exact (HB4.out.alloc HB4.out.size _).alloc (le_al HB4.out.size) _ | exact ((HB4.out.alloc HB4.out.size _).alloc (le_al HB4.out.size) _).alloc (le_al (le_al HB4.out.size)) _ | exact HB3.out | exact HB3.out.alloc HB3.out.size _ | exact (HB3.out.alloc HB3.out.size _).alloc (le_al HB3.out.size) _ | exact ((HB3.out.alloc HB3.out.size _).alloc (le_al HB3.out.size) _).alloc (le_al (le_al HB3.out.size)) _ | exact HB2.out | exact HB2.out.alloc HB2.out.size _ | exact (HB2.out.alloc HB2.out.size _).alloc (le_al HB2.out.size) _ | exact ((HB2.out.alloc HB2.out.size _).alloc (le_al HB2.out.size) _).alloc (le_al (le_al HB2.out.size)) _ | exact HB1.out | exact HB1.out.alloc HB1.out.size _ | exact (HB1.out.alloc HB1.out.size _).alloc (le_al HB1.out.size) _ | exact ((HB1.out.alloc HB1.out.size _).alloc (le_al HB1.out.size) _).alloc (le_al (le_al HB1.out.size)) _ | exact HB0.out | exact HB0.out.alloc HB0.out.size _ | exact (HB0.out.alloc HB0.out.size _).alloc (le_al HB0.out.size) _ | exact ((HB0.out.alloc HB0.out.size _).alloc (le_al HB0.out.size) _).alloc (le_al (le_al HB0.out.size)) _) (hb5.mono (by (try simp only [World.size_alloc]); (try simp only [size_setCell']); omega)))
  have HN5 := Lib.hid hb5
  clear hb5 hs5
  have HN6 := Lib.hid (entries_same _ _ g.e g.e _ (HS4.out.below HN5.out) hs5 HL.out.2)
  clear hs5
  go_wp2_with fail
  refine (HN6.out).mono ?_
  rintro e w6 ⟨b6, rfl, hb6, hb6⟩
  obtain ⟨hc6, hf6⟩ := bcell hb6
  have hs6 := hb6.size
  try simp only [World.size_alloc] at hs6
  try simp only [size_setCell'] at hs6
  try have le6_0 : w.heap.size ≤ w6.heap.size := (by omega)
  try have lt6_0 : w.heap.size < w6.heap.size := (by omega)
  try have le6_1 : w1.heap.size ≤ w6.heap.size := (by omega)
  try have lt6_1 : w1.heap.size < w6.heap.size := (by omega)
  try have le6_2 : w2.heap.size ≤ w6.heap.size := (by omega)
  try have lt6_2 : w2.heap.size < w6.heap.size := (by omega)
  try have le6_3 : w3.heap.size ≤ w6.heap.size := (by omega)
  try have lt6_3 : w3.heap.size < w6.heap.size := (by omega)
  try have le6_4 : w4.heap.size ≤ w6.heap.size := (by omega)
  try have lt6_4 : w4.heap.size < w6.heap.size := (by omega)
  try have le6_5 : w5.heap.size ≤ w6.heap.size := (by omega)
  try have lt6_5 : w5.heap.size < w6.heap.size := (by omega)
  have HB6 : Hid (Below w.heap.size w w6) := Lib.hid (Below.trans (by first | exact HB5.out | exact HB5.out.alloc HB5.out.size _ | exact (HB5.out.alloc HB5.out.size _).alloc (le_al HB5.out.size) _ | exact ((HB5.out.alloc HB5.out.size _).alloc (le_al HB5.out.size) _).alloc (le_al (le_al HB5.out.size)) _ | exact HB4.out | exact HB4.out.alloc HB4.out.size _ | exact (HB4.out.alloc HB4.out.size _).alloc (le_al HB4.out.size) _ | exact ((HB4.out.alloc HB4.out.size _).alloc (le_al HB4.out.size) _).alloc (le_al (le_al HB4.out.size)) _ | exact HB3.out | exact HB3.out.alloc HB3.out.size _ | exact (HB3.out.alloc HB3.out.size _).alloc (le_al HB3.out.size) _ | exact ((HB3.out.alloc HB3.out.size _).alloc (le_al HB3.out.size) _).alloc (le_al (le_al HB3.out.size)) _ | exact HB2.out | exact HB2.out.alloc HB2.out.size _ | exact (HB2.out.alloc HB2.out.size _).alloc (le_al HB2.out.size) _ | exact ((HB2.out.alloc HB2.out.size _).alloc (le_al HB2.out.size) _).alloc (le_al (le_al HB2.out.size)) _ | exact HB1.out | exact HB1.out.alloc HB1.out.size _ | exact (HB1.out.alloc HB1.out.size _).alloc (le_al HB1.out.size) _ | exact ((HB1.out.alloc HB1.out.size _).alloc (le_al HB1.out.size) _).alloc (le_al (le_al HB1.out.size)) _ | exact HB0.out | exact HB0.out.alloc HB0.out.size _ | exact (HB0.out.alloc HB0.out.size _).alloc (le_al HB0.out.size) _ | exact ((HB0.out.alloc HB0.out.size _).alloc (le_al HB0.out.size) _).alloc (le_al (le_al HB0.out.size)) _) (hb6.mono (by (try simp only [World.size_alloc]); (try simp only [size_setCell']); omega)))
  have HN6 := Lib.hid hb6
  clear hb6 hs6
  obtain rfl := hb6 rfl
  go_wp2
  go_ret
  exact ⟨rfl, (by first | exact HB6.out | exact HB6.out.alloc HB6.out.size _ | exact (HB6.out.alloc HB6.out.size _).alloc (le_al HB6.out.size) _ | exact ((HB6.out.alloc HB6.out.size _).alloc (le_al HB6.out.size) _).alloc (le_al (le_al HB6.out.size)) _)⟩

theorem eq_op_self (p : Op) (w : World) : (Op.equal 47 (.agg #[.int .i64 p.stamp.t, .int .i64 p.stamp.r, .int .i64 p.kind, .int .i64 p.at_.t, .int .i64 p.at_.r, .int .i64 p.ino.t, .int .i64 p.ino.r, .int .i64 p.to.t, .int .i64 p.to.r, .string p.name, .string p.new, .int .i64 p.off, .string p.data]) (.agg #[.int .i64 p.stamp.t, .int .i64 p.stamp.r, .int .i64 p.kind, .int .i64 p.at_.t, .int .i64 p.at_.r, .int .i64 p.ino.t, .int .i64 p.ino.r, .int .i64 p.to.t, .int .i64 p.to.r, .string p.name, .string p.new, .int .i64 p.off, .string p.data])).run Tryz.prog w = .ok true w := by
  show (Op.equalIn (9999 + 1) 47 _ _).run Tryz.prog w = _
  have hu := Tryz.underlying2
  have hv := Tryz.underlying3
  have hs := Tryz.underlying9
  have ha := Tryz.underlying31
  have ho := Tryz.underlying47
  obtain ⟨⟨p0, p1⟩, p2, ⟨p3, p4⟩, ⟨p5, p6⟩, ⟨p7, p8⟩, p9, p10, p11, p12⟩ := p
  simp only
  go_simp
theorem neq_op_self (p : Op) (w : World) : (binOp .neq 47 (.agg #[.int .i64 p.stamp.t, .int .i64 p.stamp.r, .int .i64 p.kind, .int .i64 p.at_.t, .int .i64 p.at_.r, .int .i64 p.ino.t, .int .i64 p.ino.r, .int .i64 p.to.t, .int .i64 p.to.r, .string p.name, .string p.new, .int .i64 p.off, .string p.data]) (.agg #[.int .i64 p.stamp.t, .int .i64 p.stamp.r, .int .i64 p.kind, .int .i64 p.at_.t, .int .i64 p.at_.r, .int .i64 p.ino.t, .int .i64 p.ino.r, .int .i64 p.to.t, .int .i64 p.to.r, .string p.name, .string p.new, .int .i64 p.off, .string p.data])).run Tryz.prog w = .ok (.bool false) w := by
  simp only [binOp]
  simp [eq_op_self p w]

set_option maxRecDepth 100000 in
set_option maxHeartbeats 2000000 in
theorem ops_same (v1 v2 : Value) (x : List Op) (w : World) (h1 : SlAt w 13 Op.cells v1 x) (h2 : SlAt w 13 Op.cells v2 x) (hx : x.length ≤ 1000) :
    Calls Tryz.prog 45 #[v1, v2] w fun e w' => e = .returned (.bool true) ∧ Below w.heap.size w w' := by
  have H1 := Lib.hid h1
  have H2 := Lib.hid h2
  obtain ⟨a1, c1, rfl⟩ := h1.len
  obtain ⟨a2, c2, rfl⟩ := h2.len
  clear h1 h2
  go_enter Tryz.func45, Tryz.ntmps45
  go_wp2
  go_loopg [5] x.length (fun gg s5 wr => ∃ i : Nat, s5 = .int .i64 i ∧ i ≤ x.length ∧ x.length - i ≤ gg ∧ Aside (Below w.heap.size w wr))
  case atStart => exact ⟨0, rfl, Nat.zero_le _, by omega, (show Aside _ from Below.refl _ _)⟩
  case round =>
    obtain ⟨i, rfl, hil, hgg, hB⟩ := hrel
    have hi0 : (0 : Int) ≤ (i : Int) := by omega
    have hwi : IntKind.i64.wrap ((i : Int) + 1) = (i : Int) + 1 := wrapNat (i + 1) (by omega)
    by_cases hlt : i < x.length
    · have hlti : (i : Int) < (x.length : Int) := by omega
      have h1 := H1.out.below hB.out
      have h2 := H2.out.below hB.out
      obtain ⟨b1, o1, rfl, _, k1⟩ := slAt_at h1 hlt
      obtain ⟨b2, o2, rfl, _, k2⟩ := slAt_at h2 hlt
      obtain ⟨x0, x1, x2, x3, x4, x5, x6, x7, x8, x9, x10, x11, x12⟩ := cellsOpF k1 i hlt
      obtain ⟨y0, y1, y2, y3, y4, y5, y6, y7, y8, y9, y10, y11, y12⟩ := cellsOpF k2 i hlt
      have HNE : ∀ w, (binOp .neq 47 (.agg #[.int .i64 x[i]!.stamp.t, .int .i64 x[i]!.stamp.r, .int .i64 x[i]!.kind, .int .i64 x[i]!.at_.t, .int .i64 x[i]!.at_.r, .int .i64 x[i]!.ino.t, .int .i64 x[i]!.ino.r, .int .i64 x[i]!.to.t, .int .i64 x[i]!.to.r, .string x[i]!.name, .string x[i]!.new, .int .i64 x[i]!.off, .string x[i]!.data]) (.agg #[.int .i64 x[i]!.stamp.t, .int .i64 x[i]!.stamp.r, .int .i64 x[i]!.kind, .int .i64 x[i]!.at_.t, .int .i64 x[i]!.at_.r, .int .i64 x[i]!.ino.t, .int .i64 x[i]!.ino.r, .int .i64 x[i]!.to.t, .int .i64 x[i]!.to.r, .string x[i]!.name, .string x[i]!.new, .int .i64 x[i]!.off, .string x[i]!.data])).run Tryz.prog w = .ok (.bool false) w := fun w => neq_op_self _ w
      clear k1 k2 h1 h2
      generalize x[i]! = z at *
      go_wp2_with fail
      go_quiet (fail)
      go_wp2
      go_roundg (x.length - (i + 1))
      case measure => omega
      case rel => exact ⟨i + 1, by first | rfl | go_num, by omega, by omega, (show Aside _ from hB.out.trans ⟨rfl, rfl, rfl, Nat.le_refl _, fun _ _ => rfl⟩)⟩
    · have hlti : ¬ (i : Int) < (x.length : Int) := by omega
      clear hlt
      go_wp2
      go_ret
      exact ⟨rfl, hB.out⟩

def shA : Op := ⟨⟨2, 1⟩, 2, ⟨0, 0⟩, ⟨0, 0⟩, ⟨0, 0⟩, ⟨#[102]⟩, ⟨#[]⟩, 0, ⟨#[]⟩⟩
def shB : Op := ⟨⟨2, 0⟩, 1, ⟨0, 0⟩, ⟨0, 0⟩, ⟨0, 0⟩, ⟨#[102]⟩, ⟨#[]⟩, 0, ⟨#[]⟩⟩
theorem shW : Gr.new.opWhy shB = 0 := by kernel_rfl
theorem shG : Gr.new.apply shB = Gr.new.grown shB := by
  obtain ⟨hm, hkw⟩ := opWhy_zero shW
  rw [apply_zero shW]
  rw [kindWhy_make (Or.inl rfl)] at hkw
  exact (Gr.Ok.new.does_make (Or.inl rfl) hm hkw).1
theorem shW2 : (Gr.new.grown shB).opWhy shA = 4 := by kernel_rfl
theorem shR : ofOps [shA, shB] = Gr.new.grown shB := by
  have h1 : sortOps [shA, shB] = [shB, shA] := by kernel_rfl
  unfold ofOps ran
  rw [h1]
  show (Gr.new.apply shB).apply shA = _
  rw [shG, apply_err (by rw [shW2]; decide)]
theorem shL : (ofOps [shA, shB]).n.length = 2 := by rw [shR]; kernel_rfl
theorem shK : (ofOps [shA, shB]).look ⟨⟨0, 0⟩, ⟨#[102]⟩⟩ = some ⟨2, 0⟩ := by rw [shR]; kernel_rfl
theorem shS : ∀ o ∈ [shA, shB], o.Small := fun o ho => by
  simp only [List.mem_cons, List.not_mem_nil, or_false] at ho
  rcases ho with rfl | rfl
  · unfold Op.Small shA reachBytes; decide
  · unfold Op.Small shB reachBytes; decide

set_option maxRecDepth 100000 in
set_option maxHeartbeats 2000000 in
theorem shown_any (w : World) : Calls Tryz.prog 34 #[] w fun x w' => x = .returned (.bool true) ∧ Below w.heap.size w w' := by
  go_enter Tryz.func34, Tryz.ntmps34
  go_wp2_with fail
  obtain ⟨W0, hW0⟩ : ∃ W0, W0 = (w.alloc (.cells #[.int .i64 shA.stamp.t, .int .i64 shA.stamp.r, .int .i64 shA.kind, .int .i64 shA.at_.t, .int .i64 shA.at_.r, .int .i64 shA.ino.t, .int .i64 shA.ino.r, .int .i64 shA.to.t, .int .i64 shA.to.r, .string shA.name, .string shA.new, .int .i64 shA.off, .string shA.data] 47)).alloc (.cells #[.int .i64 shB.stamp.t, .int .i64 shB.stamp.r, .int .i64 shB.kind, .int .i64 shB.at_.t, .int .i64 shB.at_.r, .int .i64 shB.ino.t, .int .i64 shB.ino.r, .int .i64 shB.to.t, .int .i64 shB.to.r, .string shB.name, .string shB.new, .int .i64 shB.off, .string shB.data] 47) := ⟨_, rfl⟩
  have hz0 : W0.heap.size = w.heap.size + 2 := by rw [hW0]; simp
  have hb0 : Below w.heap.size w W0 := by rw [hW0]; exact ((Below.refl _ _).alloc (Nat.le_refl _) _).alloc (by simp) _
  have hrow : (W0.alloc (.cells ([shA, shB].flatMap Op.cells).toArray 47)).ownsRow 0 47 13 (.slice (some ⟨W0.heap.size, 0, none⟩) 2 2) 2 ([shA, shB].flatMap Op.cells) := World.ownsRow_lit W0 _ 2 (Nat.zero_le _) (by unfold maxLen; omega) rfl
  have hsl : SlAt (W0.alloc (.cells ([shA, shB].flatMap Op.cells).toArray 47)) 13 Op.cells (.slice (some ⟨W0.heap.size, 0, none⟩) 2 2) [shA, shB] := SlAt.of_row (fun _ => rfl) hrow
  have HOF := Lib.hid (of_any _ [shA, shB] _ hsl shS (by decide))
  have HB0 : Hid (Below w.heap.size w (W0.alloc (.cells ([shA, shB].flatMap Op.cells).toArray 47))) := Lib.hid (hb0.alloc hb0.size _)
  have hx0 : W0.cell? ⟨w.heap.size + 1, 0, none⟩ = some (.int .i64 2) := by rw [hW0]; exact cell_new _ _ (by simp) _ _ 0 _ rfl
  have hx1 : W0.cell? ⟨w.heap.size + 1, 1, none⟩ = some (.int .i64 0) := by rw [hW0]; exact cell_new _ _ (by simp) _ _ 1 _ rfl
  have HX : Hid (∀ W, Below (w.heap.size + 2) W0 W → W.cell? ⟨w.heap.size + 1, 0, none⟩ = some (.int .i64 2) ∧ W.cell? ⟨w.heap.size + 1, 1, none⟩ = some (.int .i64 0)) := Lib.hid fun W hW =>
    ⟨(hW.cell (p := ⟨w.heap.size + 1, 0, none⟩) (by show w.heap.size + 1 < _; omega)).trans hx0, (hW.cell (p := ⟨w.heap.size + 1, 1, none⟩) (by show w.heap.size + 1 < _; omega)).trans hx1⟩
  have HY : Hid (Below (w.heap.size + 2) W0 (W0.alloc (.cells ([shA, shB].flatMap Op.cells).toArray 47)) ∧ w.heap.size + 2 = W0.heap.size) := Lib.hid ⟨(Below.refl _ _).alloc (by omega) _, hz0.symm⟩
  have HOG : Calls Tryz.prog 38 #[.slice (some ⟨w.heap.size + 1 + 1, 0, none⟩) 2 2] (((w.alloc (.cells #[.int .i64 shA.stamp.t, .int .i64 shA.stamp.r, .int .i64 shA.kind, .int .i64 shA.at_.t, .int .i64 shA.at_.r, .int .i64 shA.ino.t, .int .i64 shA.ino.r, .int .i64 shA.to.t, .int .i64 shA.to.r, .string shA.name, .string shA.new, .int .i64 shA.off, .string shA.data] 47)).alloc (.cells #[.int .i64 shB.stamp.t, .int .i64 shB.stamp.r, .int .i64 shB.kind, .int .i64 shB.at_.t, .int .i64 shB.at_.r, .int .i64 shB.ino.t, .int .i64 shB.ino.r, .int .i64 shB.to.t, .int .i64 shB.to.r, .string shB.name, .string shB.new, .int .i64 shB.off, .string shB.data] 47)).alloc (.cells ([shA, shB].flatMap Op.cells).toArray 47)) (MadeGr (W0.alloc (.cells ([shA, shB].flatMap Op.cells).toArray 47)) (ofOps [shA, shB])) := by
    have h := HOF.out
    rw [show W0.heap.size = w.heap.size + 1 + 1 by omega] at h
    rw [hW0] at h ⊢
    exact h
  clear hrow hsl hb0 hx0 hx1 HOF
  refine Calls.mono HOG ?_
  clear HOG hW0
  rintro e w1 ⟨v1, rfl, ⟨gb, mI, mE, rfl, hG, h1, h2, h3⟩, hb⟩
  have HB1 := Lib.hid (HB0.out.trans (hb.mono HB0.out.size))
  have hy1 : Below (w.heap.size + 2) W0 w1 := HY.out.1.trans (hb.mono (by rw [HY.out.2]; exact HY.out.1.size))
  have HX1 := Lib.hid hy1
  have hR := hG.reads (ofOps_ok _) (by have := (ofOps_ok [shA, shB]).few; omega)
  have HLK := Lib.hid (fun W hW => hR.look ⟨⟨0, 0⟩, ⟨#[102]⟩⟩ ⟨2, 0⟩ true W (by rw [shK]; rfl) (by rw [shK]; rfl) hW)
  have HIN := Lib.hid hR.inodes
  clear hG h1 h2 h3 hb hR
  go_wp2_with fail
  refine (HLK.out w1 (Below.refl _ _)).mono ?_
  rintro e w2 ⟨rfl, hb2⟩
  have HB2 := Lib.hid (HB1.out.trans (hb2.mono HB1.out.size))
  have HZ2 : Hid (w.heap.size + 2 ≤ w1.heap.size) := Lib.hid (by have := hy1.size; omega)
  obtain ⟨_, _⟩ := HX.out w2 (hy1.trans (hb2.mono HZ2.out))
  have HN2 := Lib.hid hb2
  have hl2 : w.heap.size + 1 < w2.heap.size := by have := HZ2.out; have := hb2.size; omega
  have hlk : ∀ w, (binOp .eql 31 (.agg #[.int .i64 2, .int .i64 0]) (.agg #[.int .i64 2, .int .i64 0])).run Tryz.prog w = .ok (.bool true) w := fun w => by
    have := eql_st ⟨2, 0⟩ ⟨2, 0⟩ w
    simpa using this
  clear hb2 hy1
  go_wp2_with fail
  refine (HIN.out _ (HN2.out.alloc HN2.out.size _)).mono ?_
  rintro e w3 ⟨a3, c3, rfl, _, hb3⟩
  rw [shL]
  have HB3 := Lib.hid ((HB2.out.alloc HB2.out.size _).trans (hb3.mono (by have := HB2.out.size; simp only [World.size_alloc]; omega)))
  clear hb3
  go_wp2
  go_ret
  exact ⟨rfl, HB3.out⟩
end Go.Proofs.YtlokljaeknmdpaaGreat.L13
