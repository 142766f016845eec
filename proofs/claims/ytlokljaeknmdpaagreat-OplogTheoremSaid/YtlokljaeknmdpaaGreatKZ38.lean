/-
  undo.Diff: what is another thing in another graph; condition: the graphs are in order. · undo.Do: an operation, and what it turned; condition: the graph is in order.
-/
import Derived.Test.YtlokljaeknmdpaaGreatKZ37
import Derived.Test.YtlokljaeknmdpaaGreatKZ31
/-! ## UndoB -/
namespace Go.Proofs.YtlokljaeknmdpaaGreat
open Go.RowKit Go.Shelf Go.Proofs

/-- a record of an undo, where its lists lie: in rows of their own, at B or above -/
def RecAt (B : Nat) (w : World) (v1 v2 v3 v4 : Value) (r : Rec) : Prop :=
  w.ownsRow B 34 5 v1 r.lost.length (r.lost.flatMap Ent.cells) ∧ w.ownsRow B 34 5 v2 r.made.length (r.made.flatMap Ent.cells) ∧
  w.ownsRow B 62 6 v3 r.was.length (r.was.flatMap Ino.cells) ∧ w.ownsRow B 31 2 v4 r.new.length (r.new.flatMap St.cells)
theorem ownsRow_kept2 {W W' : World} {base : Nat} {t : TypeId} {size : Nat} {v : Value} {k : Nat} {xs : List Value} (h : W.ownsRow base t size v k xs) (hb : ∀ j, base ≤ j → j < W.heap.size → W'.heap[j]? = W.heap[j]?) : W'.ownsRow base t size v k xs := by
  refine ⟨h.1, ?_⟩
  rcases h.2 with h0 | ⟨g, cap, cur, hv, hg, hh, rest⟩
  · exact .inl h0
  · exact .inr ⟨g, cap, cur, hv, hg, (hb g hg (Array.getElem?_eq_some_iff.1 hh).1).trans hh, rest⟩
theorem RecAt.kept {B : Nat} {w w' : World} {v1 v2 v3 v4 : Value} {r : Rec} (h : RecAt B w v1 v2 v3 v4 r) (hb : ∀ j, B ≤ j → j < w.heap.size → w'.heap[j]? = w.heap[j]?) : RecAt B w' v1 v2 v3 v4 r := ⟨ownsRow_kept2 h.1 hb, ownsRow_kept2 h.2.1 hb, ownsRow_kept2 h.2.2.1 hb, ownsRow_kept2 h.2.2.2 hb⟩
theorem RecAt.mono {B C : Nat} {w : World} {v1 v2 v3 v4 : Value} {r : Rec} (h : RecAt B w v1 v2 v3 v4 r) (hb : C ≤ B) : RecAt C w v1 v2 v3 v4 r := ⟨ownsRow_mono h.1 hb, ownsRow_mono h.2.1 hb, ownsRow_mono h.2.2.1 hb, ownsRow_mono h.2.2.2 hb⟩
theorem RecAt.sl {B : Nat} {w : World} {v1 v2 v3 v4 : Value} {r : Rec} (h : RecAt B w v1 v2 v3 v4 r) : SlAt w 5 Ent.cells v1 r.lost ∧ SlAt w 5 Ent.cells v2 r.made ∧ SlAt w 6 Ino.cells v3 r.was ∧ SlAt w 2 St.cells v4 r.new :=
  ⟨SlAt.of_row (fun _ => rfl) h.1, SlAt.of_row (fun _ => rfl) h.2.1, SlAt.of_row (fun _ => rfl) h.2.2.1, SlAt.of_row (fun _ => rfl) h.2.2.2⟩
theorem row_shape {W : World} {base : Nat} {t : TypeId} {size : Nat} {v : Value} {k : Nat} {xs : List Value} (h : W.ownsRow base t size v k xs) : ∃ a n c, v = .slice a n c := by
  rcases h.2 with ⟨rfl, _⟩ | ⟨g, cap, cur, rfl, _⟩
  · exact ⟨_, _, _, rfl⟩
  · exact ⟨_, _, _, rfl⟩
theorem rec_cells {W : World} {B : Nat} {a b c d e : Value} {t : TypeId} {fz : Nat × Nat} (h : W.heap[B]? = some (.cells #[a, b, c, d, e] t fz)) : W.cell? ⟨B, 0, none⟩ = some a ∧ W.cell? ⟨B, 1, none⟩ = some b ∧ W.cell? ⟨B, 2, none⟩ = some c ∧ W.cell? ⟨B, 3, none⟩ = some d ∧ W.cell? ⟨B, 4, none⟩ = some e := by
  simp [World.cell?, h]

set_option maxRecDepth 100000 in
set_option maxHeartbeats 4000000 in
theorem diff_any (ga gb : Nat) (a b : Gr) (w : World) (ha : a.Ok) (hb : b.Ok) (h1 : Reads ga a w) (h2 : Reads gb b w) :
    Calls Tryz.prog 32 #[.pointer (some ⟨ga, 0, none⟩), .pointer (some ⟨gb, 0, none⟩)] w fun e w' => ∃ v1 v2 v3 v4, e = .returned (.agg #[v1, v2, v3, v4, .int .i64 0]) ∧ RecAt w.heap.size w' v1 v2 v3 v4 (diffOf a b) ∧ Below w.heap.size w w' := by
  obtain ⟨i0, hinf, hz0, hz1, hz2⟩ := info_parts infoSt
  have HB0 : Hid (Below w.heap.size w w) := Lib.hid (Below.refl _ _)
  have HEA := Lib.hid (fun W (hW : Below w.heap.size w W) => h1.entries W hW)
  have HEB := Lib.hid (fun W (hW : Below w.heap.size w W) => h2.entries W hW)
  have HIA := Lib.hid (fun W (hW : Below w.heap.size w W) => h1.inodes W hW)
  have HIB := Lib.hid (fun W (hW : Below w.heap.size w W) => h2.inodes W hW)
  have HL : Hid ((a.e.length ≤ 1000 ∧ b.e.length ≤ 1000) ∧ a.n.length ≤ 1000 ∧ b.n.length ≤ 1000) := Lib.hid ⟨⟨by have := ha.few; omega, by have := hb.few; omega⟩, by have := ha.len; omega, by have := hb.len; omega⟩
  clear h1 h2
  go_enter Tryz.func32, Tryz.ntmps32
  go_wp2_with fail
  refine (HEA.out _ (by first | exact HB0.out | exact HB0.out.alloc HB0.out.size _ | exact (HB0.out.alloc HB0.out.size _).alloc (le_al HB0.out.size) _ | exact ((HB0.out.alloc HB0.out.size _).alloc (le_al HB0.out.size) _).alloc (le_al (le_al HB0.out.size)) _)).mono ?_
  rintro e w1 ⟨a1, c1, rfl, hs1, hb1⟩
  obtain ⟨hc1, hf1⟩ := bcell hb1
  have hs1 := hb1.size
  try simp only [World.size_alloc] at hs1
  try simp only [size_setCell'] at hs1
  try have le1_0 : w.heap.size ≤ w1.heap.size := (by omega)
  try have lt1_0 : w.heap.size < w1.heap.size := (by omega)
  have HB1 : Hid (Below w.heap.size w w1) := Lib.hid (Below.trans (by first | exact HB0.out | exact HB0.out.alloc HB0.out.size _ | exact (HB0.out.alloc HB0.out.size _).alloc (le_al HB0.out.size) _ | exact ((HB0.out.alloc HB0.out.size _).alloc (le_al HB0.out.size) _).alloc (le_al (le_al HB0.out.size)) _) (hb1.mono (by (try simp only [World.size_alloc]); (try simp only [size_setCell']); omega)))
  have HN1 := Lib.hid hb1
  clear hb1 hs1
  have HS1 := Lib.hid hs1
  clear hs1
  go_wp2_with fail
  refine (HEB.out _ (by first | exact HB1.out | exact HB1.out.alloc HB1.out.size _ | exact (HB1.out.alloc HB1.out.size _).alloc (le_al HB1.out.size) _ | exact ((HB1.out.alloc HB1.out.size _).alloc (le_al HB1.out.size) _).alloc (le_al (le_al HB1.out.size)) _ | exact HB0.out | exact HB0.out.alloc HB0.out.size _ | exact (HB0.out.alloc HB0.out.size _).alloc (le_al HB0.out.size) _ | exact ((HB0.out.alloc HB0.out.size _).alloc (le_al HB0.out.size) _).alloc (le_al (le_al HB0.out.size)) _)).mono ?_
  rintro e w2 ⟨a2, c2, rfl, hs2, hb2⟩
  obtain ⟨hc2, hf2⟩ := bcell hb2
  have hs2 := hb2.size
  try simp only [World.size_alloc] at hs2
  try simp only [size_setCell'] at hs2
  try have le2_0 : w.heap.size ≤ w2.heap.size := (by omega)
  try have lt2_0 : w.heap.size < w2.heap.size := (by omega)
  try have le2_1 : w1.heap.size ≤ w2.heap.size := (by omega)
  try have lt2_1 : w1.heap.size < w2.heap.size := (by omega)
  have HB2 : Hid (Below w.heap.size w w2) := Lib.hid (Below.trans (by first | exact HB1.out | exact HB1.out.alloc HB1.out.size _ | exact (HB1.out.alloc HB1.out.size _).alloc (le_al HB1.out.size) _ | exact ((HB1.out.alloc HB1.out.size _).alloc (le_al HB1.out.size) _).alloc (le_al (le_al HB1.out.size)) _ | exact HB0.out | exact HB0.out.alloc HB0.out.size _ | exact (HB0.out.alloc HB0.out.size _).alloc (le_al HB0.out.size) _ | exact ((HB0.out.alloc HB0.out.size _).alloc (le_al HB0.out.size) _).alloc (le_al (le_al HB0.out.size)) _) (hb2.mono (by (try simp only [World.size_alloc]); (try simp only [size_setCell']); omega)))
  have HN2 := Lib.hid hb2
  clear hb2 hs2
  have HC3 := Lib.hid (aloneE _ _ a.e b.e _ (HS1.out.below HN2.out) hs2 HL.out.1.1 HL.out.1.2)
  clear hs2
  go_wp2_with fail
  refine (HC3.out).mono ?_
  rintro e w3 ⟨u3, rfl, hs3, hb3⟩
  obtain ⟨hc3, hf3⟩ := bcell hb3
  have hs3 := hb3.size
  try simp only [World.size_alloc] at hs3
  try simp only [size_setCell'] at hs3
  try have le3_0 : w.heap.size ≤ w3.heap.size := (by omega)
  try have lt3_0 : w.heap.size < w3.heap.size := (by omega)
  try have le3_1 : w1.heap.size ≤ w3.heap.size := (by omega)
  try have lt3_1 : w1.heap.size < w3.heap.size := (by omega)
  try have le3_2 : w2.heap.size ≤ w3.heap.size := (by omega)
  try have lt3_2 : w2.heap.size < w3.heap.size := (by omega)
  have HB3 : Hid (Below w.heap.size w w3) := Lib.hid (Below.trans (by first | exact HB2.out | exact HB2.out.alloc HB2.out.size _ | exact (HB2.out.alloc HB2.out.size _).alloc (le_al HB2.out.size) _ | exact ((HB2.out.alloc HB2.out.size _).alloc (le_al HB2.out.size) _).alloc (le_al (le_al HB2.out.size)) _ | exact HB1.out | exact HB1.out.alloc HB1.out.size _ | exact (HB1.out.alloc HB1.out.size _).alloc (le_al HB1.out.size) _ | exact ((HB1.out.alloc HB1.out.size _).alloc (le_al HB1.out.size) _).alloc (le_al (le_al HB1.out.size)) _ | exact HB0.out | exact HB0.out.alloc HB0.out.size _ | exact (HB0.out.alloc HB0.out.size _).alloc (le_al HB0.out.size) _ | exact ((HB0.out.alloc HB0.out.size _).alloc (le_al HB0.out.size) _).alloc (le_al (le_al HB0.out.size)) _) (hb3.mono (by (try simp only [World.size_alloc]); (try simp only [size_setCell']); omega)))
  have HN3 := Lib.hid hb3
  clear hb3 hs3
  have HS3 : Hid (w3.ownsRow w2.heap.size 34 5 u3 (lostOf a b).length ((lostOf a b).flatMap Ent.cells)) := Lib.hid hs3
  clear hs3
  obtain ⟨a3, c3, rfl⟩ := (SlAt.of_row (fun _ => rfl) HS3.out : SlAt w3 5 Ent.cells u3 (lostOf a b)).len
  go_wp2_with fail
  refine (HEB.out _ (by first | exact HB3.out | exact HB3.out.alloc HB3.out.size _ | exact (HB3.out.alloc HB3.out.size _).alloc (le_al HB3.out.size) _ | exact ((HB3.out.alloc HB3.out.size _).alloc (le_al HB3.out.size) _).alloc (le_al (le_al HB3.out.size)) _ | exact HB2.out | exact HB2.out.alloc HB2.out.size _ | exact (HB2.out.alloc HB2.out.size _).alloc (le_al HB2.out.size) _ | exact ((HB2.out.alloc HB2.out.size _).alloc (le_al HB2.out.size) _).alloc (le_al (le_al HB2.out.size)) _ | exact HB1.out | exact HB1.out.alloc HB1.out.size _ | exact (HB1.out.alloc HB1.out.size _).alloc (le_al HB1.out.size) _ | exact ((HB1.out.alloc HB1.out.size _).alloc (le_al HB1.out.size) _).alloc (le_al (le_al HB1.out.size)) _ | exact HB0.out | exact HB0.out.alloc HB0.out.size _ | exact (HB0.out.alloc HB0.out.size _).alloc (le_al HB0.out.size) _ | exact ((HB0.out.alloc HB0.out.size _).alloc (le_al HB0.out.size) _).alloc (le_al (le_al HB0.out.size)) _)).mono ?_
  rintro e w4 ⟨a4, c4, rfl, hs4, hb4⟩
  obtain ⟨hc4, hf4⟩ := bcell hb4
  have hs4 := hb4.size
  try simp only [World.size_alloc] at hs4
  try simp only [size_setCell'] at hs4
  try have le4_0 : w.heap.size ≤ w4.heap.size := (by omega)
  try have lt4_0 : w.heap.size < w4.heap.size := (by omega)
  try have le4_1 : w1.heap.size ≤ w4.heap.size := (by omega)
  try have lt4_1 : w1.heap.size < w4.heap.size := (by omega)
  try have le4_2 : w2.heap.size ≤ w4.heap.size := (by omega)
  try have lt4_2 : w2.heap.size < w4.heap.size := (by omega)
  try have le4_3 : w3.heap.size ≤ w4.heap.size := (by omega)
  try have lt4_3 : w3.heap.size < w4.heap.size := (by omega)
  have HB4 : Hid (Below w.heap.size w w4) := Lib.hid (Below.trans (by first | exact HB3.out | exact HB3.out.alloc HB3.out.size _ | exact (HB3.out.alloc HB3.out.size _).alloc (le_al HB3.out.size) _ | exact ((HB3.out.alloc HB3.out.size _).alloc (le_al HB3.out.size) _).alloc (le_al (le_al HB3.out.size)) _ | exact HB2.out | exact HB2.out.alloc HB2.out.size _ | exact (HB2.out.alloc HB2.out.size _).alloc (le_al HB2.out.size) _ | exact ((HB2.out.alloc HB2.out.size _).alloc (le_al HB2.out.size) _).alloc (le_al (le_al HB2.out.size)) _ | exact HB1.out | exact HB1.out.alloc HB1.out.size _ | exact (HB1.out.alloc HB1.out.size _).alloc (le_al HB1.out.size) _ | exact ((HB1.out.alloc HB1.out.size _).alloc (le_al HB1.out.size) _).alloc (le_al (le_al HB1.out.size)) _ | exact HB0.out | exact HB0.out.alloc HB0.out.size _ | exact (HB0.out.alloc HB0.out.size _).alloc (le_al HB0.out.size) _ | exact ((HB0.out.alloc HB0.out.size _).alloc (le_al HB0.out.size) _).alloc (le_al (le_al HB0.out.size)) _) (hb4.mono (by (try simp only [World.size_alloc]); (try simp only [size_setCell']); omega)))
  have HN4 := Lib.hid hb4
  clear hb4 hs4
  have HS4 := Lib.hid hs4
  clear hs4
  go_wp2_with fail
  refine (HEA.out _ (by first | exact HB4.out | exact HB4.out.alloc HB4.out.size _ | exact (HB4.out.alloc HB4.out.size _).alloc (le_al HB4.out.size) _ | exact ((HB4.out.alloc HB4.out.size _).alloc (le_al HB4.out.size) _).alloc (le_al (le_al HB4.out.size)) _ | exact HB3.out | exact HB3.out.alloc HB3.out.size _ | exact (HB3.out.alloc HB3.out.size _).alloc (le_al HB3.out.size) _ | exact ((HB3.out.alloc HB3.out.size _).alloc (le_al HB3.out.size) _).alloc (le_al (le_al HB3.out.size)) _ | exact HB2.out | exact HB2.out.alloc HB2.out.size _ | exact (HB2.out.alloc HB2.out.size _).alloc (le_al HB2.out.size) _ | exact ((HB2.out.alloc HB2.out.size _).alloc (le_al HB2.out.size) _).alloc (le_al (le_al HB2.out.size)) _ | exact HB1.out | exact HB1.out.alloc HB1.out.size _ | exact (HB1.out.alloc HB1.out.size _).alloc (le_al HB1.out.size) _ | exact ((HB1.out.alloc HB1.out.size _).alloc (le_al HB1.out.size) _).alloc (le_al (le_al HB1.out.size)) _ | exact HB0.out | exact HB0.out.alloc HB0.out.size _ | exact (HB0.out.alloc HB0.out.size _).alloc (le_al HB0.out.size) _ | exact ((HB0.out.alloc HB0.out.size _).alloc (le_al HB0.out.size) _).alloc (le_al (le_al HB0.out.size)) _)).mono ?_
  rintro e w5 ⟨a5, c5, rfl, hs5, hb5⟩
  obtain ⟨hc5, hf5⟩ := bcell hb5
  have hs5 := hb5.size
  try simp only [World.size_alloc] at hs5
  try simp only [size_setCell'] at hs5
  try have le5_0 : w.heap.size ≤ w5.heap.size := (by omega)
  try have lt5_0 : w.heap.size < w5.heap.size := (by omega)
  try have le5_1 : w1.heap.size ≤ w5.heap.size := (by omega)
  try have lt5_1 : w1.heap.size < w5.heap.size := (by omega)
  try have le5_2 : w2.heap.size ≤ w5.heap.size := (by omega)
  try have lt5_2 : w2.heap.size < w5.heap.size := (by omega)
  try have le5_3 : w3.heap.size ≤ w5.heap.size := (by omega)
  try have lt5_3 : w3.heap.size < w5.heap.size := (by omega)
  try have le5_4 : w4.heap.size ≤ w5.heap.size := (by omega)
  try have lt5_4 : w4.heap.size < w5.heap.size := (by omega)
  have HB5 : Hid (Below w.heap.size w w5) := Lib.hid (Below.trans (by first | exact HB4.out | exact HB4.out.alloc HB4.out.size _ | exact (HB4.out.alloc HB4.out.size _).alloc (le_al HB4.out.size) _ | exact ((HB4.out.alloc HB4.out.size _).alloc (le_al HB4.out.size) _).alloc (le_al (le_al HB4.out.size)) _ | exact HB3.out | exact HB3.out.alloc HB3.out.size _ | exact (HB3.out.alloc HB3.out.size _).alloc (le_al HB3.out.size) _ | exact ((HB3.out.alloc HB3.out.size _).alloc (le_al HB3.out.size) _).alloc (le_al (le_al HB3.out.size)) _ | exact HB2.out | exact HB2.out.alloc HB2.out.size _ | exact (HB2.out.alloc HB2.out.size _).alloc (le_al HB2.out.size) _ | exact ((HB2.out.alloc HB2.out.size _).alloc (le_al HB2.out.size) _).alloc (le_al (le_al HB2.out.size)) _ | exact HB1.out | exact HB1.out.alloc HB1.out.size _ | exact (HB1.out.alloc HB1.out.size _).alloc (le_al HB1.out.size) _ | exact ((HB1.out.alloc HB1.out.size _).alloc (le_al HB1.out.size) _).alloc (le_al (le_al HB1.out.size)) _ | exact HB0.out | exact HB0.out.alloc HB0.out.size _ | exact (HB0.out.alloc HB0.out.size _).alloc (le_al HB0.out.size) _ | exact ((HB0.out.alloc HB0.out.size _).alloc (le_al HB0.out.size) _).alloc (le_al (le_al HB0.out.size)) _) (hb5.mono (by (try simp only [World.size_alloc]); (try simp only [size_setCell']); omega)))
  have HN5 := Lib.hid hb5
  clear hb5 hs5
  have HC6 := Lib.hid (aloneE _ _ b.e a.e _ (HS4.out.below HN5.out) hs5 HL.out.1.2 HL.out.1.1)
  clear hs5
  go_wp2_with fail
  refine (HC6.out).mono ?_
  rintro e w6 ⟨u6, rfl, hs6, hb6⟩
  obtain ⟨hc6, hf6⟩ := bcell hb6
  have hs6 := hb6.size
  try simp only [World.size_alloc] at hs6
  try simp only [size_setCell'] at hs6
  try have le6_0 : w.heap.size ≤ w6.heap.size := (by omega)
  try have lt6_0 : w.heap.size < w6.heap.size := (by omega)
  try have le6_1 : w1.heap.size ≤ w6.heap.size := (by omega)
  try have lt6_1 : w1.heap.size < w6.heap.size := (by omega)
  try have le6_2 : w2.heap.size ≤ w6.heap.size := (by omega)
  try have lt6_2 : w2.heap.size < w6.heap.size := (by omega)
  try have le6_3 : w3.heap.size ≤ w6.heap.size := (by omega)
  try have lt6_3 : w3.heap.size < w6.heap.size := (by omega)
  try have le6_4 : w4.heap.size ≤ w6.heap.size := (by omega)
  try have lt6_4 : w4.heap.size < w6.heap.size := (by omega)
  try have le6_5 : w5.heap.size ≤ w6.heap.size := (by omega)
  try have lt6_5 : w5.heap.size < w6.heap.size := (by omega)
  have HB6 : Hid (Below w.heap.size w w6) := Lib.hid (Below.trans (by first | exact HB5.out | exact HB5.out.alloc HB5.out.size _ | exact (HB5.out.alloc HB5.out.size _).alloc (le_al HB5.out.size) _ | exact ((HB5.out.alloc HB5.out.size _).alloc (le_al HB5.out.size) _).alloc (le_al (le_al HB5.out.size)) _ | exact HB4.out | exact HB4.out.alloc HB4.out.size _ | exact (HB4.out.alloc HB4.out.size _).alloc (le_al HB4.out.size) _ | exact ((HB4.out.alloc HB4.out.size _).alloc (le_al HB4.out.size) _).alloc (le_al (le_al HB4.out.size)) _ | exact HB3.out | exact HB3.out.alloc HB3.out.size _ | exact (HB3.out.alloc HB3.out.size _).alloc (le_al HB3.out.size) _ | exact ((HB3.out.alloc HB3.out.size _).alloc (le_al HB3.out.size) _).alloc (le_al (le_al HB3.out.size)) _ | exact HB2.out | exact HB2.out.alloc HB2.out.size _ | exact (HB2.out.alloc HB2.out.size _).alloc (le_al HB2.out.size) _ | exact ((HB2.out.alloc HB2.out.size _).alloc (le_al HB2.out.size) _).alloc (le_al (le_al HB2.out.size)) _ | exact HB1.out | exact HB1.out.alloc HB1.out.size _ | exact (HB1.out.alloc HB1.out.size _).alloc (le_al HB1.out.size) _ | exact ((HB1.out.alloc HB1.out.size _).alloc (le_al HB1.out.size) _).alloc (le_al (le_al HB1.out.size)) _ | exact HB0.out | exact HB0.out.alloc HB0.out.size _ | exact (HB0.out.alloc HB0.out.size _).alloc (le_al HB0.out.size) _ | exact ((HB0.out.alloc HB0.out.size _).alloc (le_al HB0.out.size) _).alloc (le_al (le_al HB0.out.size)) _) (hb6.mono (by (try simp only [World.size_alloc]); (try simp only [size_setCell']); omega)))
  have HN6 := Lib.hid hb6
  clear hb6 hs6
  have HS6 : Hid (w6.ownsRow w5.heap.size 34 5 u6 (lostOf b a).length ((lostOf b a).flatMap Ent.cells)) := Lib.hid hs6
  clear hs6
  obtain ⟨a6, c6, rfl⟩ := (SlAt.of_row (fun _ => rfl) HS6.out : SlAt w6 5 Ent.cells u6 (lostOf b a)).len
  go_wp2_with fail
  refine (HIA.out _ (by first | exact HB6.out | exact HB6.out.alloc HB6.out.size _ | exact (HB6.out.alloc HB6.out.size _).alloc (le_al HB6.out.size) _ | exact ((HB6.out.alloc HB6.out.size _).alloc (le_al HB6.out.size) _).alloc (le_al (le_al HB6.out.size)) _ | exact HB5.out | exact HB5.out.alloc HB5.out.size _ | exact (HB5.out.alloc HB5.out.size _).alloc (le_al HB5.out.size) _ | exact ((HB5.out.alloc HB5.out.size _).alloc (le_al HB5.out.size) _).alloc (le_al (le_al HB5.out.size)) _ | exact HB4.out | exact HB4.out.alloc HB4.out.size _ | exact (HB4.out.alloc HB4.out.size _).alloc (le_al HB4.out.size) _ | exact ((HB4.out.alloc HB4.out.size _).alloc (le_al HB4.out.size) _).alloc (le_al (le_al HB4.out.size)) _ | exact HB3.out | exact HB3.out.alloc HB3.out.size _ | exact (HB3.out.alloc HB3.out.size _).alloc (le_al HB3.out.size) _ | exact ((HB3.out.alloc HB3.out.size _).alloc (le_al HB3.out.size) _).alloc (le_al (le_al HB3.out.size)) _ | exact HB2.out | exact HB2.out.alloc HB2.out.size _ | exact (HB2.out.alloc HB2.out.size _).alloc (le_al HB2.out.size) _ | exact ((HB2.out.alloc HB2.out.size _).alloc (le_al HB2.out.size) _).alloc (le_al (le_al HB2.out.size)) _ | exact HB1.out | exact HB1.out.alloc HB1.out.size _ | exact (HB1.out.alloc HB1.out.size _).alloc (le_al HB1.out.size) _ | exact ((HB1.out.alloc HB1.out.size _).alloc (le_al HB1.out.size) _).alloc (le_al (le_al HB1.out.size)) _ | exact HB0.out | exact HB0.out.alloc HB0.out.size _ | exact (HB0.out.alloc HB0.out.size _).alloc (le_al HB0.out.size) _ | exact ((HB0.out.alloc HB0.out.size _).alloc (le_al HB0.out.size) _).alloc (le_al (le_al HB0.out.size)) _)).mono ?_
  rintro e w7 ⟨a7, c7, rfl, hs7, hb7⟩
  obtain ⟨hc7, hf7⟩ := bcell hb7
  have hs7 := hb7.size
  try simp only [World.size_alloc] at hs7
  try simp only [size_setCell'] at hs7
  try have le7_0 : w.heap.size ≤ w7.heap.size := (by omega)
  try have lt7_0 : w.heap.size < w7.heap.size := (by omega)
  try have le7_1 : w1.heap.size ≤ w7.heap.size := (by omega)
  try have lt7_1 : w1.heap.size < w7.heap.size := (by omega)
  try have le7_2 : w2.heap.size ≤ w7.heap.size := (by omega)
  try have lt7_2 : w2.heap.size < w7.heap.size := (by omega)
  try have le7_3 : w3.heap.size ≤ w7.heap.size := (by omega)
  try have lt7_3 : w3.heap.size < w7.heap.size := (by omega)
  try have le7_4 : w4.heap.size ≤ w7.heap.size := (by omega)
  try have lt7_4 : w4.heap.size < w7.heap.size := (by omega)
  try have le7_5 : w5.heap.size ≤ w7.heap.size := (by omega)
  try have lt7_5 : w5.heap.size < w7.heap.size := (by omega)
  try have le7_6 : w6.heap.size ≤ w7.heap.size := (by omega)
  try have lt7_6 : w6.heap.size < w7.heap.size := (by omega)
  have HB7 : Hid (Below w.heap.size w w7) := Lib.hid (Below.trans (by first | exact HB6.out | exact HB6.out.alloc HB6.out.size _ | exact (HB6.out.alloc HB6.out.size _).alloc (le_al HB6.out.size) _ | exact ((HB6.out.alloc HB6.out.size _).alloc (le_al HB6.out.size) _).alloc (le_al (le_al HB6.out.size)) _ | exact HB5.out | exact HB5.out.alloc HB5.out.size _ | exact (HB5.out.alloc HB5.out.size _).alloc (le_al HB5.out.size) _ | exact ((HB5.out.alloc HB5.out.size _).alloc (le_al HB5.out.size) _).alloc (le_al (le_al HB5.out.size)) _ | exact HB4.out | exact HB4.out.alloc HB4.out.size _ | exact (HB4.out.alloc HB4.out.size _).alloc (le_al HB4.out.size) _ | exact ((HB4.out.alloc HB4.out.size _).alloc (le_al HB4.out.size) _).alloc (le_al (le_al HB4.out.size)) _ | exact HB3.out | exact HB3.out.alloc HB3.out.size _ | exact (HB3.out.alloc HB3.out.size _).alloc (le_al HB3.out.size) _ | exact ((HB3.out.alloc HB3.out.size _).alloc (le_al HB3.out.size) _).alloc (le_al (le_al HB3.out.size)) _ | exact HB2.out | exact HB2.out.alloc HB2.out.size _ | exact (HB2.out.alloc HB2.out.size _).alloc (le_al HB2.out.size) _ | exact ((HB2.out.alloc HB2.out.size _).alloc (le_al HB2.out.size) _).alloc (le_al (le_al HB2.out.size)) _ | exact HB1.out | exact HB1.out.alloc HB1.out.size _ | exact (HB1.out.alloc HB1.out.size _).alloc (le_al HB1.out.size) _ | exact ((HB1.out.alloc HB1.out.size _).alloc (le_al HB1.out.size) _).alloc (le_al (le_al HB1.out.size)) _ | exact HB0.out | exact HB0.out.alloc HB0.out.size _ | exact (HB0.out.alloc HB0.out.size _).alloc (le_al HB0.out.size) _ | exact ((HB0.out.alloc HB0.out.size _).alloc (le_al HB0.out.size) _).alloc (le_al (le_al HB0.out.size)) _) (hb7.mono (by (try simp only [World.size_alloc]); (try simp only [size_setCell']); omega)))
  have HN7 := Lib.hid hb7
  clear hb7 hs7
  have HS7 := Lib.hid hs7
  clear hs7
  go_wp2_with fail
  refine (HIB.out _ (by first | exact HB7.out | exact HB7.out.alloc HB7.out.size _ | exact (HB7.out.alloc HB7.out.size _).alloc (le_al HB7.out.size) _ | exact ((HB7.out.alloc HB7.out.size _).alloc (le_al HB7.out.size) _).alloc (le_al (le_al HB7.out.size)) _ | exact HB6.out | exact HB6.out.alloc HB6.out.size _ | exact (HB6.out.alloc HB6.out.size _).alloc (le_al HB6.out.size) _ | exact ((HB6.out.alloc HB6.out.size _).alloc (le_al HB6.out.size) _).alloc (le_al (le_al HB6.out.size)) _ | exact HB5.out | exact HB5.out.alloc HB5.out.size _ | exact (HB5.out.alloc HB5.out.size _).alloc (le_al HB5.out.size) _ | exact ((HB5.out.alloc HB5.out.size _).alloc (le_al HB5.out.size) _).alloc (le_al (le_al HB5.out.size)) _ | exact HB4.out | exact HB4.out.alloc HB4.out.size _ | exact (HB4.out.alloc HB4.out.size _).alloc (le_al HB4.out.size) _ | exact ((HB4.out.alloc HB4.out.size _).alloc (le_al HB4.out.size) _).alloc (le_al (le_al HB4.out.size)) _ | exact HB3.out | exact HB3.out.alloc HB3.out.size _ | exact (HB3.out.alloc HB3.out.size _).alloc (le_al HB3.out.size) _ | exact ((HB3.out.alloc HB3.out.size _).alloc (le_al HB3.out.size) _).alloc (le_al (le_al HB3.out.size)) _ | exact HB2.out | exact HB2.out.alloc HB2.out.size _ | exact (HB2.out.alloc HB2.out.size _).alloc (le_al HB2.out.size) _ | exact ((HB2.out.alloc HB2.out.size _).alloc (le_al HB2.out.size) _).alloc (le_al (le_al HB2.out.size)) _ | exact HB1.out | exact HB1.out.alloc HB1.out.size _ | exact (HB1.out.alloc HB1.out.size _).alloc (le_al HB1.out.size) _ | exact ((HB1.out.alloc HB1.out.size _).alloc (le_al HB1.out.size) _).alloc (le_al (le_al HB1.out.size)) _ | exact HB0.out | exact HB0.out.alloc HB0.out.size _ | exact (HB0.out.alloc HB0.out.size _).alloc (le_al HB0.out.size) _ | exact ((HB0.out.alloc HB0.out.size _).alloc (le_al HB0.out.size) _).alloc (le_al (le_al HB0.out.size)) _)).mono ?_
  rintro e w8 ⟨a8, c8, rfl, hs8, hb8⟩
  obtain ⟨hc8, hf8⟩ := bcell hb8
  have hs8 := hb8.size
  try simp only [World.size_alloc] at hs8
  try simp only [size_setCell'] at hs8
  try have le8_0 : w.heap.size ≤ w8.heap.size := (by omega)
  try have lt8_0 : w.heap.size < w8.heap.size := (by omega)
  try have le8_1 : w1.heap.size ≤ w8.heap.size := (by omega)
  try have lt8_1 : w1.heap.size < w8.heap.size := (by omega)
  try have le8_2 : w2.heap.size ≤ w8.heap.size := (by omega)
  try have lt8_2 : w2.heap.size < w8.heap.size := (by omega)
  try have le8_3 : w3.heap.size ≤ w8.heap.size := (by omega)
  try have lt8_3 : w3.heap.size < w8.heap.size := (by omega)
  try have le8_4 : w4.heap.size ≤ w8.heap.size := (by omega)
  try have lt8_4 : w4.heap.size < w8.heap.size := (by omega)
  try have le8_5 : w5.heap.size ≤ w8.heap.size := (by omega)
  try have lt8_5 : w5.heap.size < w8.heap.size := (by omega)
  try have le8_6 : w6.heap.size ≤ w8.heap.size := (by omega)
  try have lt8_6 : w6.heap.size < w8.heap.size := (by omega)
  try have le8_7 : w7.heap.size ≤ w8.heap.size := (by omega)
  try have lt8_7 : w7.heap.size < w8.heap.size := (by omega)
  have HB8 : Hid (Below w.heap.size w w8) := Lib.hid (Below.trans (by first | exact HB7.out | exact HB7.out.alloc HB7.out.size _ | exact (HB7.out.alloc HB7.out.size _).alloc (le_al HB7.out.size) _ | exact ((HB7.out.alloc HB7.out.size _).alloc (le_al HB7.out.size) _).alloc (le_al (le_al HB7.out.size)) _ | exact HB6.out | exact HB6.out.alloc HB6.out.size _ | exact (HB6.out.alloc HB6.out.size _).alloc (le_al HB6.out.size) _ | exact ((HB6.out.alloc HB6.out.size _).alloc (le_al HB6.out.size) _).alloc (le_al (le_al HB6.out.size)) _ | exact HB5.out | exact HB5.out.alloc HB5.out.size _ | exact (HB5.out.alloc HB5.out.size _).alloc (le_al HB5.out.size) _ | exact ((HB5.out.alloc HB5.out.size _).alloc (le_al HB5.out.size) _).alloc (le_al (le_al HB5.out.size)) _ | exact HB4.out | exact HB4.out.alloc HB4.out.size _ | exact (HB4.out.alloc HB4.out.size _).alloc (le_al HB4.out.size) _ | exact ((HB4.out.alloc HB4.out.size _).alloc (le_al HB4.out.size) _).alloc (le_al (le_al HB4.out.size)) _ | exact HB3.out | exact HB3.out.alloc HB3.out.size _ | exact (HB3.out.alloc HB3.out.size _).alloc (le_al HB3.out.size) _ | exact ((HB3.out.alloc HB3.out.size _).alloc (le_al HB3.out.size) _).alloc (le_al (le_al HB3.out.size)) _ | exact HB2.out | exact HB2.out.alloc HB2.out.size _ | exact (HB2.out.alloc HB2.out.size _).alloc (le_al HB2.out.size) _ | exact ((HB2.out.alloc HB2.out.size _).alloc (le_al HB2.out.size) _).alloc (le_al (le_al HB2.out.size)) _ | exact HB1.out | exact HB1.out.alloc HB1.out.size _ | exact (HB1.out.alloc HB1.out.size _).alloc (le_al HB1.out.size) _ | exact ((HB1.out.alloc HB1.out.size _).alloc (le_al HB1.out.size) _).alloc (le_al (le_al HB1.out.size)) _ | exact HB0.out | exact HB0.out.alloc HB0.out.size _ | exact (HB0.out.alloc HB0.out.size _).alloc (le_al HB0.out.size) _ | exact ((HB0.out.alloc HB0.out.size _).alloc (le_al HB0.out.size) _).alloc (le_al (le_al HB0.out.size)) _) (hb8.mono (by (try simp only [World.size_alloc]); (try simp only [size_setCell']); omega)))
  have HN8 := Lib.hid hb8
  clear hb8 hs8
  have HC9 := Lib.hid (aloneI _ _ a.n b.n _ (HS7.out.below HN8.out) hs8 HL.out.2.1 HL.out.2.2)
  clear hs8
  go_wp2_with fail
  refine (HC9.out).mono ?_
  rintro e w9 ⟨u9, rfl, hs9, hb9⟩
  obtain ⟨hc9, hf9⟩ := bcell hb9
  have hs9 := hb9.size
  try simp only [World.size_alloc] at hs9
  try simp only [size_setCell'] at hs9
  try have le9_0 : w.heap.size ≤ w9.heap.size := (by omega)
  try have lt9_0 : w.heap.size < w9.heap.size := (by omega)
  try have le9_1 : w1.heap.size ≤ w9.heap.size := (by omega)
  try have lt9_1 : w1.heap.size < w9.heap.size := (by omega)
  try have le9_2 : w2.heap.size ≤ w9.heap.size := (by omega)
  try have lt9_2 : w2.heap.size < w9.heap.size := (by omega)
  try have le9_3 : w3.heap.size ≤ w9.heap.size := (by omega)
  try have lt9_3 : w3.heap.size < w9.heap.size := (by omega)
  try have le9_4 : w4.heap.size ≤ w9.heap.size := (by omega)
  try have lt9_4 : w4.heap.size < w9.heap.size := (by omega)
  try have le9_5 : w5.heap.size ≤ w9.heap.size := (by omega)
  try have lt9_5 : w5.heap.size < w9.heap.size := (by omega)
  try have le9_6 : w6.heap.size ≤ w9.heap.size := (by omega)
  try have lt9_6 : w6.heap.size < w9.heap.size := (by omega)
  try have le9_7 : w7.heap.size ≤ w9.heap.size := (by omega)
  try have lt9_7 : w7.heap.size < w9.heap.size := (by omega)
  try have le9_8 : w8.heap.size ≤ w9.heap.size := (by omega)
  try have lt9_8 : w8.heap.size < w9.heap.size := (by omega)
  have HB9 : Hid (Below w.heap.size w w9) := Lib.hid (Below.trans (by first | exact HB8.out | exact HB8.out.alloc HB8.out.size _ | exact (HB8.out.alloc HB8.out.size _).alloc (le_al HB8.out.size) _ | exact ((HB8.out.alloc HB8.out.size _).alloc (le_al HB8.out.size) _).alloc (le_al (le_al HB8.out.size)) _ | exact HB7.out | exact HB7.out.alloc HB7.out.size _ | exact (HB7.out.alloc HB7.out.size _).alloc (le_al HB7.out.size) _ | exact ((HB7.out.alloc HB7.out.size _).alloc (le_al HB7.out.size) _).alloc (le_al (le_al HB7.out.size)) _ | exact HB6.out | exact HB6.out.alloc HB6.out.size _ | exact (HB6.out.alloc HB6.out.size _).alloc (le_al HB6.out.size) _ | exact ((HB6.out.alloc HB6.out.size _).alloc (le_al HB6.out.size) _).alloc (le_al (le_al HB6.out.size)) _ | exact HB5.out | exact HB5.out.alloc HB5.out.size _ | exact (HB5.out.alloc HB5.out.size _).alloc (le_al HB5.out.size) _ | exact ((HB5.out.alloc HB5.out.size _).alloc (le_al HB5.out.size) _).alloc (le_al (le_al HB5.out.size)) _ | exact HB4.out | exact HB4.out.alloc HB4.out.size _ | exact (HB4.out.alloc HB4.out.size _).alloc (le_al HB4.out.size) _ | exact ((HB4.out.alloc HB4.out.size _).alloc (le_al HB4.out.size) _).alloc (le_al (le_al HB4.out.size)) _ | exact HB3.out | exact HB3.out.alloc HB3.out.size _ | exact (HB3.out.alloc HB3.out.size _).alloc (le_al HB3.out.size) _ | exact ((HB3.out.alloc HB3.out.size _).alloc (le_al HB3.out.size) _).alloc (le_al (le_al HB3.out.size)) _ | exact HB2.out | exact HB2.out.alloc HB2.out.size _ | exact (HB2.out.alloc HB2.out.size _).alloc (le_al HB2.out.size) _ | exact ((HB2.out.alloc HB2.out.size _).alloc (le_al HB2.out.size) _).alloc (le_al (le_al HB2.out.size)) _ | exact HB1.out | exact HB1.out.alloc HB1.out.size _ | exact (HB1.out.alloc HB1.out.size _).alloc (le_al HB1.out.size) _ | exact ((HB1.out.alloc HB1.out.size _).alloc (le_al HB1.out.size) _).alloc (le_al (le_al HB1.out.size)) _ | exact HB0.out | exact HB0.out.alloc HB0.out.size _ | exact (HB0.out.alloc HB0.out.size _).alloc (le_al HB0.out.size) _ | exact ((HB0.out.alloc HB0.out.size _).alloc (le_al HB0.out.size) _).alloc (le_al (le_al HB0.out.size)) _) (hb9.mono (by (try simp only [World.size_alloc]); (try simp only [size_setCell']); omega)))
  have HN9 := Lib.hid hb9
  clear hb9 hs9
  have HS9 : Hid (w9.ownsRow w8.heap.size 62 6 u9 (wasOf a b).length ((wasOf a b).flatMap Ino.cells)) := Lib.hid hs9
  clear hs9
  obtain ⟨a9, c9, rfl⟩ := (SlAt.of_row (fun _ => rfl) HS9.out : SlAt w9 6 Ino.cells u9 (wasOf a b)).len
  have HQ : Hid ((w.heap.size < w1.heap.size ∧ w1.heap.size ≤ w2.heap.size ∧ w2.heap.size ≤ w3.heap.size ∧ w3.heap.size ≤ w5.heap.size ∧ w5.heap.size ≤ w6.heap.size ∧ w6.heap.size ≤ w8.heap.size ∧ w8.heap.size ≤ w9.heap.size) ∧
      w9.heap[w.heap.size]? = some (.cells #[.slice none 0 0, .slice none 0 0, .slice none 0 0, .slice none 0 0, .int .i64 0] 44 (0, 0)) ∧ (∀ j, j < w3.heap.size → w9.heap[j]? = w3.heap[j]?) ∧ (∀ j, j < w6.heap.size → w9.heap[j]? = w6.heap[j]?)) := Lib.hid (by
    have z1 := HN1.out.size
    simp only [World.size_alloc] at z1
    have z2 := HN2.out.size
    have z3 := HN3.out.size
    have z4 := HN4.out.size
    have z5 := HN5.out.size
    have z6 := HN6.out.size
    have z7 := HN7.out.size
    have z8 := HN8.out.size
    have z9 := HN9.out.size
    refine ⟨by omega, ?_, ?_, ?_⟩
    · rw [HN9.out.block _ (by omega), HN8.out.block _ (by omega), HN7.out.block _ (by omega), HN6.out.block _ (by omega), HN5.out.block _ (by omega), HN4.out.block _ (by omega), HN3.out.block _ (by omega), HN2.out.block _ (by omega), HN1.out.block _ (by simp only [World.size_alloc]; omega)]
      exact heap_alloc_new _ _
    · intro j hj
      rw [HN9.out.block _ (by omega), HN8.out.block _ (by omega), HN7.out.block _ (by omega), HN6.out.block _ (by omega), HN5.out.block _ (by omega), HN4.out.block _ (by omega)]
    · intro j hj
      rw [HN9.out.block _ (by omega), HN8.out.block _ (by omega), HN7.out.block _ (by omega)])
  go_wp2_with fail
  refine (HIB.out _ (by first | exact HB9.out | exact HB9.out.alloc HB9.out.size _ | exact (HB9.out.alloc HB9.out.size _).alloc (le_al HB9.out.size) _ | exact ((HB9.out.alloc HB9.out.size _).alloc (le_al HB9.out.size) _).alloc (le_al (le_al HB9.out.size)) _ | exact HB8.out | exact HB8.out.alloc HB8.out.size _ | exact (HB8.out.alloc HB8.out.size _).alloc (le_al HB8.out.size) _ | exact ((HB8.out.alloc HB8.out.size _).alloc (le_al HB8.out.size) _).alloc (le_al (le_al HB8.out.size)) _ | exact HB7.out | exact HB7.out.alloc HB7.out.size _ | exact (HB7.out.alloc HB7.out.size _).alloc (le_al HB7.out.size) _ | exact ((HB7.out.alloc HB7.out.size _).alloc (le_al HB7.out.size) _).alloc (le_al (le_al HB7.out.size)) _ | exact HB6.out | exact HB6.out.alloc HB6.out.size _ | exact (HB6.out.alloc HB6.out.size _).alloc (le_al HB6.out.size) _ | exact ((HB6.out.alloc HB6.out.size _).alloc (le_al HB6.out.size) _).alloc (le_al (le_al HB6.out.size)) _ | exact HB5.out | exact HB5.out.alloc HB5.out.size _ | exact (HB5.out.alloc HB5.out.size _).alloc (le_al HB5.out.size) _ | exact ((HB5.out.alloc HB5.out.size _).alloc (le_al HB5.out.size) _).alloc (le_al (le_al HB5.out.size)) _ | exact HB4.out | exact HB4.out.alloc HB4.out.size _ | exact (HB4.out.alloc HB4.out.size _).alloc (le_al HB4.out.size) _ | exact ((HB4.out.alloc HB4.out.size _).alloc (le_al HB4.out.size) _).alloc (le_al (le_al HB4.out.size)) _ | exact HB3.out | exact HB3.out.alloc HB3.out.size _ | exact (HB3.out.alloc HB3.out.size _).alloc (le_al HB3.out.size) _ | exact ((HB3.out.alloc HB3.out.size _).alloc (le_al HB3.out.size) _).alloc (le_al (le_al HB3.out.size)) _ | exact HB2.out | exact HB2.out.alloc HB2.out.size _ | exact (HB2.out.alloc HB2.out.size _).alloc (le_al HB2.out.size) _ | exact ((HB2.out.alloc HB2.out.size _).alloc (le_al HB2.out.size) _).alloc (le_al (le_al HB2.out.size)) _ | exact HB1.out | exact HB1.out.alloc HB1.out.size _ | exact (HB1.out.alloc HB1.out.size _).alloc (le_al HB1.out.size) _ | exact ((HB1.out.alloc HB1.out.size _).alloc (le_al HB1.out.size) _).alloc (le_al (le_al HB1.out.size)) _)).mono ?_
  rintro e w10 ⟨a10, c10, rfl, hs10, hb10⟩
  obtain ⟨hc10, hf10⟩ := bcell hb10
  have hs10 := hb10.size
  try simp only [World.size_alloc] at hs10
  try simp only [size_setCell'] at hs10
  try have le10_0 : w.heap.size ≤ w10.heap.size := (by omega)
  try have lt10_0 : w.heap.size < w10.heap.size := (by omega)
  try have le10_1 : w1.heap.size ≤ w10.heap.size := (by omega)
  try have lt10_1 : w1.heap.size < w10.heap.size := (by omega)
  try have le10_2 : w2.heap.size ≤ w10.heap.size := (by omega)
  try have lt10_2 : w2.heap.size < w10.heap.size := (by omega)
  try have le10_3 : w3.heap.size ≤ w10.heap.size := (by omega)
  try have lt10_3 : w3.heap.size < w10.heap.size := (by omega)
  try have le10_4 : w4.heap.size ≤ w10.heap.size := (by omega)
  try have lt10_4 : w4.heap.size < w10.heap.size := (by omega)
  try have le10_5 : w5.heap.size ≤ w10.heap.size := (by omega)
  try have lt10_5 : w5.heap.size < w10.heap.size := (by omega)
  try have le10_6 : w6.heap.size ≤ w10.heap.size := (by omega)
  try have lt10_6 : w6.heap.size < w10.heap.size := (by omega)
  try have le10_7 : w7.heap.size ≤ w10.heap.size := (by omega)
  try have lt10_7 : w7.heap.size < w10.heap.size := (by omega)
  try have le10_8 : w8.heap.size ≤ w10.heap.size := (by omega)
  try have lt10_8 : w8.heap.size < w10.heap.size := (by omega)
  try have le10_9 : w9.heap.size ≤ w10.heap.size := (by omega)
  try have lt10_9 : w9.heap.size < w10.heap.size := (by omega)
  have HB10 : Hid (Below w.heap.size w w10) := Lib.hid (Below.trans (by first | exact HB9.out | exact HB9.out.alloc HB9.out.size _ | exact (HB9.out.alloc HB9.out.size _).alloc (le_al HB9.out.size) _ | exact ((HB9.out.alloc HB9.out.size _).alloc (le_al HB9.out.size) _).alloc (le_al (le_al HB9.out.size)) _ | exact HB8.out | exact HB8.out.alloc HB8.out.size _ | exact (HB8.out.alloc HB8.out.size _).alloc (le_al HB8.out.size) _ | exact ((HB8.out.alloc HB8.out.size _).alloc (le_al HB8.out.size) _).alloc (le_al (le_al HB8.out.size)) _ | exact HB7.out | exact HB7.out.alloc HB7.out.size _ | exact (HB7.out.alloc HB7.out.size _).alloc (le_al HB7.out.size) _ | exact ((HB7.out.alloc HB7.out.size _).alloc (le_al HB7.out.size) _).alloc (le_al (le_al HB7.out.size)) _ | exact HB6.out | exact HB6.out.alloc HB6.out.size _ | exact (HB6.out.alloc HB6.out.size _).alloc (le_al HB6.out.size) _ | exact ((HB6.out.alloc HB6.out.size _).alloc (le_al HB6.out.size) _).alloc (le_al (le_al HB6.out.size)) _ | exact HB5.out | exact HB5.out.alloc HB5.out.size _ | exact (HB5.out.alloc HB5.out.size _).alloc (le_al HB5.out.size) _ | exact ((HB5.out.alloc HB5.out.size _).alloc (le_al HB5.out.size) _).alloc (le_al (le_al HB5.out.size)) _ | exact HB4.out | exact HB4.out.alloc HB4.out.size _ | exact (HB4.out.alloc HB4.out.size _).alloc (le_al HB4.out.size) _ | exact ((HB4.out.alloc HB4.out.size _).alloc (le_al HB4.out.size) _).alloc (le_al (le_al HB4.out.size)) _ | exact HB3.out | exact HB3.out.alloc HB3.out.size _ | exact (HB3.out.alloc HB3.out.size _).alloc (le_al HB3.out.size) _ | exact ((HB3.out.alloc HB3.out.size _).alloc (le_al HB3.out.size) _).alloc (le_al (le_al HB3.out.size)) _ | exact HB2.out | exact HB2.out.alloc HB2.out.size _ | exact (HB2.out.alloc HB2.out.size _).alloc (le_al HB2.out.size) _ | exact ((HB2.out.alloc HB2.out.size _).alloc (le_al HB2.out.size) _).alloc (le_al (le_al HB2.out.size)) _ | exact HB1.out | exact HB1.out.alloc HB1.out.size _ | exact (HB1.out.alloc HB1.out.size _).alloc (le_al HB1.out.size) _ | exact ((HB1.out.alloc HB1.out.size _).alloc (le_al HB1.out.size) _).alloc (le_al (le_al HB1.out.size)) _) (hb10.mono (by (try simp only [World.size_alloc]); (try simp only [size_setCell']); omega)))
  have HN10 := Lib.hid hb10
  clear hb10 hs10
  have HS10 := Lib.hid hs10
  clear hs10
  go_wp2_with fail
  refine (HIA.out _ (by first | exact HB10.out | exact HB10.out.alloc HB10.out.size _ | exact (HB10.out.alloc HB10.out.size _).alloc (le_al HB10.out.size) _ | exact ((HB10.out.alloc HB10.out.size _).alloc (le_al HB10.out.size) _).alloc (le_al (le_al HB10.out.size)) _ | exact HB9.out | exact HB9.out.alloc HB9.out.size _ | exact (HB9.out.alloc HB9.out.size _).alloc (le_al HB9.out.size) _ | exact ((HB9.out.alloc HB9.out.size _).alloc (le_al HB9.out.size) _).alloc (le_al (le_al HB9.out.size)) _ | exact HB8.out | exact HB8.out.alloc HB8.out.size _ | exact (HB8.out.alloc HB8.out.size _).alloc (le_al HB8.out.size) _ | exact ((HB8.out.alloc HB8.out.size _).alloc (le_al HB8.out.size) _).alloc (le_al (le_al HB8.out.size)) _ | exact HB7.out | exact HB7.out.alloc HB7.out.size _ | exact (HB7.out.alloc HB7.out.size _).alloc (le_al HB7.out.size) _ | exact ((HB7.out.alloc HB7.out.size _).alloc (le_al HB7.out.size) _).alloc (le_al (le_al HB7.out.size)) _ | exact HB6.out | exact HB6.out.alloc HB6.out.size _ | exact (HB6.out.alloc HB6.out.size _).alloc (le_al HB6.out.size) _ | exact ((HB6.out.alloc HB6.out.size _).alloc (le_al HB6.out.size) _).alloc (le_al (le_al HB6.out.size)) _ | exact HB5.out | exact HB5.out.alloc HB5.out.size _ | exact (HB5.out.alloc HB5.out.size _).alloc (le_al HB5.out.size) _ | exact ((HB5.out.alloc HB5.out.size _).alloc (le_al HB5.out.size) _).alloc (le_al (le_al HB5.out.size)) _ | exact HB4.out | exact HB4.out.alloc HB4.out.size _ | exact (HB4.out.alloc HB4.out.size _).alloc (le_al HB4.out.size) _ | exact ((HB4.out.alloc HB4.out.size _).alloc (le_al HB4.out.size) _).alloc (le_al (le_al HB4.out.size)) _ | exact HB3.out | exact HB3.out.alloc HB3.out.size _ | exact (HB3.out.alloc HB3.out.size _).alloc (le_al HB3.out.size) _ | exact ((HB3.out.alloc HB3.out.size _).alloc (le_al HB3.out.size) _).alloc (le_al (le_al HB3.out.size)) _ | exact HB2.out | exact HB2.out.alloc HB2.out.size _ | exact (HB2.out.alloc HB2.out.size _).alloc (le_al HB2.out.size) _ | exact ((HB2.out.alloc HB2.out.size _).alloc (le_al HB2.out.size) _).alloc (le_al (le_al HB2.out.size)) _)).mono ?_
  rintro e w11 ⟨a11, c11, rfl, hs11, hb11⟩
  obtain ⟨hc11, hf11⟩ := bcell hb11
  have hs11 := hb11.size
  try simp only [World.size_alloc] at hs11
  try simp only [size_setCell'] at hs11
  try have le11_0 : w.heap.size ≤ w11.heap.size := (by omega)
  try have lt11_0 : w.heap.size < w11.heap.size := (by omega)
  try have le11_1 : w1.heap.size ≤ w11.heap.size := (by omega)
  try have lt11_1 : w1.heap.size < w11.heap.size := (by omega)
  try have le11_2 : w2.heap.size ≤ w11.heap.size := (by omega)
  try have lt11_2 : w2.heap.size < w11.heap.size := (by omega)
  try have le11_3 : w3.heap.size ≤ w11.heap.size := (by omega)
  try have lt11_3 : w3.heap.size < w11.heap.size := (by omega)
  try have le11_4 : w4.heap.size ≤ w11.heap.size := (by omega)
  try have lt11_4 : w4.heap.size < w11.heap.size := (by omega)
  try have le11_5 : w5.heap.size ≤ w11.heap.size := (by omega)
  try have lt11_5 : w5.heap.size < w11.heap.size := (by omega)
  try have le11_6 : w6.heap.size ≤ w11.heap.size := (by omega)
  try have lt11_6 : w6.heap.size < w11.heap.size := (by omega)
  try have le11_7 : w7.heap.size ≤ w11.heap.size := (by omega)
  try have lt11_7 : w7.heap.size < w11.heap.size := (by omega)
  try have le11_8 : w8.heap.size ≤ w11.heap.size := (by omega)
  try have lt11_8 : w8.heap.size < w11.heap.size := (by omega)
  try have le11_9 : w9.heap.size ≤ w11.heap.size := (by omega)
  try have lt11_9 : w9.heap.size < w11.heap.size := (by omega)
  try have le11_10 : w10.heap.size ≤ w11.heap.size := (by omega)
  try have lt11_10 : w10.heap.size < w11.heap.size := (by omega)
  have HB11 : Hid (Below w.heap.size w w11) := Lib.hid (Below.trans (by first | exact HB10.out | exact HB10.out.alloc HB10.out.size _ | exact (HB10.out.alloc HB10.out.size _).alloc (le_al HB10.out.size) _ | exact ((HB10.out.alloc HB10.out.size _).alloc (le_al HB10.out.size) _).alloc (le_al (le_al HB10.out.size)) _ | exact HB9.out | exact HB9.out.alloc HB9.out.size _ | exact (HB9.out.alloc HB9.out.size _).alloc (le_al HB9.out.size) _ | exact ((HB9.out.alloc HB9.out.size _).alloc (le_al HB9.out.size) _).alloc (le_al (le_al HB9.out.size)) _ | exact HB8.out | exact HB8.out.alloc HB8.out.size _ | exact (HB8.out.alloc HB8.out.size _).alloc (le_al HB8.out.size) _ | exact ((HB8.out.alloc HB8.out.size _).alloc (le_al HB8.out.size) _).alloc (le_al (le_al HB8.out.size)) _ | exact HB7.out | exact HB7.out.alloc HB7.out.size _ | exact (HB7.out.alloc HB7.out.size _).alloc (le_al HB7.out.size) _ | exact ((HB7.out.alloc HB7.out.size _).alloc (le_al HB7.out.size) _).alloc (le_al (le_al HB7.out.size)) _ | exact HB6.out | exact HB6.out.alloc HB6.out.size _ | exact (HB6.out.alloc HB6.out.size _).alloc (le_al HB6.out.size) _ | exact ((HB6.out.alloc HB6.out.size _).alloc (le_al HB6.out.size) _).alloc (le_al (le_al HB6.out.size)) _ | exact HB5.out | exact HB5.out.alloc HB5.out.size _ | exact (HB5.out.alloc HB5.out.size _).alloc (le_al HB5.out.size) _ | exact ((HB5.out.alloc HB5.out.size _).alloc (le_al HB5.out.size) _).alloc (le_al (le_al HB5.out.size)) _ | exact HB4.out | exact HB4.out.alloc HB4.out.size _ | exact (HB4.out.alloc HB4.out.size _).alloc (le_al HB4.out.size) _ | exact ((HB4.out.alloc HB4.out.size _).alloc (le_al HB4.out.size) _).alloc (le_al (le_al HB4.out.size)) _ | exact HB3.out | exact HB3.out.alloc HB3.out.size _ | exact (HB3.out.alloc HB3.out.size _).alloc (le_al HB3.out.size) _ | exact ((HB3.out.alloc HB3.out.size _).alloc (le_al HB3.out.size) _).alloc (le_al (le_al HB3.out.size)) _ | exact HB2.out | exact HB2.out.alloc HB2.out.size _ | exact (HB2.out.alloc HB2.out.size _).alloc (le_al HB2.out.size) _ | exact ((HB2.out.alloc HB2.out.size _).alloc (le_al HB2.out.size) _).alloc (le_al (le_al HB2.out.size)) _) (hb11.mono (by (try simp only [World.size_alloc]); (try simp only [size_setCell']); omega)))
  have HN11 := Lib.hid hb11
  clear hb11 hs11
  have HC12 := Lib.hid (aloneN _ _ b.n a.n _ (HS10.out.below HN11.out) hs11 HL.out.2.2 HL.out.2.1)
  clear hs11
  go_wp2_with fail
  refine (HC12.out).mono ?_
  rintro e w12 ⟨u12, rfl, hs12, hb12⟩
  obtain ⟨hc12, hf12⟩ := bcell hb12
  have hs12 := hb12.size
  try simp only [World.size_alloc] at hs12
  try simp only [size_setCell'] at hs12
  try have le12_0 : w.heap.size ≤ w12.heap.size := (by omega)
  try have lt12_0 : w.heap.size < w12.heap.size := (by omega)
  try have le12_1 : w1.heap.size ≤ w12.heap.size := (by omega)
  try have lt12_1 : w1.heap.size < w12.heap.size := (by omega)
  try have le12_2 : w2.heap.size ≤ w12.heap.size := (by omega)
  try have lt12_2 : w2.heap.size < w12.heap.size := (by omega)
  try have le12_3 : w3.heap.size ≤ w12.heap.size := (by omega)
  try have lt12_3 : w3.heap.size < w12.heap.size := (by omega)
  try have le12_4 : w4.heap.size ≤ w12.heap.size := (by omega)
  try have lt12_4 : w4.heap.size < w12.heap.size := (by omega)
  try have le12_5 : w5.heap.size ≤ w12.heap.size := (by omega)
  try have lt12_5 : w5.heap.size < w12.heap.size := (by omega)
  try have le12_6 : w6.heap.size ≤ w12.heap.size := (by omega)
  try have lt12_6 : w6.heap.size < w12.heap.size := (by omega)
  try have le12_7 : w7.heap.size ≤ w12.heap.size := (by omega)
  try have lt12_7 : w7.heap.size < w12.heap.size := (by omega)
  try have le12_8 : w8.heap.size ≤ w12.heap.size := (by omega)
  try have lt12_8 : w8.heap.size < w12.heap.size := (by omega)
  try have le12_9 : w9.heap.size ≤ w12.heap.size := (by omega)
  try have lt12_9 : w9.heap.size < w12.heap.size := (by omega)
  try have le12_10 : w10.heap.size ≤ w12.heap.size := (by omega)
  try have lt12_10 : w10.heap.size < w12.heap.size := (by omega)
  try have le12_11 : w11.heap.size ≤ w12.heap.size := (by omega)
  try have lt12_11 : w11.heap.size < w12.heap.size := (by omega)
  have HB12 : Hid (Below w.heap.size w w12) := Lib.hid (Below.trans (by first | exact HB11.out | exact HB11.out.alloc HB11.out.size _ | exact (HB11.out.alloc HB11.out.size _).alloc (le_al HB11.out.size) _ | exact ((HB11.out.alloc HB11.out.size _).alloc (le_al HB11.out.size) _).alloc (le_al (le_al HB11.out.size)) _ | exact HB10.out | exact HB10.out.alloc HB10.out.size _ | exact (HB10.out.alloc HB10.out.size _).alloc (le_al HB10.out.size) _ | exact ((HB10.out.alloc HB10.out.size _).alloc (le_al HB10.out.size) _).alloc (le_al (le_al HB10.out.size)) _ | exact HB9.out | exact HB9.out.alloc HB9.out.size _ | exact (HB9.out.alloc HB9.out.size _).alloc (le_al HB9.out.size) _ | exact ((HB9.out.alloc HB9.out.size _).alloc (le_al HB9.out.size) _).alloc (le_al (le_al HB9.out.size)) _ | exact HB8.out | exact HB8.out.alloc HB8.out.size _ | exact (HB8.out.alloc HB8.out.size _).alloc (le_al HB8.out.size) _ | exact ((HB8.out.alloc HB8.out.size _).alloc (le_al HB8.out.size) _).alloc (le_al (le_al HB8.out.size)) _ | exact HB7.out | exact HB7.out.alloc HB7.out.size _ | exact (HB7.out.alloc HB7.out.size _).alloc (le_al HB7.out.size) _ | exact ((HB7.out.alloc HB7.out.size _).alloc (le_al HB7.out.size) _).alloc (le_al (le_al HB7.out.size)) _ | exact HB6.out | exact HB6.out.alloc HB6.out.size _ | exact (HB6.out.alloc HB6.out.size _).alloc (le_al HB6.out.size) _ | exact ((HB6.out.alloc HB6.out.size _).alloc (le_al HB6.out.size) _).alloc (le_al (le_al HB6.out.size)) _ | exact HB5.out | exact HB5.out.alloc HB5.out.size _ | exact (HB5.out.alloc HB5.out.size _).alloc (le_al HB5.out.size) _ | exact ((HB5.out.alloc HB5.out.size _).alloc (le_al HB5.out.size) _).alloc (le_al (le_al HB5.out.size)) _ | exact HB4.out | exact HB4.out.alloc HB4.out.size _ | exact (HB4.out.alloc HB4.out.size _).alloc (le_al HB4.out.size) _ | exact ((HB4.out.alloc HB4.out.size _).alloc (le_al HB4.out.size) _).alloc (le_al (le_al HB4.out.size)) _ | exact HB3.out | exact HB3.out.alloc HB3.out.size _ | exact (HB3.out.alloc HB3.out.size _).alloc (le_al HB3.out.size) _ | exact ((HB3.out.alloc HB3.out.size _).alloc (le_al HB3.out.size) _).alloc (le_al (le_al HB3.out.size)) _) (hb12.mono (by (try simp only [World.size_alloc]); (try simp only [size_setCell']); omega)))
  have HN12 := Lib.hid hb12
  clear hb12 hs12
  have HS12 := Lib.hid hs12
  clear hs12
  generalize hG : alone b.n a.n (fun x y => decide (x.id = y.id)) = L at *
  have HLL : Hid (newOf a b = L.map (·.id)) := Lib.hid (by unfold newOf; rw [hG])
  have HLN : Hid (L.length ≤ 1000) := Lib.hid (by rw [← hG]; have := alone_len b.n a.n (fun x y => decide (x.id = y.id)); have := HL.out; omega)
  clear hG
  have hlen12 := (SlAt.of_row (fun _ => rfl) HS12.out : SlAt w12 6 Ino.cells u12 L).len
  obtain ⟨a12, c12, rfl⟩ := hlen12
  have HR0 : Hid (w12.heap[w9.heap.size]? = some (.cells #[.slice a3 (lostOf a b).length c3, .slice a6 (lostOf b a).length c6, .slice a9 (wasOf a b).length c9, .slice none 0 0, .int .i64 0] 44 (0, 0))) := Lib.hid (by
    have z9 := HN10.out.size
    have z10 := HN11.out.size
    simp only [World.size_alloc] at z9
    rw [HN12.out.block _ (by omega), HN11.out.block _ (by omega), HN10.out.block _ (by simp only [World.size_alloc]; omega)]
    exact heap_alloc_new _ _)
  have HZ : Hid (w9.heap.size + 1 ≤ w11.heap.size ∧ w11.heap.size ≤ w12.heap.size ∧ w.heap.size ≤ w9.heap.size ∧ w.heap.size < w9.heap.size) := Lib.hid (by
    have z9 := HN10.out.size
    have z10 := HN11.out.size
    have z11 := HN12.out.size
    have z0 := HB9.out.size
    have z1 := HN1.out.size
    simp only [World.size_alloc] at z9 z1
    have z2 := HN2.out.size
    have z3 := HN3.out.size
    have z4 := HN4.out.size
    have z5 := HN5.out.size
    have z6 := HN6.out.size
    have z7 := HN7.out.size
    have z8 := HN8.out.size
    have z99 := HN9.out.size
    omega)
  have HW9 : Hid (Below w9.heap.size w9 w12) := Lib.hid (by
    have z9 := HN10.out.size
    have z10 := HN11.out.size
    simp only [World.size_alloc] at z9
    exact (((Below.refl _ w9).alloc (Nat.le_refl _) _).trans (HN10.out.mono (by simp only [World.size_alloc]; omega))).trans ((HN11.out.mono (by omega)).trans (HN12.out.mono (by omega))))
  have HLS : Hid (∀ W, (∀ j, j < w12.heap.size → j ≠ w9.heap.size → W.heap[j]? = w12.heap[j]?) → SlAt W 6 Ino.cells (.slice a12 L.length c12) L) := Lib.hid fun W hW => SlAt.of_row (fun _ => rfl) (ownsRow_kept2 HS12.out fun j h1 h2 => hW j h2 (by have := HZ.out; omega))
  go_wp2
  go_loopg [30] L.length (fun gg s30 wr => ∃ i : Nat, s30 = .int .i64 i ∧ i ≤ L.length ∧ L.length - i ≤ gg ∧ Aside (∀ j, j < w12.heap.size → j ≠ w9.heap.size → wr.heap[j]? = w12.heap[j]?) ∧ Aside (Below w9.heap.size w9 wr ∧ w12.heap.size ≤ wr.heap.size) ∧ Aside (∃ v, wr.heap[w9.heap.size]? = some (.cells #[.slice a3 (lostOf a b).length c3, .slice a6 (lostOf b a).length c6, .slice a9 (wasOf a b).length c9, v, .int .i64 0] 44 (0, 0)) ∧ wr.ownsRow w12.heap.size 31 2 v i (((L.take i).map (·.id)).flatMap St.cells)))
  case atStart => exact ⟨0, rfl, Nat.zero_le _, by omega, (show Aside _ from fun j _ _ => rfl), (show Aside _ from ⟨HW9.out, Nat.le_refl _⟩), (show Aside _ from ⟨_, HR0.out, World.ownsRow_nil _ _ _ _⟩)⟩
  case round =>
    obtain ⟨i, rfl, hil, hgg, hK, hB, hR⟩ := hrel
    have hi0 : (0 : Int) ≤ (i : Int) := by omega
    have hwi : IntKind.i64.wrap ((i : Int) + 1) = (i : Int) + 1 := wrapNat (i + 1) (by have := HLN.out; omega)
    obtain ⟨v, hR1, hR2⟩ := hR.out
    obtain ⟨sa, sn, sc, rfl⟩ := row_shape hR2
    have HRV := Lib.hid hR1
    have HRW := Lib.hid hR2
    obtain ⟨k0, k1, k2, k3, k4⟩ := rec_cells hR1
    have hl9 : w9.heap.size < wr.heap.size := by have := HZ.out; have := hB.out.2; omega
    clear hR1 hR2
    by_cases hlt : i < L.length
    · have hlti : (i : Int) < (L.length : Int) := by omega
      obtain ⟨bb, off, rfl, hbl, hcells⟩ := slAt_at (HLS.out wr hK.out) hlt
      obtain ⟨x0, x1, x2, x3, x4, x5⟩ := cellsIno hcells i hlt
      have HT : Hid ((L.take (i + 1)).map (·.id) = (L.take i).map (·.id) ++ [(L[i]!).id]) := Lib.hid (by rw [List.take_succ_eq_append_getElem hlt, List.map_append, ← getElem!_pos L i hlt]; rfl)
      have HKV : Hid (i ≤ 1000) := Lib.hid (by have := HLN.out; omega)
      clear hcells
      generalize L[i]! = x at x0 x1 x2 x3 x4 x5 HT
      go_wp2_with (at_builtin; refine wpList_append_own _ rfl _ _ 22 rfl w12.heap.size 31 i0 _ 2 16 Tryz.underlying22 hinf hz0 hz1 hz2 rfl (by decide) _ _ _ rfl ((HRW.out.alloc _).alloc _) ⟨wr.heap.size + 1, 0, none⟩ 1 1 x.id.cells rfl rfl (cells_new' wr x.id _) (by intro u hu; simp [St.cells] at hu; rcases hu with rfl | rfl <;> rfl) (by have := HKV.out; simp only [maxLen]; omega) (by have := HKV.out; omega) (by have := hB.out.2; simp only [World.size_alloc]; omega) ?_; intro v' w5 hown' hgrow _; obtain ⟨ta, tn, tc, rfl⟩ := row_shape hown'; have HO := Lib.hid hown'; have HG := Lib.hid hgrow; have hk5 : ∀ j, j < w12.heap.size → w5.heap[j]? = wr.heap[j]? := (fun j hj => by
          have hge := fun j (hj : (Value.slice sa sn sc).ownBlock = some j) => rowGe HRW.out hj
          have hz3 := hB.out.2
          rw [hgrow.block j (by simp only [World.size_alloc]; omega) (fun ej => by have := hge j ej.symm; omega)]
          rw [Below.heap_alloc _ _ _ (by simp only [World.size_alloc]; omega), Below.heap_alloc _ _ _ (by omega)]); have HK5 := Lib.hid hk5; have HR5 : Hid (w5.heap[w9.heap.size]? = some (.cells #[.slice a3 (lostOf a b).length c3, .slice a6 (lostOf b a).length c6, .slice a9 (wasOf a b).length c9, .slice sa sn sc, .int .i64 0] 44 (0, 0))) := Lib.hid ((hk5 _ (by have := HZ.out; omega)).trans HRV.out); obtain ⟨m0, m1, m2, m3, m4⟩ := rec_cells HR5.out; have fr3 : w5.frozen? ⟨w9.heap.size, 3, none⟩ = false := frozen_at HR5.out 3; have hl5 : w9.heap.size < w5.heap.size := (by have := hgrow.size; simp only [World.size_alloc] at this; omega); clear hown' hgrow hk5)
      go_roundg (L.length - (i + 1))
      case measure => omega
      case rel =>
        have hz3 := hB.out.2
        have hzz := HZ.out
        have hs5 : wr.heap.size ≤ w5.heap.size := by have := HG.out.size; simp only [World.size_alloc] at this; omega
        refine ⟨i + 1, by first | rfl | go_num, by omega, by omega, (show Aside _ from fun j hj hne => ?_), (show Aside _ from ⟨?_, ?_⟩), (show Aside _ from ⟨_, heap_setCell_at HR5.out 3 _, ?_⟩)⟩
        · rw [Below.heap_setCell _ _ _ _ hne, HK5.out j hj]; exact hK.out j hj hne
        · refine Below.setCell (p := ⟨w9.heap.size, 3, none⟩) ?_ (Nat.le_refl _) _
          refine ((hB.out.1.alloc hB.out.1.size _).alloc (le_al hB.out.1.size) _).grown HG.out (by have := hB.out.1.size; simp only [World.size_alloc]; omega) (fun j ej => by have := rowGe HRW.out ej; omega)
        · rw [size_setCell']; omega
        · refine ownsRow_setCell_below ?_ (by show w9.heap.size < w12.heap.size; omega) _
          have h := HO.out
          rw [HT.out]
          exact (by simpa using h : w5.ownsRow w12.heap.size 31 2 (.slice ta tn tc) (i + 1) (((L.take i).map (·.id) ++ [x.id]).flatMap St.cells))
    · have hlti : ¬ (i : Int) < (L.length : Int) := by omega
      obtain rfl : i = L.length := by omega
      have HW4 : Hid (wr.heap[w.heap.size]? = some (.cells #[.slice none 0 0, .slice none 0 0, .slice none 0 0, .slice none 0 0, .int .i64 0] 44 (0, 0))) := Lib.hid ((hB.out.1.block _ (by have := HQ.out.1; omega)).trans HQ.out.2.1)
      obtain ⟨n0, n1, n2, n3, n4⟩ := rec_cells HW4.out
      have f0 := frozen_at HW4.out 0
      have f1 := frozen_at HW4.out 1
      have f2 := frozen_at HW4.out 2
      have f3 := frozen_at HW4.out 3
      have f4 := frozen_at HW4.out 4
      have hl4 : w.heap.size < wr.heap.size := by have := HQ.out.1; omega
      go_wp2
      obtain ⟨W5, hW5⟩ : ∃ W5, W5 = ((((wr.setCell ⟨w.heap.size, 0, none⟩ (.slice a3 (lostOf a b).length c3)).setCell ⟨w.heap.size, 1, none⟩ (.slice a6 (lostOf b a).length c6)).setCell ⟨w.heap.size, 2, none⟩ (.slice a9 (wasOf a b).length c9)).setCell ⟨w.heap.size, 3, none⟩ (.slice sa sn sc)).setCell ⟨w.heap.size, 4, none⟩ (.int .i64 0) := ⟨_, rfl⟩
      rw [← hW5]
      have HO5 : Hid (∀ j, j ≠ w.heap.size → W5.heap[j]? = wr.heap[j]?) := Lib.hid fun j hj => by
        rw [hW5, Below.heap_setCell _ _ _ j hj, Below.heap_setCell _ _ _ j hj, Below.heap_setCell _ _ _ j hj, Below.heap_setCell _ _ _ j hj, Below.heap_setCell _ _ _ j hj]
      have h5 : W5.heap[w.heap.size]? = some (.cells #[.slice a3 (lostOf a b).length c3, .slice a6 (lostOf b a).length c6, .slice a9 (wasOf a b).length c9, .slice sa sn sc, .int .i64 0] 44 (0, 0)) := by
        rw [hW5]
        exact heap_setCell_at (heap_setCell_at (heap_setCell_at (heap_setCell_at (heap_setCell_at HW4.out 0 _) 1 _) 2 _) 3 _) 4 _
      have HB5 : Hid (Below w.heap.size w W5) := Lib.hid (by
        rw [hW5]
        have h := HB9.out.trans (hB.out.1.mono HB9.out.size)
        exact Below.setCell (p := ⟨w.heap.size, 4, none⟩) (Below.setCell (p := ⟨w.heap.size, 3, none⟩) (Below.setCell (p := ⟨w.heap.size, 2, none⟩) (Below.setCell (p := ⟨w.heap.size, 1, none⟩) (Below.setCell (p := ⟨w.heap.size, 0, none⟩) h (Nat.le_refl _) _) (Nat.le_refl _) _) (Nat.le_refl _) _) (Nat.le_refl _) _) (Nat.le_refl _) _)
      obtain ⟨o0, o1, o2, o3, o4⟩ := rec_cells h5
      have hl5 : w.heap.size < W5.heap.size := (Array.getElem?_eq_some_iff.1 h5).1
      have HF : Hid (RecAt w.heap.size W5 (.slice a3 (lostOf a b).length c3) (.slice a6 (lostOf b a).length c6) (.slice a9 (wasOf a b).length c9) (.slice sa sn sc) (diffOf a b)) := Lib.hid (by
        have hq := HQ.out
        have hz := HZ.out
        have hb := hB.out
        refine ⟨ownsRow_mono (ownsRow_kept2 HS3.out fun j h1 h2 => ?_) (by omega), ownsRow_mono (ownsRow_kept2 HS6.out fun j h1 h2 => ?_) (by omega), ownsRow_mono (ownsRow_kept2 HS9.out fun j h1 h2 => ?_) (by omega), ?_⟩
        · rw [HO5.out j (by omega), hb.1.block j (by omega)]; exact hq.2.2.1 j h2
        · rw [HO5.out j (by omega), hb.1.block j (by omega)]; exact hq.2.2.2 j h2
        · rw [HO5.out j (by omega), hb.1.block j (by omega)]
        · show W5.ownsRow w.heap.size 31 2 (.slice sa sn sc) (newOf a b).length ((newOf a b).flatMap St.cells)
          rw [HLL.out, List.length_map]
          have hr := HRW.out
          rw [List.take_length] at hr
          exact ownsRow_mono (ownsRow_kept2 hr fun j h1 h2 => HO5.out j (by omega)) (by omega))
      clear hW5
      (try simp only [Exit.inBlock, Exit.then])
      refine bodyPost_ret (results_cell_row rfl _ _ w.heap.size 44 _ _ _ rfl h5 Tryz.underlying44 rfl (by kernel_rfl)) rfl ?_
      exact ⟨_, _, _, _, rfl, HF.out, HB5.out⟩
end Go.Proofs.YtlokljaeknmdpaaGreat

/-! ## UndoC -/
namespace Go.Proofs.YtlokljaeknmdpaaGreat
open Go.RowKit Go.Shelf Go.Proofs

set_option maxRecDepth 100000 in
set_option maxHeartbeats 4000000 in
theorem undo_any (gb mI mE : Nat) (g : Gr) (o : Op) (w : World) (h : GrAt w gb mI mE g) (hok : g.Ok) (ht : g.Thin) (hs : o.Small) :
    Calls Tryz.prog 26 #[.pointer (some ⟨gb, 0, none⟩), o.v] w fun e w' => ∃ v1 v2 v3 v4, e = .returned (.agg #[v1, v2, v3, v4, .int .i64 (g.opWhy o)]) ∧ RecAt w.heap.size w' v1 v2 v3 v4 (diffOf g (g.apply o)) ∧ GrAt w' gb mI mE (g.apply o) ∧ Turn (Maps2 mI mE) w w' := by
  obtain ⟨W0, hW0⟩ : ∃ W0, W0 = ((w.alloc (.cells #[.int .i64 o.stamp.t, .int .i64 o.stamp.r, .int .i64 o.kind, .int .i64 o.at_.t, .int .i64 o.at_.r, .int .i64 o.ino.t, .int .i64 o.ino.r, .int .i64 o.to.t, .int .i64 o.to.r, .string o.name, .string o.new, .int .i64 o.off, .string o.data] 47)).alloc (.cells #[.slice none 0 0, .slice none 0 0, .slice none 0 0, .slice none 0 0, .int .i64 0] 44)) := ⟨_, rfl⟩
  have HN0 : Hid (New w W0) := Lib.hid (by rw [hW0]; exact ((New.refl w).alloc _).alloc _)
  have HZ0 : Hid (W0.heap.size = w.heap.size + 2 ∧ gb < w.heap.size ∧ mI < w.heap.size ∧ mE < w.heap.size) := Lib.hid ⟨by rw [hW0]; simp only [World.size_alloc], h.lt.1, h.lt.2.1, h.lt.2.2⟩
  have HR0 : Hid (W0.heap[w.heap.size + 1]? = some (.cells #[.slice none 0 0, .slice none 0 0, .slice none 0 0, .slice none 0 0, .int .i64 0] 44 (0, 0))) := Lib.hid (by rw [hW0]; exact heap_alloc2_new _ _ _)
  have HJ : Hid (∀ S W, Turn S W0 W → (W.cell? ⟨w.heap.size, 0, none⟩ = some (.int .i64 o.stamp.t) ∧ W.cell? ⟨w.heap.size, 1, none⟩ = some (.int .i64 o.stamp.r) ∧ W.cell? ⟨w.heap.size, 2, none⟩ = some (.int .i64 o.kind) ∧ W.cell? ⟨w.heap.size, 3, none⟩ = some (.int .i64 o.at_.t) ∧ W.cell? ⟨w.heap.size, 4, none⟩ = some (.int .i64 o.at_.r) ∧ W.cell? ⟨w.heap.size, 5, none⟩ = some (.int .i64 o.ino.t) ∧ W.cell? ⟨w.heap.size, 6, none⟩ = some (.int .i64 o.ino.r) ∧ W.cell? ⟨w.heap.size, 7, none⟩ = some (.int .i64 o.to.t) ∧ W.cell? ⟨w.heap.size, 8, none⟩ = some (.int .i64 o.to.r) ∧ W.cell? ⟨w.heap.size, 9, none⟩ = some (.string o.name) ∧ W.cell? ⟨w.heap.size, 10, none⟩ = some (.string o.new) ∧ W.cell? ⟨w.heap.size, 11, none⟩ = some (.int .i64 o.off) ∧ W.cell? ⟨w.heap.size, 12, none⟩ = some (.string o.data) ∧ w.heap.size < W.heap.size)) := Lib.hid (by rw [hW0]; exact fun S W hW => ⟨(hW.cell ⟨_, 0, none⟩ (by simp only [World.size_alloc]; omega)).trans (Lib.cell?_alloc_some _ (cell_new w _ rfl _ _ 0 _ rfl)), (hW.cell ⟨_, 1, none⟩ (by simp only [World.size_alloc]; omega)).trans (Lib.cell?_alloc_some _ (cell_new w _ rfl _ _ 1 _ rfl)), (hW.cell ⟨_, 2, none⟩ (by simp only [World.size_alloc]; omega)).trans (Lib.cell?_alloc_some _ (cell_new w _ rfl _ _ 2 _ rfl)), (hW.cell ⟨_, 3, none⟩ (by simp only [World.size_alloc]; omega)).trans (Lib.cell?_alloc_some _ (cell_new w _ rfl _ _ 3 _ rfl)), (hW.cell ⟨_, 4, none⟩ (by simp only [World.size_alloc]; omega)).trans (Lib.cell?_alloc_some _ (cell_new w _ rfl _ _ 4 _ rfl)), (hW.cell ⟨_, 5, none⟩ (by simp only [World.size_alloc]; omega)).trans (Lib.cell?_alloc_some _ (cell_new w _ rfl _ _ 5 _ rfl)), (hW.cell ⟨_, 6, none⟩ (by simp only [World.size_alloc]; omega)).trans (Lib.cell?_alloc_some _ (cell_new w _ rfl _ _ 6 _ rfl)), (hW.cell ⟨_, 7, none⟩ (by simp only [World.size_alloc]; omega)).trans (Lib.cell?_alloc_some _ (cell_new w _ rfl _ _ 7 _ rfl)), (hW.cell ⟨_, 8, none⟩ (by simp only [World.size_alloc]; omega)).trans (Lib.cell?_alloc_some _ (cell_new w _ rfl _ _ 8 _ rfl)), (hW.cell ⟨_, 9, none⟩ (by simp only [World.size_alloc]; omega)).trans (Lib.cell?_alloc_some _ (cell_new w _ rfl _ _ 9 _ rfl)), (hW.cell ⟨_, 10, none⟩ (by simp only [World.size_alloc]; omega)).trans (Lib.cell?_alloc_some _ (cell_new w _ rfl _ _ 10 _ rfl)), (hW.cell ⟨_, 11, none⟩ (by simp only [World.size_alloc]; omega)).trans (Lib.cell?_alloc_some _ (cell_new w _ rfl _ _ 11 _ rfl)), (hW.cell ⟨_, 12, none⟩ (by simp only [World.size_alloc]; omega)).trans (Lib.cell?_alloc_some _ (cell_new w _ rfl _ _ 12 _ rfl)), by have := hW.size; simp only [World.size_alloc] at this; omega⟩)
  have HG0 : Hid (GrAt W0 gb mI mE g) := Lib.hid (h.new HN0.out)
  have HOK := Lib.hid hok
  have HTH := Lib.hid ht
  have HSM := Lib.hid hs
  have HOK' : Hid (g.apply o).Ok := Lib.hid (hok.apply o)
  clear h hok ht hs
  unfold Op.v
  have HT0 : Hid (Turn (fun _ => False) W0 W0) := Lib.hid (Turn.refl _ _)
  obtain ⟨_, _, _, _, _, _, _, _, _, _, _, _, _, _⟩ := HJ.out _ _ HT0.out
  go_enter Tryz.func26, Tryz.ntmps26
  go_wp2_with fail
  rw [← hW0]
  have HW0 := Lib.hid hW0
  clear hW0
  go_wp2_with fail
  refine ((HG0.out.reads HOK.out (by have := HOK.out.few; omega)).copy W0 (Below.refl _ _)).mono ?_
  rintro e w1 ⟨vh, rfl, ⟨hb, nI, nE, rfl, hH, p1, p2, p3⟩, hb1⟩
  have HAP : Hid (gb < hb ∧ gb < nI ∧ gb < nE ∧ mI < hb ∧ mI < nI ∧ mI < nE ∧ mE < hb ∧ mE < nI ∧ mE < nE) := Lib.hid (by have := HG0.out.lt; omega)
  have HH1 := Lib.hid hH
  have HG1 := Lib.hid (HG0.out.below hb1)
  have HB1 := Lib.hid hb1
  obtain ⟨_, _, _, _, _, _, _, _, _, _, _, _, _, _⟩ := HJ.out _ _ (Below.turn' hb1 (fun _ => False))
  clear hH p1 p2 p3 hb1
  go_wp2_with fail
  refine (apply_any gb mI mE g o w1 HG1.out HOK.out HTH.out HSM.out).mono ?_
  rintro e w2 ⟨rfl, hG2, hT2⟩
  have HH2 := Lib.hid (HH1.out.turn hT2 (fun hq => by have := HAP.out; rcases hq with hq | hq <;> omega) (fun hq => by have := HAP.out; rcases hq with hq | hq <;> omega) (fun hq => by have := HAP.out; rcases hq with hq | hq <;> omega))
  have HG2 := Lib.hid hG2
  have HT2 := Lib.hid hT2
  clear hG2 hT2
  generalize hr0 : g.opWhy o = r
  have HR00 := Lib.hid hr0
  clear hr0
  generalize hA : g.apply o = G' at *
  have HA := Lib.hid hA
  clear hA
  go_wp2_with fail
  refine (diff_any hb gb g G' w2 HOK.out HOK'.out (HH2.out.reads HOK.out (by have := HOK.out.few; omega)) (HG2.out.reads HOK'.out (by have := HOK'.out.few; omega))).mono ?_
  rintro e w3 ⟨v1, v2, v3, v4, rfl, hr, hb3⟩
  obtain ⟨a1, n1, c1, rfl⟩ := row_shape hr.1
  obtain ⟨a2, n2, c2, rfl⟩ := row_shape hr.2.1
  obtain ⟨a3, n3, c3, rfl⟩ := row_shape hr.2.2.1
  obtain ⟨a4, n4, c4, rfl⟩ := row_shape hr.2.2.2
  have HRC := Lib.hid hr
  have HB3 := Lib.hid hb3
  have HQ : Hid (w.heap.size + 2 ≤ w1.heap.size ∧ w1.heap.size ≤ w2.heap.size ∧ w2.heap.size ≤ w3.heap.size) := Lib.hid ⟨by have := HB1.out.size; have := HZ0.out; omega, HT2.out.size, hb3.size⟩
  have HR3 : Hid (w3.heap[w.heap.size + 1]? = some (.cells #[.slice none 0 0, .slice none 0 0, .slice none 0 0, .slice none 0 0, .int .i64 0] 44 (0, 0))) := Lib.hid (by
    have hq := HQ.out
    have hz := HZ0.out
    rw [hb3.block _ (by omega), HT2.out.block _ (by omega) (fun hq => by rcases hq with hq | hq <;> omega), HB1.out.block _ (by omega)]
    exact HR0.out)
  obtain ⟨n0', n1', n2', n3', n4'⟩ := rec_cells HR3.out
  have f0 := frozen_at HR3.out 0
  have f1 := frozen_at HR3.out 1
  have f2 := frozen_at HR3.out 2
  have f3 := frozen_at HR3.out 3
  have f4 := frozen_at HR3.out 4
  have hl1 : w.heap.size + 1 < w3.heap.size := by have := HQ.out; omega
  have hl2 : w.heap.size + 1 ≠ w3.heap.size := by omega
  have hl3 : w3.heap.size ≠ w.heap.size + 1 := by omega
  clear hr hb3
  go_wp2
  obtain ⟨W4, hW4⟩ : ∃ W4, W4 = (((((w3.setCell ⟨w.heap.size + 1, 0, none⟩ (.slice a1 n1 c1)).setCell ⟨w.heap.size + 1, 1, none⟩ (.slice a2 n2 c2)).setCell ⟨w.heap.size + 1, 2, none⟩ (.slice a3 n3 c3)).setCell ⟨w.heap.size + 1, 3, none⟩ (.slice a4 n4 c4)).setCell ⟨w.heap.size + 1, 4, none⟩ (.int .i64 r)) := ⟨_, rfl⟩
  rw [← hW4]
  have hz4 : W4.heap.size = w3.heap.size := by rw [hW4]; simp only [size_setCell']
  have ho4 : ∀ j, j ≠ w.heap.size + 1 → W4.heap[j]? = w3.heap[j]? := fun j hj => by
    rw [hW4, Below.heap_setCell _ _ _ j hj, Below.heap_setCell _ _ _ j hj, Below.heap_setCell _ _ _ j hj, Below.heap_setCell _ _ _ j hj, Below.heap_setCell _ _ _ j hj]
  have h4 : W4.heap[w.heap.size + 1]? = some (.cells #[.slice a1 n1 c1, .slice a2 n2 c2, .slice a3 n3 c3, .slice a4 n4 c4, .int .i64 r] 44 (0, 0)) := by
    rw [hW4]
    exact heap_setCell_at (heap_setCell_at (heap_setCell_at (heap_setCell_at (heap_setCell_at HR3.out 0 _) 1 _) 2 _) 3 _) 4 _
  have hg4 : GrAt W4 gb mI mE G' := by
    have hz := HZ0.out
    have h := HG2.out.below HB3.out
    rw [hW4]
    have s : ∀ {W : World} (k : Nat) (v : Value), GrAt W gb mI mE G' → GrAt (W.setCell ⟨w.heap.size + 1, k, none⟩ v) gb mI mE G' := fun k v h => h.setCell (by show gb ≠ w.heap.size + 1; omega) (by show mI ≠ w.heap.size + 1; omega) (by show mE ≠ w.heap.size + 1; omega) v
    exact s _ _ (s _ _ (s _ _ (s _ _ (s _ _ h))))
  have ht4 : Turn (Maps2 mI mE) w W4 := by
    have h : Turn (Maps2 mI mE) w w3 := ((HN0.out.turn _).trans (Below.turn' HB1.out _)).trans (HT2.out.trans (Below.turn' HB3.out _))
    rw [hW4]
    have s : ∀ {W : World} (k : Nat) (v : Value), Turn (Maps2 mI mE) w W → Turn (Maps2 mI mE) w (W.setCell ⟨w.heap.size + 1, k, none⟩ v) := fun k v h => h.setCell (by show w.heap.size ≤ w.heap.size + 1; omega) v
    exact s _ _ (s _ _ (s _ _ (s _ _ (s _ _ h))))
  clear hW4
  obtain ⟨W5, hW5⟩ : ∃ W5, W5 = W4.alloc (.cells #[.slice a1 n1 c1, .slice a2 n2 c2, .slice a3 n3 c3, .slice a4 n4 c4, .int .i64 r] 44) := ⟨_, rfl⟩
  rw [← hW5]
  have hN5 : New W4 W5 := by rw [hW5]; exact (New.refl W4).alloc _
  have h5 : W5.heap[w.heap.size + 1]? = some (.cells #[.slice a1 n1 c1, .slice a2 n2 c2, .slice a3 n3 c3, .slice a4 n4 c4, .int .i64 r] 44 (0, 0)) := by
    rw [hN5.block _ (by omega)]; exact h4
  have hq := HQ.out
  (try simp only [Exit.inBlock, Exit.then])
  refine bodyPost_ret (results_cell_row rfl _ _ (w.heap.size + 1) 44 _ _ _ rfl h5 Tryz.underlying44 rfl (by kernel_rfl)) rfl ?_
  refine ⟨_, _, _, _, by rw [HR00.out], ?_, ?_, ht4.trans (hN5.turn _)⟩
  · rw [HA.out]
    exact (HRC.out.kept fun j h1 h2 => (hN5.block j (by omega)).trans (ho4 j (by omega))).mono (by omega)
  · rw [HA.out]
    exact hg4.new hN5
end Go.Proofs.YtlokljaeknmdpaaGreat
