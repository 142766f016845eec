/-
  What the laws of chapter 12 share: few, made, same; conditions: texts within reach. · The example at the head of the laws of chapter 12; and what all records have. · A slice's first elements; no condition but their number.
-/
import Derived.Test.YtlokljaeknmdpaaGreatQApG
import Derived.Test.YtlokljaeknmdpaaGreatKDeed
import Derived.Test.YtlokljaeknmdpaaGreatQOpenO
import Derived.Test.YtlokljaeknmdpaaGreatKUndoA
import Derived.Test.YtlokljaeknmdpaaGreatKOps
import Derived.Test.YtlokljaeknmdpaaGreatQSl
/-! ## L12 -/
namespace Go.Proofs.YtlokljaeknmdpaaGreat.L12
open Go.RowKit Go.Shelf Go.Proofs

theorem ret_bool {a b : Bool} (h : a = b) : Ending.returned (.bool a) = .returned (.bool b) := by rw [h]
theorem cellsOp {w : World} {zs : List Op} {b off : Nat} (hc : ∀ j, j < zs.length → ∀ i u, (Op.cells zs[j]!)[i]? = some u → w.cell? ⟨b, off + j * 13 + i, none⟩ = some u) (j : Nat) (hj : j < zs.length) :
    w.cell? ⟨b, off + j * 13, none⟩ = some (.int .i64 zs[j]!.stamp.t) ∧ w.cell? ⟨b, off + j * 13 + 1, none⟩ = some (.int .i64 zs[j]!.stamp.r) ∧ w.cell? ⟨b, off + j * 13 + 2, none⟩ = some (.int .i64 zs[j]!.kind) ∧ w.cell? ⟨b, off + j * 13 + 3, none⟩ = some (.int .i64 zs[j]!.at_.t) ∧ w.cell? ⟨b, off + j * 13 + 4, none⟩ = some (.int .i64 zs[j]!.at_.r) ∧
      w.cell? ⟨b, off + j * 13 + 5, none⟩ = some (.int .i64 zs[j]!.ino.t) ∧ w.cell? ⟨b, off + j * 13 + 6, none⟩ = some (.int .i64 zs[j]!.ino.r) ∧ w.cell? ⟨b, off + j * 13 + 7, none⟩ = some (.int .i64 zs[j]!.to.t) ∧ w.cell? ⟨b, off + j * 13 + 8, none⟩ = some (.int .i64 zs[j]!.to.r) ∧ w.cell? ⟨b, off + j * 13 + 9, none⟩ = some (.string zs[j]!.name) ∧
      w.cell? ⟨b, off + j * 13 + 10, none⟩ = some (.string zs[j]!.new) ∧ w.cell? ⟨b, off + j * 13 + 11, none⟩ = some (.int .i64 zs[j]!.off) ∧ w.cell? ⟨b, off + j * 13 + 12, none⟩ = some (.string zs[j]!.data) :=
  ⟨hc j hj 0 _ rfl, hc j hj 1 _ rfl, hc j hj 2 _ rfl, hc j hj 3 _ rfl, hc j hj 4 _ rfl, hc j hj 5 _ rfl, hc j hj 6 _ rfl, hc j hj 7 _ rfl, hc j hj 8 _ rfl, hc j hj 9 _ rfl, hc j hj 10 _ rfl, hc j hj 11 _ rfl, hc j hj 12 _ rfl⟩

set_option maxRecDepth 100000 in
set_option maxHeartbeats 1000000 in
theorem few_any (v : Value) (l : List Op) (w : World) (h : SlAt w 13 Op.cells v l) : Calls Tryz.prog 25 #[v] w fun x w' => x = .returned (.bool (decide (l.length ≤ 60))) ∧ w' = w := by
  obtain ⟨a, c, rfl⟩ := h.len
  clear h
  have e : decide (l.length ≤ 60) = decide ((l.length : Int) ≤ 60) := by rw [decide_eq_decide]; omega
  rw [e]
  clear e
  go_enter Tryz.func25, Tryz.ntmps25
  go_wp2
  go_ret
  exact ⟨rfl, rfl⟩

set_option maxRecDepth 100000 in
set_option maxHeartbeats 2000000 in
theorem made_any (v : Value) (l : List Op) (w : World) (h : SlAt w 13 Op.cells v l) (hn : ∀ o ∈ l, o.Small) (hl : l.length ≤ 1000) : Calls Tryz.prog 30 #[v] w (MadeGr w (ran l)) := by
  have HSL : Hid (∀ W, Below w.heap.size w W → SlAt W 13 Op.cells v l) := Lib.hid fun W hW => h.below hW
  obtain ⟨va, vc, rfl⟩ := h.len
  have HNM := Lib.hid hn
  clear h hn
  go_enter Tryz.func30, Tryz.ntmps30
  go_wp2_with fail
  refine (new_g w).mono ?_
  rintro e w2 ⟨v, rfl, ⟨gb, mI, mE, rfl, hG, h1, h2, h3⟩, hb⟩
  have HG := Lib.hid hG
  have HB2 := Lib.hid hb
  have HM : Hid (w.heap.size ≤ gb ∧ w.heap.size ≤ mI ∧ w.heap.size ≤ mE) := Lib.hid ⟨h1, h2, h3⟩
  clear hG hb h1 h2 h3
  go_wp2
  go_loopg [4] l.length (fun gg s4 wr => ∃ i : Nat, s4 = .int .i64 i ∧ i ≤ l.length ∧ l.length - i ≤ gg ∧ Aside (GrAt wr gb mI mE (ran (l.take i))) ∧ Aside (Below w.heap.size w wr))
  case atStart => exact ⟨0, rfl, Nat.zero_le _, by omega, (show Aside _ from HG.out), (show Aside _ from HB2.out)⟩
  case round =>
    obtain ⟨i, rfl, hil, hgg, hG, hB⟩ := hrel
    have hi0 : (0 : Int) ≤ (i : Int) := by omega
    have hwi : IntKind.i64.wrap ((i : Int) + 1) = (i : Int) + 1 := wrapNat (i + 1) (by omega)
    by_cases hlt : i < l.length
    · have hlti : (i : Int) < (l.length : Int) := by omega
      obtain ⟨bb, off, rfl, hbl, hcells⟩ : ∃ b off, va = some ⟨b, off, none⟩ ∧ b < wr.heap.size ∧ ∀ j, j < l.length → ∀ i u, (Op.cells l[j]!)[i]? = some u → wr.cell? ⟨b, off + j * 13 + i, none⟩ = some u := by
        rcases HSL.out wr hB.out with ⟨_, _, _, h0⟩ | ⟨b, off, c', h0, _, _, h3, h4⟩
        · rw [h0] at hlt; exact absurd hlt (Nat.not_lt_zero _)
        · simp at h0; exact ⟨b, off, h0.1, h3, h4⟩
      obtain ⟨x0, x1, x2, x3, x4, x5, x6, x7, x8, x9, x10, x11, x12⟩ := cellsOp hcells i hlt
      have hdo := apply_any gb mI mE (ran (l.take i)) l[i]! wr hG.out (ran_ok _) (ran_thin _) (HNM.out _ (getElem!_mem hlt))
      have HST := Lib.hid (ran_step l i hlt)
      clear hcells
      unfold Op.v at hdo
      generalize l[i]! = x at x0 x1 x2 x3 x4 x5 x6 x7 x8 x9 x10 x11 x12 hdo HST
      generalize ran (l.take i) = G at hdo HST
      have HDO := Lib.hid hdo
      clear hdo
      go_wp2_with (go_at_call 40; refine HDO.out.mono ?_; rintro e w3 ⟨rfl, hG3, hT3⟩; have HG3 := Lib.hid hG3; have HT3 := Lib.hid hT3; clear hG3 hT3)
      go_roundg (l.length - (i + 1))
      case measure => omega
      case rel => exact ⟨i + 1, by first | rfl | go_num, by omega, by omega, (show Aside _ from by rw [HST.out]; exact HG3.out), (show Aside _ from hB.out.trans (own_below HT3.out HM.out.2.1 HM.out.2.2 hB.out.size))⟩
    · have hie : i = l.length := by omega
      have HGF : Hid (GrAt wr gb mI mE (ran l)) := Lib.hid (by have := hG.out; rw [hie, List.take_length] at this; exact this)
      have hlti : ¬ (i : Int) < (l.length : Int) := by omega
      clear hie hlt
      go_wp2
      go_ret
      exact ⟨_, rfl, ⟨gb, mI, mE, rfl, HGF.out, HM.out.1, HM.out.2.1, HM.out.2.2⟩, hB.out⟩

set_option maxRecDepth 100000 in
set_option maxHeartbeats 2000000 in
theorem same_any (gb hb : Nat) (g : Gr) (w : World) (hok : g.Ok) (h1 : Reads gb g w) (h2 : Reads hb g w) : Calls Tryz.prog 29 #[.pointer (some ⟨gb, 0, none⟩), .pointer (some ⟨hb, 0, none⟩)] w fun e w' => e = .returned (.bool true) ∧ Below w.heap.size w w' := by
  have HB0 : Hid (Below w.heap.size w w) := Lib.hid (Below.refl _ _)
  have HI1 := Lib.hid (fun W (hW : Below w.heap.size w W) => h1.inodes W hW)
  have HI2 := Lib.hid (fun W (hW : Below w.heap.size w W) => h2.inodes W hW)
  have HE1 := Lib.hid (fun W (hW : Below w.heap.size w W) => h1.entries W hW)
  have HE2 := Lib.hid (fun W (hW : Below w.heap.size w W) => h2.entries W hW)
  have HL : Hid (g.n.length ≤ 100000 ∧ g.e.length ≤ 100000) := Lib.hid ⟨by have := hok.len; omega, by have := hok.few; omega⟩
  clear h1 h2 hok
  go_enter Tryz.func29, Tryz.ntmps29
  go_wp2_with fail
  refine (HI1.out _ (by first | exact HB0.out | exact HB0.out.alloc HB0.out.size _ | exact (HB0.out.alloc HB0.out.size _).alloc (le_al HB0.out.size) _ | exact ((HB0.out.alloc HB0.out.size _).alloc (le_al HB0.out.size) _).alloc (le_al (le_al HB0.out.size)) _)).mono ?_
  rintro e w1 ⟨a1, c1, rfl, hs1, hb1⟩
  obtain ⟨hc1, hf1⟩ := bcell hb1
  have hs1 := hb1.size
  try simp only [World.size_alloc] at hs1
  try simp only [size_setCell'] at hs1
  try have le1_0 : w.heap.size ≤ w1.heap.size := (by omega)
  try have lt1_0 : w.heap.size < w1.heap.size := (by omega)
  have HB1 : Hid (Below w.heap.size w w1) := Lib.hid (Below.trans (by first | exact HB0.out | exact HB0.out.alloc HB0.out.size _ | exact (HB0.out.alloc HB0.out.size _).alloc (le_al HB0.out.size) _ | exact ((HB0.out.alloc HB0.out.size _).alloc (le_al HB0.out.size) _).alloc (le_al (le_al HB0.out.size)) _) (hb1.mono (by (try simp only [World.size_alloc]); (try simp only [size_setCell']); omega)))
  have HN1 := Lib.hid hb1
  clear hb1 hs1
  have HS1 := Lib.hid hs1
  clear hs1
  go_wp2_with fail
  refine (HI2.out _ (by first | exact HB1.out | exact HB1.out.alloc HB1.out.size _ | exact (HB1.out.alloc HB1.out.size _).alloc (le_al HB1.out.size) _ | exact ((HB1.out.alloc HB1.out.size _).alloc (le_al HB1.out.size) _).alloc (le_al (le_al HB1.out.size)) _ | exact HB0.out | exact HB0.out.alloc HB0.out.size _ | exact (HB0.out.alloc HB0.out.size _).alloc (le_al HB0.out.size) _ | exact ((HB0.out.alloc HB0.out.size _).alloc (le_al HB0.out.size) _).alloc (le_al (le_al HB0.out.size)) _)).mono ?_
  rintro e w2 ⟨a2, c2, rfl, hs2, hb2⟩
  obtain ⟨hc2, hf2⟩ := bcell hb2
  have hs2 := hb2.size
  try simp only [World.size_alloc] at hs2
  try simp only [size_setCell'] at hs2
  try have le2_0 : w.heap.size ≤ w2.heap.size := (by omega)
  try have lt2_0 : w.heap.size < w2.heap.size := (by omega)
  try have le2_1 : w1.heap.size ≤ w2.heap.size := (by omega)
  try have lt2_1 : w1.heap.size < w2.heap.size := (by omega)
  have HB2 : Hid (Below w.heap.size w w2) := Lib.hid (Below.trans (by first | exact HB1.out | exact HB1.out.alloc HB1.out.size _ | exact (HB1.out.alloc HB1.out.size _).alloc (le_al HB1.out.size) _ | exact ((HB1.out.alloc HB1.out.size _).alloc (le_al HB1.out.size) _).alloc (le_al (le_al HB1.out.size)) _ | exact HB0.out | exact HB0.out.alloc HB0.out.size _ | exact (HB0.out.alloc HB0.out.size _).alloc (le_al HB0.out.size) _ | exact ((HB0.out.alloc HB0.out.size _).alloc (le_al HB0.out.size) _).alloc (le_al (le_al HB0.out.size)) _) (hb2.mono (by (try simp only [World.size_alloc]); (try simp only [size_setCell']); omega)))
  have HN2 := Lib.hid hb2
  clear hb2 hs2
  have HN3 := Lib.hid (nodes_same _ _ g.n g.n _ (HS1.out.below HN2.out) hs2 HL.out.1)
  clear hs2
  go_wp2_with fail
  refine (HN3.out).mono ?_
  rintro e w3 ⟨b3, rfl, hb3, hb3⟩
  obtain ⟨hc3, hf3⟩ := bcell hb3
  have hs3 := hb3.size
  try simp only [World.size_alloc] at hs3
  try simp only [size_setCell'] at hs3
  try have le3_0 : w.heap.size ≤ w3.heap.size := (by omega)
  try have lt3_0 : w.heap.size < w3.heap.size := (by omega)
  try have le3_1 : w1.heap.size ≤ w3.heap.size := (by omega)
  try have lt3_1 : w1.heap.size < w3.heap.size := (by omega)
  try have le3_2 : w2.heap.size ≤ w3.heap.size := (by omega)
  try have lt3_2 : w2.heap.size < w3.heap.size := (by omega)
  have HB3 : Hid (Below w.heap.size w w3) := Lib.hid (Below.trans (by first | exact HB2.out | exact HB2.out.alloc HB2.out.size _ | exact (HB2.out.alloc HB2.out.size _).alloc (le_al HB2.out.size) _ | exact ((HB2.out.alloc HB2.out.size _).alloc (le_al HB2.out.size) _).alloc (le_al (le_al HB2.out.size)) _ | exact HB1.out | exact HB1.out.alloc HB1.out.size _ | exact (HB1.out.alloc HB1.out.size _).alloc (le_al HB1.out.size) _ | exact ((HB1.out.alloc HB1.out.size _).alloc (le_al HB1.out.size) _).alloc (le_al (le_al HB1.out.size)) _ | exact HB0.out | exact HB0.out.alloc HB0.out.size _ | exact (HB0.out.alloc HB0.out.size _).alloc (le_al HB0.out.size) _ | exact ((HB0.out.alloc HB0.out.size _).alloc (le_al HB0.out.size) _).alloc (le_al (le_al HB0.out.size)) _) (hb3.mono (by (try simp only [World.size_alloc]); (try simp only [size_setCell']); omega)))
  have HN3 := Lib.hid hb3
  clear hb3 hs3
  obtain rfl := hb3 rfl
  go_wp2_with fail
  refine (HE1.out _ (by first | exact HB3.out | exact HB3.out.alloc HB3.out.size _ | exact (HB3.out.alloc HB3.out.size _).alloc (le_al HB3.out.size) _ | exact ((HB3.out.alloc HB3.out.size _).alloc (le_al HB3.out.size) _).alloc (le_al (le_al HB3.out.size)) _ | exact HB2.out | exact HB2.out.alloc HB2.out.size _ | exact (HB2.out.alloc HB2.out.size _).alloc (le_al HB2.out.size) _ | exact ((HB2.out.alloc HB2.out.size _).alloc (le_al HB2.out.size) _).alloc (le_al (le_al HB2.out.size)) _ | exact HB1.out | exact HB1.out.alloc HB1.out.size _ | exact (HB1.out.alloc HB1.out.size _).alloc (le_al HB1.out.size) _ | exact ((HB1.out.alloc HB1.out.size _).alloc (le_al HB1.out.size) _).alloc (le_al (le_al HB1.out.size)) _ | exact HB0.out | exact HB0.out.alloc HB0.out.size _ | exact (HB0.out.alloc HB0.out.size _).alloc (le_al HB0.out.size) _ | exact ((HB0.out.alloc HB0.out.size _).alloc (le_al HB0.out.size) _).alloc (le_al (le_al HB0.out.size)) _)).mono ?_
  rintro e w4 ⟨a4, c4, rfl, hs4, hb4⟩
  obtain ⟨hc4, hf4⟩ := bcell hb4
  have hs4 := hb4.size
  try simp only [World.size_alloc] at hs4
  try simp only [size_setCell'] at hs4
  try have le4_0 : w.heap.size ≤ w4.heap.size := (by omega)
  try have lt4_0 : w.heap.size < w4.heap.size := (by omega)
  try have le4_1 : w1.heap.size ≤ w4.heap.size := (by omega)
  try have lt4_1 : w1.heap.size < w4.heap.size := (by omega)
  try have le4_2 : w2.heap.size ≤ w4.heap.size := (by omega)
  try have lt4_2 : w2.heap.size < w4.heap.size := (by omega)
  try have le4_3 : w3.heap.size ≤ w4.heap.size := (by omega)
  try have lt4_3 : w3.heap.size < w4.heap.size := (by omega)
  have HB4 : Hid (Below w.heap.size w w4) := Lib.hid (Below.trans (by first | exact HB3.out | exact HB3.out.alloc HB3.out.size _ | exact (HB3.out.alloc HB3.out.size _).alloc (le_al HB3.out.size) _ | exact ((HB3.out.alloc HB3.out.size _).alloc (le_al HB3.out.size) _).alloc (le_al (le_al HB3.out.size)) _ | exact HB2.out | exact HB2.out.alloc HB2.out.size _ | exact (HB2.out.alloc HB2.out.size _).alloc (le_al HB2.out.size) _ | exact ((HB2.out.alloc HB2.out.size _).alloc (le_al HB2.out.size) _).alloc (le_al (le_al HB2.out.size)) _ | exact HB1.out | exact HB1.out.alloc HB1.out.size _ | exact (HB1.out.alloc HB1.out.size _).alloc (le_al HB1.out.size) _ | exact ((HB1.out.alloc HB1.out.size _).alloc (le_al HB1.out.size) _).alloc (le_al (le_al HB1.out.size)) _ | exact HB0.out | exact HB0.out.alloc HB0.out.size _ | exact (HB0.out.alloc HB0.out.size _).alloc (le_al HB0.out.size) _ | exact ((HB0.out.alloc HB0.out.size _).alloc (le_al HB0.out.size) _).alloc (le_al (le_al HB0.out.size)) _) (hb4.mono (by (try simp only [World.size_alloc]); (try simp only [size_setCell']); omega)))
  have HN4 := Lib.hid hb4
  clear hb4 hs4
  have HS4 := Lib.hid hs4
  clear hs4
  go_wp2_with fail
  refine (HE2.out _ (by first | exact HB4.out | exact HB4.out.alloc HB4.out.size _ | exact (HB4.out.alloc HB4.out.size _).alloc (le_al HB4.out.size) _ | exact ((HB4.out.alloc HB4.out.size _).alloc (le_al HB4.out.size) _).alloc (le_al (le_al HB4.out.size)) _ | exact HB3.out | exact HB3.out.alloc HB3.out.size _ | exact (HB3.out.alloc HB3.out.size _).alloc (le_al HB3.out.size) _ | exact ((HB3.out.alloc HB3.out.size _).alloc (le_al HB3.out.size) _).alloc (le_al (le_al HB3.out.size)) _ | exact HB2.out | exact HB2.out.alloc HB2.out.size _ | exact (HB2.out.alloc HB2.out.size _).alloc (le_al HB2.out.size) _ | exact ((HB2.out.alloc HB2.out.size _).alloc (le_al HB2.out.size) _).alloc (le_al (le_al HB2.out.size)) _ | exact HB1.out | exact HB1.out.alloc HB1.out.size _ | exact (HB1.out.alloc HB1.out.size _).alloc (le_al HB1.out.size) _ | exact ((HB1.out.alloc HB1.out.size _).alloc (le_al HB1.out.size) _).alloc (le_al (le_al HB1.out.size)) _ | exact HB0.out | exact HB0.out.alloc HB0.out.size _ | exact (HB0.out.alloc HB0.out.size _).alloc (le_al HB0.out.size) _ | exact ((HB0.out.alloc HB0.out.size _).alloc (le_al HB0.out.size) _).alloc (le_al (le_al HB0.out.size)) _)).mono ?_
  rintro e w5 ⟨a5, c5, rfl, hs5, hb5⟩
  obtain ⟨hc5, hf5⟩ := bcell hb5
  have hs5 := hb5.size
  try simp only [World.size_alloc] at hs5
  try simp only [size_setCell'] at hs5
  try have le5_0 : w.heap.size ≤ w5.heap.size := (by omega)
  try have lt5_0 : w.heap.size < w5.heap.size := (by omega)
  try have le5_1 : w1.heap.size ≤ w5.heap.size := (by omega)
  try have lt5_1 : w1.heap.size < w5.heap.size := (by omega)
  try have le5_2 : w2.heap.size ≤ w5.heap.size := (by omega)
  try have lt5_2 : w2.heap.size < w5.heap.size := (by omega)
  try have le5_3 : w3.heap.size ≤ w5.heap.size := (by omega)
  try have lt5_3 : w3.heap.size < w5.heap.size := (by omega)
  try have le5_4 : w4.heap.size ≤ w5.heap.size := (by omega)
  try have lt5_4 : w4.heap.size < w5.heap.size := (by omega)
  have HB5 : Hid (Below w.heap.size w w5) := Lib.hid (Below.trans (by first | exact HB4.out | exact HB4.out.alloc HB4.out.size _ | exact (HB4.out.alloc HB4.out.size _).alloc (le_al HB4.out.size) _ | exact ((HB4.out.alloc HB4.out.size _).alloc (le_al HB4.out.size) _).alloc (le_al (le_al HB4.out.size)) _ | exact HB3.out | exact HB3.out.alloc HB3.out.size _ | exact (HB3.out.alloc HB3.out.size _).alloc (le_al HB3.out.size) _ | exact ((HB3.out.alloc HB3.out.size _).alloc (le_al HB3.out.size) _).alloc (le_al (le_al HB3.out.size)) _ | exact HB2.out | exact HB2.out.alloc HB2.out.size _ | exact (HB2.out.alloc HB2.out.size _).alloc (le_al HB2.out.size) _ | exact ((HB2.out.alloc HB2.out.size _).alloc (le_al HB2.out.size) _).alloc (le_al (le_al HB2.out.size)) _ | exact HB1.out | exact HB1.out.alloc HB1.out.size _ | exact (HB1.out.alloc HB1.out.size _).alloc (le_al HB1.out.size) _ | exact ((HB1.out.alloc HB1.out.size _).alloc (le_al HB1.out.size) _).alloc (le_al (le_al HB1.out.size)) _ | exact HB0.out | exact HB0.out.alloc HB0.out.size _ | exact (HB0.out.alloc HB0.out.size _).alloc (le_al HB0.out.size) _ | exact ((HB0.out.alloc HB0.out.size _).alloc (le_al HB0.out.size) _).alloc (le_al (le_al HB0.out.size)) _) (hb5.mono (by (try simp only [World.size_alloc]); (try simp only [size_setCell']); omega)))
  have HN5 := Lib.hid hb5
  clear hb5 hs5
  have HN6 := Lib.hid (entries_same _ _ g.e g.e _ (HS4.out.below HN5.out) hs5 HL.out.2)
  clear hs5
  go_wp2_with fail
  refine (HN6.out).mono ?_
  rintro e w6 ⟨b6, rfl, hb6, hb6⟩
  obtain ⟨hc6, hf6⟩ := bcell hb6
  have hs6 := hb6.size
  try simp only [World.size_alloc] at hs6
  try simp only [size_setCell'] at hs6
  try have le6_0 : w.heap.size ≤ w6.heap.size := (by omega)
  try have lt6_0 : w.heap.size < w6.heap.size := (by omega)
  try have le6_1 : w1.heap.size ≤ w6.heap.size := (by omega)
  try have lt6_1 : w1.heap.size < w6.heap.size := (by omega)
  try have le6_2 : w2.heap.size ≤ w6.heap.size := (by omega)
  try have lt6_2 : w2.heap.size < w6.heap.size := (by omega)
  try have le6_3 : w3.heap.size ≤ w6.heap.size := (by omega)
  try have lt6_3 : w3.heap.size < w6.heap.size := (by omega)
  try have le6_4 : w4.heap.size ≤ w6.heap.size := (by omega)
  try have lt6_4 : w4.heap.size < w6.heap.size := (by omega)
  try have le6_5 : w5.heap.size ≤ w6.heap.size := (by omega)
  try have lt6_5 : w5.heap.size < w6.heap.size := (by omega)
  have HB6 : Hid (Below w.heap.size w w6) := Lib.hid (Below.trans (by first | exact HB5.out | exact HB5.out.alloc HB5.out.size _ | exact (HB5.out.alloc HB5.out.size _).alloc (le_al HB5.out.size) _ | exact ((HB5.out.alloc HB5.out.size _).alloc (le_al HB5.out.size) _).alloc (le_al (le_al HB5.out.size)) _ | exact HB4.out | exact HB4.out.alloc HB4.out.size _ | exact (HB4.out.alloc HB4.out.size _).alloc (le_al HB4.out.size) _ | exact ((HB4.out.alloc HB4.out.size _).alloc (le_al HB4.out.size) _).alloc (le_al (le_al HB4.out.size)) _ | exact HB3.out | exact HB3.out.alloc HB3.out.size _ | exact (HB3.out.alloc HB3.out.size _).alloc (le_al HB3.out.size) _ | exact ((HB3.out.alloc HB3.out.size _).alloc (le_al HB3.out.size) _).alloc (le_al (le_al HB3.out.size)) _ | exact HB2.out | exact HB2.out.alloc HB2.out.size _ | exact (HB2.out.alloc HB2.out.size _).alloc (le_al HB2.out.size) _ | exact ((HB2.out.alloc HB2.out.size _).alloc (le_al HB2.out.size) _).alloc (le_al (le_al HB2.out.size)) _ | exact HB1.out | exact HB1.out.alloc HB1.out.size _ | exact (HB1.out.alloc HB1.out.size _).alloc (le_al HB1.out.size) _ | exact ((HB1.out.alloc HB1.out.size _).alloc (le_al HB1.out.size) _).alloc (le_al (le_al HB1.out.size)) _ | exact HB0.out | exact HB0.out.alloc HB0.out.size _ | exact (HB0.out.alloc HB0.out.size _).alloc (le_al HB0.out.size) _ | exact ((HB0.out.alloc HB0.out.size _).alloc (le_al HB0.out.size) _).alloc (le_al (le_al HB0.out.size)) _) (hb6.mono (by (try simp only [World.size_alloc]); (try simp only [size_setCell']); omega)))
  have HN6 := Lib.hid hb6
  clear hb6 hs6
  obtain rfl := hb6 rfl
  go_wp2
  go_ret
  exact ⟨rfl, (by first | exact HB6.out | exact HB6.out.alloc HB6.out.size _ | exact (HB6.out.alloc HB6.out.size _).alloc (le_al HB6.out.size) _ | exact ((HB6.out.alloc HB6.out.size _).alloc (le_al HB6.out.size) _).alloc (le_al (le_al HB6.out.size)) _)⟩
end Go.Proofs.YtlokljaeknmdpaaGreat.L12

/-! ## L12S -/
namespace Go.Proofs.YtlokljaeknmdpaaGreat.L12
open Go.RowKit Go.Shelf Go.Proofs

theorem name_small' {s : ByteArray} (h : nameOk s = true) : s.size ≤ maxLen := by
  unfold nameOk at h
  simp only [Bool.and_eq_true, decide_eq_true_eq] at h
  unfold maxLen; omega
theorem diff_small {a b : Gr} (ha : a.Ok) (hb : b.Ok) : ((diffOf a b).lost.length ≤ 1000 ∧ (diffOf a b).made.length ≤ 1000 ∧ (diffOf a b).was.length ≤ 1000 ∧ (diffOf a b).new.length ≤ 1000) ∧ ∀ x ∈ (diffOf a b).lost, x.name.size ≤ maxLen := by
  have h1 := ha.few
  have h2 := hb.few
  have h3 := ha.len
  have h4 := hb.len
  refine ⟨⟨Nat.le_trans (alone_len _ _ _) (by omega), Nat.le_trans (alone_len _ _ _) (by omega), Nat.le_trans (alone_len _ _ _) (by omega), ?_⟩, fun x hx => name_small' (ha.names x (mem_lost.1 hx).1)⟩
  show (newOf a b).length ≤ 1000
  unfold newOf; rw [List.length_map]; exact Nat.le_trans (alone_len _ _ _) (by omega)

def shO1 : Op := ⟨⟨1, 0⟩, 2, ⟨0, 0⟩, ⟨0, 0⟩, ⟨0, 0⟩, ⟨#[102]⟩, ⟨#[]⟩, 0, ⟨#[]⟩⟩
theorem shW1 : Gr.new.opWhy shO1 = 0 := by kernel_rfl
theorem shL1 : (Gr.new.apply shO1).n.length = 2 := by kernel_rfl
theorem shM1 : (diffOf Gr.new (Gr.new.apply shO1)).made.length = 1 := by kernel_rfl
theorem shN1 : (diffOf Gr.new (Gr.new.apply shO1)).new.length = 1 := by kernel_rfl
theorem shK1 : Gr.new.n.length = 1 := by kernel_rfl
theorem shK2 : Gr.new.e.length = 0 := by kernel_rfl
theorem shB1 : (Gr.new.apply shO1).back (diffOf Gr.new (Gr.new.apply shO1)) = Gr.new := Gr.Ok.new.back_apply shO1
theorem shSm1 : shO1.Small := by unfold Op.Small shO1 reachBytes; decide

set_option maxRecDepth 100000 in
set_option maxHeartbeats 2000000 in
theorem shown_any (w : World) : Calls Tryz.prog 24 #[] w fun x w' => x = .returned (.bool true) ∧ Below w.heap.size w w' := by
  go_enter Tryz.func24, Tryz.ntmps24
  go_wp2_with fail
  refine (new_g w).mono ?_
  rintro e w1 ⟨v, rfl, ⟨gb, mI, mE, rfl, hG, h1, h2, h3⟩, hb⟩
  have HB1 := Lib.hid hb
  have HLT := Lib.hid hG.lt
  have HD1 := Lib.hid (undo_any gb mI mE Gr.new shO1 w1 hG Gr.Ok.new Gr.Thin.new shSm1)
  clear hG hb
  go_wp2_with fail
  refine HD1.out.mono ?_
  rintro e w2 ⟨v1, v2, v3, v4, rfl, hr, hG, hT⟩
  rw [shW1]
  have hok := Gr.Ok.new.apply shO1
  have HSM := Lib.hid (diff_small Gr.Ok.new hok)
  have hM := shM1
  have hN := shN1
  have HBK := Lib.hid shB1
  have HLL := Lib.hid shL1
  generalize diffOf Gr.new (Gr.new.apply shO1) = d at hr hM hN HSM HBK
  generalize Gr.new.apply shO1 = G1 at hG hok HBK HLL
  have e1 : ((d.made.length : Int) == 1) = true := by rw [hM]; rfl
  have e2 : ((d.new.length : Int) == 1) = true := by rw [hN]; rfl
  clear hM hN
  obtain ⟨a1, c1, rfl⟩ := hr.sl.1.len
  obtain ⟨a2, c2, rfl⟩ := hr.sl.2.1.len
  obtain ⟨a3, c3, rfl⟩ := hr.sl.2.2.1.len
  obtain ⟨a4, c4, rfl⟩ := hr.sl.2.2.2.len
  have HB2 := Lib.hid (HB1.out.trans (own_below hT h2 h3 HB1.out.size))
  have HRC := Lib.hid hr
  have HG2 := Lib.hid hG
  have HOK := Lib.hid hok
  have HI := Lib.hid (hG.reads hok (by have := hok.few; omega))
  have HZ2 := Lib.hid hT.size
  have HBX : Hid (∀ S W, Turn S (w2.alloc (.cells #[.slice a1 d.lost.length c1, .slice a2 d.made.length c2, .slice a3 d.was.length c3, .slice a4 d.new.length c4, .int .i64 0] 44)) W → (W.cell? ⟨w2.heap.size, 0, none⟩ = some (.slice a1 d.lost.length c1) ∧ W.cell? ⟨w2.heap.size, 1, none⟩ = some (.slice a2 d.made.length c2) ∧ W.cell? ⟨w2.heap.size, 2, none⟩ = some (.slice a3 d.was.length c3) ∧ W.cell? ⟨w2.heap.size, 3, none⟩ = some (.slice a4 d.new.length c4) ∧ W.cell? ⟨w2.heap.size, 4, none⟩ = some (.int .i64 0) ∧ w2.heap.size < W.heap.size)) := Lib.hid fun S W hW => ⟨(hW.cell ⟨_, 0, none⟩ (by simp)).trans (cell_new _ _ rfl _ _ 0 _ rfl), (hW.cell ⟨_, 1, none⟩ (by simp)).trans (cell_new _ _ rfl _ _ 1 _ rfl), (hW.cell ⟨_, 2, none⟩ (by simp)).trans (cell_new _ _ rfl _ _ 2 _ rfl), (hW.cell ⟨_, 3, none⟩ (by simp)).trans (cell_new _ _ rfl _ _ 3 _ rfl), (hW.cell ⟨_, 4, none⟩ (by simp)).trans (cell_new _ _ rfl _ _ 4 _ rfl), by have := hW.size; simp at this; omega⟩
  clear hr hG hT hok
  go_wp2_with fail
  refine (HI.out.inodes _ (((New.refl w2).alloc _).below)).mono ?_
  rintro e w3 ⟨a5, c5, rfl, _, hb3⟩
  rw [HLL.out]
  have HB3 : Hid (Below w.heap.size w w3) := Lib.hid ((HB2.out.alloc HB2.out.size _).trans (hb3.mono (by have := HB2.out.size; simp only [World.size_alloc]; omega)))
  have HZ3 : Hid (w2.heap.size < w3.heap.size) := Lib.hid (by have := hb3.size; simp only [World.size_alloc] at this; omega)
  have HRC3 := Lib.hid (HRC.out.kept (w' := w3) fun j h1 h2 => (hb3.block j (by simp only [World.size_alloc]; omega)).trans (Below.heap_alloc _ _ _ h2))
  have HBK3 := Lib.hid (back_any gb mI mE w1.heap.size G1 d _ _ _ _ 0 w3 ((HG2.out.new ((New.refl w2).alloc _)).below hb3) HOK.out HRC3.out HLT.out.2.1 HLT.out.2.2 HSM.out.1 HSM.out.2)
  have HTB3 := Lib.hid (Below.turn' hb3 (Maps2 mI mE))
  obtain ⟨_, _, _, _, _, _⟩ := HBX.out _ _ HTB3.out
  clear hb3
  go_wp2_with fail
  refine HBK3.out.mono ?_
  rintro e w4 ⟨rfl, hG4, hT4⟩
  rw [HBK.out] at hG4
  have HB4 := Lib.hid (HB3.out.trans (own_below hT4 h2 h3 HB3.out.size))
  have HTB4 := Lib.hid (HTB3.out.trans hT4)
  have HI4 := Lib.hid (hG4.reads Gr.Ok.new (by rw [shK2]; omega))
  obtain ⟨_, _, _, _, _, _⟩ := HBX.out _ _ HTB4.out
  clear hG4 hT4
  go_wp2_with fail
  refine (HI4.out.inodes w4 (Below.refl _ _)).mono ?_
  rintro e w5 ⟨a6, c6, rfl, _, hb5⟩
  rw [shK1]
  have HB5 := Lib.hid (HB4.out.trans (hb5.mono HB4.out.size))
  have HBB5 := Lib.hid hb5
  clear hb5
  go_wp2_with fail
  refine (HI4.out.entries w5 HBB5.out).mono ?_
  rintro e w6 ⟨a7, c7, rfl, _, hb6⟩
  rw [shK2]
  have HB6 := Lib.hid (HB5.out.trans (hb6.mono HB5.out.size))
  clear hb6
  go_wp2
  go_ret
  exact ⟨rfl, HB6.out⟩
end Go.Proofs.YtlokljaeknmdpaaGreat.L12

/-! ## SlTake -/
namespace Go.Proofs.YtlokljaeknmdpaaGreat
open Go.RowKit Go.Proofs

theorem sl_take {α : Type} [Inhabited α] {w : World} {n : Nat} {enc : α → List Value} {a : Option Addr} {m c : Nat} {zs : List α} (h : SlAt w n enc (.slice a m c) zs) {k : Nat} (hk : k ≤ zs.length) : SlAt w n enc (.slice a k c) (zs.take k) := by
  have hl : (zs.take k).length = k := by rw [List.length_take]; omega
  rcases h with ⟨a', c', h0, rfl⟩ | ⟨b, off, c', h0, h1, h2, h3, h4⟩
  · have : k = 0 := by simpa using hk
    subst this
    exact .inl ⟨a, c, rfl, rfl⟩
  · simp only [Value.slice.injEq] at h0
    obtain ⟨rfl, rfl, rfl⟩ := h0
    refine .inr ⟨b, off, c, by rw [hl], by omega, h2, h3, fun j hj i u hu => h4 j (by omega) i u ?_⟩
    rw [getElem!_pos _ j hj, List.getElem_take] at hu
    rw [getElem!_pos zs j (by omega)]; exact hu
end Go.Proofs.YtlokljaeknmdpaaGreat
