/-
  What the laws of chapter 11 share: few, made, same; conditions: texts within reach.
-/
import Derived.Test.YtmnkaohhjhjciaaGreatQApG
import Derived.Test.YtmnkaohhjhjciaaGreatKDeed
import Derived.Test.YtmnkaohhjhjciaaGreatQOpenO
namespace Go.Proofs.YtmnkaohhjhjciaaGreat.L11
open Go.RowKit Go.Shelf Go.Proofs

theorem ret_bool {a b : Bool} (h : a = b) : Ending.returned (.bool a) = .returned (.bool b) := by rw [h]
theorem cellsOp {w : World} {zs : List Op} {b off : Nat} (hc : ∀ j, j < zs.length → ∀ i u, (Op.cells zs[j]!)[i]? = some u → w.cell? ⟨b, off + j * 13 + i, none⟩ = some u) (j : Nat) (hj : j < zs.length) :
    w.cell? ⟨b, off + j * 13, none⟩ = some (.int .i64 zs[j]!.stamp.t) ∧ w.cell? ⟨b, off + j * 13 + 1, none⟩ = some (.int .i64 zs[j]!.stamp.r) ∧ w.cell? ⟨b, off + j * 13 + 2, none⟩ = some (.int .i64 zs[j]!.kind) ∧ w.cell? ⟨b, off + j * 13 + 3, none⟩ = some (.int .i64 zs[j]!.at_.t) ∧ w.cell? ⟨b, off + j * 13 + 4, none⟩ = some (.int .i64 zs[j]!.at_.r) ∧
      w.cell? ⟨b, off + j * 13 + 5, none⟩ = some (.int .i64 zs[j]!.ino.t) ∧ w.cell? ⟨b, off + j * 13 + 6, none⟩ = some (.int .i64 zs[j]!.ino.r) ∧ w.cell? ⟨b, off + j * 13 + 7, none⟩ = some (.int .i64 zs[j]!.to.t) ∧ w.cell? ⟨b, off + j * 13 + 8, none⟩ = some (.int .i64 zs[j]!.to.r) ∧ w.cell? ⟨b, off + j * 13 + 9, none⟩ = some (.string zs[j]!.name) ∧
      w.cell? ⟨b, off + j * 13 + 10, none⟩ = some (.string zs[j]!.new) ∧ w.cell? ⟨b, off + j * 13 + 11, none⟩ = some (.int .i64 zs[j]!.off) ∧ w.cell? ⟨b, off + j * 13 + 12, none⟩ = some (.string zs[j]!.data) :=
  ⟨hc j hj 0 _ rfl, hc j hj 1 _ rfl, hc j hj 2 _ rfl, hc j hj 3 _ rfl, hc j hj 4 _ rfl, hc j hj 5 _ rfl, hc j hj 6 _ rfl, hc j hj 7 _ rfl, hc j hj 8 _ rfl, hc j hj 9 _ rfl, hc j hj 10 _ rfl, hc j hj 11 _ rfl, hc j hj 12 _ rfl⟩

set_option maxRecDepth 100000 in
set_option maxHeartbeats 1000000 in
theorem few_any (v : Value) (l : List Op) (w : World) (h : SlAt w 13 Op.cells v l) : Calls Tryz.prog 32 #[v] w fun x w' => x = .returned (.bool (decide (l.length ≤ 100))) ∧ w' = w := by
  obtain ⟨a, c, rfl⟩ := h.len
  clear h
  have e : decide (l.length ≤ 100) = decide ((l.length : Int) ≤ 100) := by rw [decide_eq_decide]; omega
  rw [e]
  clear e
  go_enter Tryz.func32, Tryz.ntmps32
  go_wp2
  go_ret
  exact ⟨rfl, rfl⟩

set_option maxRecDepth 100000 in
set_option maxHeartbeats 2000000 in
theorem made_any (v : Value) (l : List Op) (w : World) (h : SlAt w 13 Op.cells v l) (hn : ∀ o ∈ l, o.Small) (hl : l.length ≤ 1000) : Calls Tryz.prog 39 #[v] w (MadeGr w (ran l)) := by
  have HSL : Hid (∀ W, Below w.heap.size w W → SlAt W 13 Op.cells v l) := Lib.hid fun W hW => h.below hW
  obtain ⟨va, vc, rfl⟩ := h.len
  have HNM := Lib.hid hn
  clear h hn
  go_enter Tryz.func39, Tryz.ntmps39
  go_wp2_with fail
  refine (new_g w).mono ?_
  rintro e w2 ⟨v, rfl, ⟨gb, mI, mE, rfl, hG, h1, h2, h3⟩, hb⟩
  have HG := Lib.hid hG
  have HB2 := Lib.hid hb
  have HM : Hid (w.heap.size ≤ gb ∧ w.heap.size ≤ mI ∧ w.heap.size ≤ mE) := Lib.hid ⟨h1, h2, h3⟩
  clear hG hb h1 h2 h3
  go_wp2
  go_loopg [4] l.length (fun gg s4 wr => ∃ i : Nat, s4 = .int .i64 i ∧ i ≤ l.length ∧ l.length - i ≤ gg ∧ Aside (GrAt wr gb mI mE (ran (l.take i))) ∧ Aside (Below w.heap.size w wr))
  case atStart => exact ⟨0, rfl, Nat.zero_le _, by omega, (show Aside _ from HG.out), (show Aside _ from HB2.out)⟩
  case round =>
    obtain ⟨i, rfl, hil, hgg, hG, hB⟩ := hrel
    have hi0 : (0 : Int) ≤ (i : Int) := by omega
    have hwi : IntKind.i64.wrap ((i : Int) + 1) = (i : Int) + 1 := wrapNat (i + 1) (by omega)
    by_cases hlt : i < l.length
    · have hlti : (i : Int) < (l.length : Int) := by omega
      obtain ⟨bb, off, rfl, hbl, hcells⟩ : ∃ b off, va = some ⟨b, off, none⟩ ∧ b < wr.heap.size ∧ ∀ j, j < l.length → ∀ i u, (Op.cells l[j]!)[i]? = some u → wr.cell? ⟨b, off + j * 13 + i, none⟩ = some u := by
        rcases HSL.out wr hB.out with ⟨_, _, _, h0⟩ | ⟨b, off, c', h0, _, _, h3, h4⟩
        · rw [h0] at hlt; exact absurd hlt (Nat.not_lt_zero _)
        · simp at h0; exact ⟨b, off, h0.1, h3, h4⟩
      obtain ⟨x0, x1, x2, x3, x4, x5, x6, x7, x8, x9, x10, x11, x12⟩ := cellsOp hcells i hlt
      have hdo := apply_any gb mI mE (ran (l.take i)) l[i]! wr hG.out (ran_ok _) (ran_thin _) (HNM.out _ (getElem!_mem hlt))
      have HST := Lib.hid (ran_step l i hlt)
      clear hcells
      unfold Op.v at hdo
      generalize l[i]! = x at x0 x1 x2 x3 x4 x5 x6 x7 x8 x9 x10 x11 x12 hdo HST
      generalize ran (l.take i) = G at hdo HST
      have HDO := Lib.hid hdo
      clear hdo
      go_wp2_with (go_at_call 34; refine HDO.out.mono ?_; rintro e w3 ⟨rfl, hG3, hT3⟩; have HG3 := Lib.hid hG3; have HT3 := Lib.hid hT3; clear hG3 hT3)
      go_roundg (l.length - (i + 1))
      case measure => omega
      case rel => exact ⟨i + 1, by first | rfl | go_num, by omega, by omega, (show Aside _ from by rw [HST.out]; exact HG3.out), (show Aside _ from hB.out.trans (own_below HT3.out HM.out.2.1 HM.out.2.2 hB.out.size))⟩
    · have hie : i = l.length := by omega
      have HGF : Hid (GrAt wr gb mI mE (ran l)) := Lib.hid (by have := hG.out; rw [hie, List.take_length] at this; exact this)
      have hlti : ¬ (i : Int) < (l.length : Int) := by omega
      clear hie hlt
      go_wp2
      go_ret
      exact ⟨_, rfl, ⟨gb, mI, mE, rfl, HGF.out, HM.out.1, HM.out.2.1, HM.out.2.2⟩, hB.out⟩

set_option maxRecDepth 100000 in
set_option maxHeartbeats 2000000 in
theorem same_any (gb hb : Nat) (g : Gr) (w : World) (hok : g.Ok) (h1 : Reads gb g w) (h2 : Reads hb g w) : Calls Tryz.prog 44 #[.pointer (some ⟨gb, 0, none⟩), .pointer (some ⟨hb, 0, none⟩)] w fun e w' => e = .returned (.bool true) ∧ Below w.heap.size w w' := by
  have HB0 : Hid (Below w.heap.size w w) := Lib.hid (Below.refl _ _)
  have HI1 := Lib.hid (fun W (hW : Below w.heap.size w W) => h1.inodes W hW)
  have HI2 := Lib.hid (fun W (hW : Below w.heap.size w W) => h2.inodes W hW)
  have HE1 := Lib.hid (fun W (hW : Below w.heap.size w W) => h1.entries W hW)
  have HE2 := Lib.hid (fun W (hW : Below w.heap.size w W) => h2.entries W hW)
  have HL : Hid (g.n.length ≤ 100000 ∧ g.e.length ≤ 100000) := Lib.hid ⟨by have := hok.len; omega, by have := hok.few; omega⟩
  clear h1 h2 hok
  go_enter Tryz.func44, Tryz.ntmps44
  go_wp2_with fail
  refine (HI1.out _ (by first | exact HB0.out | exact HB0.out.alloc HB0.out.size _ | exact (HB0.out.alloc HB0.out.size _).alloc (le_al HB0.out.size) _ | exact ((HB0.out.alloc HB0.out.size _).alloc (le_al HB0.out.size) _).alloc (le_al (le_al HB0.out.size)) _)).mono ?_
  rintro e w1 ⟨a1, c1, rfl, hs1, hb1⟩
  obtain ⟨hc1, hf1⟩ := bcell hb1
  have hs1 := hb1.size
  try simp only [World.size_alloc] at hs1
  try simp only [size_setCell'] at hs1
  try have le1_0 : w.heap.size ≤ w1.heap.size := (by omega)
  try have lt1_0 : w.heap.size < w1.heap.size := (by omega)
  have HB1 : Hid (Below w.heap.size w w1) := Lib.hid (Below.trans (by first | exact HB0.out | exact HB0.out.alloc HB0.out.size _ | exact (HB0.out.alloc HB0.out.size _).alloc (le_al HB0.out.size) _ | exact ((HB0.out.alloc HB0.out.size _).alloc (le_al HB0.out.size) _).alloc (le_al (le_al HB0.out.size)) _) (hb1.mono (by (try simp only [World.size_alloc]); (try simp only [size_setCell']); omega)))
  have HN1 := Lib.hid hb1
  clear hb1 hs1
  have HS1 := Lib.hid hs1
  clear hs1
  go_wp2_with fail
  refine (HI2.out _ (by first | exact HB1.out | exact HB1.out.alloc HB1.out.size _ | exact (HB1.out.alloc HB1.out.size _).alloc (le_al HB1.out.size) _ | exact ((HB1.out.alloc HB1.out.size _).alloc (le_al HB1.out.size) _).alloc (le_al (le_al HB1.out.size)) _ | exact HB0.out | exact HB0.out.alloc HB0.out.size _ | exact (HB0.out.alloc HB0.out.size _).alloc (le_al HB0.out.size) _ | exact ((HB0.out.alloc HB0.out.size _).alloc (le_al HB0.out.size) _).alloc (le_al (le_al HB0.out.size)) _)).mono ?_
  rintro e w2 ⟨a2, c2, rfl, hs2, hb2⟩
  obtain ⟨hc2, hf2⟩ := bcell hb2
  have hs2 := hb2.size
  try simp only [World.size_alloc] at hs2
  try simp only [size_setCell'] at hs2
  try have le2_0 : w.heap.size ≤ w2.heap.size := (by omega)
  try have lt2_0 : w.heap.size < w2.heap.size := (by omega)
  try have le2_1 : w1.heap.size ≤ w2.heap.size := (by omega)
  try have lt2_1 : w1.heap.size < w2.heap.size := (by omega)
  have HB2 : Hid (Below w.heap.size w w2) := Lib.hid (Below.trans (by first | exact HB1.out | exact HB1.out.alloc HB1.out.size _ | exact (HB1.out.alloc HB1.out.size _).alloc (le_al HB1.out.size) _ | exact ((HB1.out.alloc HB1.out.size _).alloc (le_al HB1.out.size) _).alloc (le_al (le_al HB1.out.size)) _ | exact HB0.out | exact HB0.out.alloc HB0.out.size _ | exact (HB0.out.alloc HB0.out.size _).alloc (le_al HB0.out.size) _ | exact ((HB0.out.alloc HB0.out.size _).alloc (le_al HB0.out.size) _).alloc (le_al (le_al HB0.out.size)) _) (hb2.mono (by (try simp only [World.size_alloc]); (try simp only [size_setCell']); omega)))
  have HN2 := Lib.hid hb2
  clear hb2 hs2
  have HN3 := Lib.hid (nodes_same _ _ g.n g.n _ (HS1.out.below HN2.out) hs2 HL.out.1)
  clear hs2
  go_wp2_with fail
  refine (HN3.out).mono ?_
  rintro e w3 ⟨b3, rfl, hb3, hb3⟩
  obtain ⟨hc3, hf3⟩ := bcell hb3
  have hs3 := hb3.size
  try simp only [World.size_alloc] at hs3
  try simp only [size_setCell'] at hs3
  try have le3_0 : w.heap.size ≤ w3.heap.size := (by omega)
  try have lt3_0 : w.heap.size < w3.heap.size := (by omega)
  try have le3_1 : w1.heap.size ≤ w3.heap.size := (by omega)
  try have lt3_1 : w1.heap.size < w3.heap.size := (by omega)
  try have le3_2 : w2.heap.size ≤ w3.heap.size := (by omega)
  try have lt3_2 : w2.heap.size < w3.heap.size := (by omega)
  have HB3 : Hid (Below w.heap.size w w3) := Lib.hid (Below.trans (by first | exact HB2.out | exact HB2.out.alloc HB2.out.size _ | exact (HB2.out.alloc HB2.out.size _).alloc (le_al HB2.out.size) _ | exact ((HB2.out.alloc HB2.out.size _).alloc (le_al HB2.out.size) _).alloc (le_al (le_al HB2.out.size)) _ | exact HB1.out | exact HB1.out.alloc HB1.out.size _ | exact (HB1.out.alloc HB1.out.size _).alloc (le_al HB1.out.size) _ | exact ((HB1.out.alloc HB1.out.size _).alloc (le_al HB1.out.size) _).alloc (le_al (le_al HB1.out.size)) _ | exact HB0.out | exact HB0.out.alloc HB0.out.size _ | exact (HB0.out.alloc HB0.out.size _).alloc (le_al HB0.out.size) _ | exact ((HB0.out.alloc HB0.out.size _).alloc (le_al HB0.out.size) _).alloc (le_al (le_al HB0.out.size)) _) (hb3.mono (by (try simp only [World.size_alloc]); (try simp only [size_setCell']); omega)))
  have HN3 := Lib.hid hb3
  clear hb3 hs3
  obtain rfl := hb3 rfl
  go_wp2_with fail
  refine (HE1.out _ (by first | exact HB3.out | exact HB3.out.alloc HB3.out.size _ | exact (HB3.out.alloc HB3.out.size _).alloc (le_al HB3.out.size) _ | exact ((HB3.out.alloc HB3.out.size _).alloc (le_al HB3.out.size) _).alloc (le_al (le_al HB3.out.size)) _ | exact HB2.out | exact HB2.out.alloc HB2.out.size _ | exact (HB2.out.alloc HB2.out.size _).alloc (le_al HB2.out.size) _ | exact ((HB2.out.alloc HB2.out.size _).alloc (le_al HB2.out.size) _).alloc (le_al (le_al HB2.out.size)) _ | exact HB1.out | exact HB1.out.alloc HB1.out.size _ | exact (HB1.out.alloc HB1.out.size _).alloc (le_al HB1.out.size) _ | exact ((HB1.out.alloc HB1.out.size _).alloc (le_al HB1.out.size) _).alloc (le_al (le_al HB1.out.size)) _ | exact HB0.out | exact HB0.out.alloc HB0.out.size _ | exact (HB0.out.alloc HB0.out.size _).alloc (le_al HB0.out.size) _ | exact ((HB0.out.alloc HB0.out.size _).alloc (le_al HB0.out.size) _).alloc (le_al (le_al HB0.out.size)) _)).mono ?_
  rintro e w4 ⟨a4, c4, rfl, hs4, hb4⟩
  obtain ⟨hc4, hf4⟩ := bcell hb4
  have hs4 := hb4.size
  try simp only [World.size_alloc] at hs4
  try simp only [size_setCell'] at hs4
  try have le4_0 : w.heap.size ≤ w4.heap.size := (by omega)
  try have lt4_0 : w.heap.size < w4.heap.size := (by omega)
  try have le4_1 : w1.heap.size ≤ w4.heap.size := (by omega)
  try have lt4_1 : w1.heap.size < w4.heap.size := (by omega)
  try have le4_2 : w2.heap.size ≤ w4.heap.size := (by omega)
  try have lt4_2 : w2.heap.size < w4.heap.size := (by omega)
  try have le4_3 : w3.heap.size ≤ w4.heap.size := (by omega)
  try have lt4_3 : w3.heap.size < w4.heap.size := (by omega)
  have HB4 : Hid (Below w.heap.size w w4) := Lib.hid (Below.trans (by first | exact HB3.out | exact HB3.out.alloc HB3.out.size _ | exact (HB3.out.alloc HB3.out.size _).alloc (le_al HB3.out.size) _ | exact ((HB3.out.alloc HB3.out.size _).alloc (le_al HB3.out.size) _).alloc (le_al (le_al HB3.out.size)) _ | exact HB2.out | exact HB2.out.alloc HB2.out.size _ | exact (HB2.out.alloc HB2.out.size _).alloc (le_al HB2.out.size) _ | exact ((HB2.out.alloc HB2.out.size _).alloc (le_al HB2.out.size) _).alloc (le_al (le_al HB2.out.size)) _ | exact HB1.out | exact HB1.out.alloc HB1.out.size _ | exact (HB1.out.alloc HB1.out.size _).alloc (le_al HB1.out.size) _ | exact ((HB1.out.alloc HB1.out.size _).alloc (le_al HB1.out.size) _).alloc (le_al (le_al HB1.out.size)) _ | exact HB0.out | exact HB0.out.alloc HB0.out.size _ | exact (HB0.out.alloc HB0.out.size _).alloc (le_al HB0.out.size) _ | exact ((HB0.out.alloc HB0.out.size _).alloc (le_al HB0.out.size) _).alloc (le_al (le_al HB0.out.size)) _) (hb4.mono (by (try simp only [World.size_alloc]); (try simp only [size_setCell']); omega)))
  have HN4 := Lib.hid hb4
  clear hb4 hs4
  have HS4 := Lib.hid hs4
  clear hs4
  go_wp2_with fail
  refine (HE2.out _ (by first | exact HB4.out | exact HB4.out.alloc HB4.out.size _ | exact (HB4.out.alloc HB4.out.size _).alloc (le_al HB4.out.size) _ | exact ((HB4.out.alloc HB4.out.size _).alloc (le_al HB4.out.size) _).alloc (le_al (le_al HB4.out.size)) _ | exact HB3.out | exact HB3.out.alloc HB3.out.size _ | exact (HB3.out.alloc HB3.out.size _).alloc (le_al HB3.out.size) _ | exact ((HB3.out.alloc HB3.out.size _).alloc (le_al HB3.out.size) _).alloc (le_al (le_al HB3.out.size)) _ | exact HB2.out | exact HB2.out.alloc HB2.out.size _ | exact (HB2.out.alloc HB2.out.size _).alloc (le_al HB2.out.size) _ | exact ((HB2.out.alloc HB2.out.size _).alloc (le_al HB2.out.size) _).alloc (le_al (le_al HB2.out.size)) _ | exact HB1.out | exact HB1.out.alloc HB1.out.size _ | exact (HB1.out.alloc HB1.out.size _).alloc (le_al HB1.out.size) _ | exact ((HB1.out.alloc HB1.out.size _).alloc (le_al HB1.out.size) _).alloc (le_al (le_al HB1.out.size)) _ | exact HB0.out | exact HB0.out.alloc HB0.out.size _ | exact (HB0.out.alloc HB0.out.size _).alloc (le_al HB0.out.size) _ | exact ((HB0.out.alloc HB0.out.size _).alloc (le_al HB0.out.size) _).alloc (le_al (le_al HB0.out.size)) _)).mono ?_
  rintro e w5 ⟨a5, c5, rfl, hs5, hb5⟩
  obtain ⟨hc5, hf5⟩ := bcell hb5
  have hs5 := hb5.size
  try simp only [World.size_alloc] at hs5
  try simp only [size_setCell'] at hs5
  try have le5_0 : w.heap.size ≤ w5.heap.size := (by omega)
  try have lt5_0 : w.heap.size < w5.heap.size := (by omega)
  try have le5_1 : w1.heap.size ≤ w5.heap.size := (by omega)
  try have lt5_1 : w1.heap.size < w5.heap.size := (by omega)
  try have le5_2 : w2.heap.size ≤ w5.heap.size := (by omega)
  try have lt5_2 : w2.heap.size < w5.heap.size := (by omega)
  try have le5_3 : w3.heap.size ≤ w5.heap.size := (by omega)
  try have lt5_3 : w3.heap.size < w5.heap.size := (by omega)
  try have le5_4 : w4.heap.size ≤ w5.heap.size := (by omega)
  try have lt5_4 : w4.heap.size < w5.heap.size := (by omega)
  have HB5 : Hid (Below w.heap.size w w5) := Lib.hid (Below.trans (by first | exact HB4.out | exact HB4.out.alloc HB4.out.size _ | exact (HB4.out.alloc HB4.out.size _).alloc (le_al HB4.out.size) _ | exact ((HB4.out.alloc HB4.out.size _).alloc (le_al HB4.out.size) _).alloc (le_al (le_al HB4.out.size)) _ | exact HB3.out | exact HB3.out.alloc HB3.out.size _ | exact (HB3.out.alloc HB3.out.size _).alloc (le_al HB3.out.size) _ | exact ((HB3.out.alloc HB3.out.size _).alloc (le_al HB3.out.size) _).alloc (le_al (le_al HB3.out.size)) _ | exact HB2.out | exact HB2.out.alloc HB2.out.size _ | exact (HB2.out.alloc HB2.out.size _).alloc (le_al HB2.out.size) _ | exact ((HB2.out.alloc HB2.out.size _).alloc (le_al HB2.out.size) _).alloc (le_al (le_al HB2.out.size)) _ | exact HB1.out | exact HB1.out.alloc HB1.out.size _ | exact (HB1.out.alloc HB1.out.size _).alloc (le_al HB1.out.size) _ | exact ((HB1.out.alloc HB1.out.size _).alloc (le_al HB1.out.size) _).alloc (le_al (le_al HB1.out.size)) _ | exact HB0.out | exact HB0.out.alloc HB0.out.size _ | exact (HB0.out.alloc HB0.out.size _).alloc (le_al HB0.out.size) _ | exact ((HB0.out.alloc HB0.out.size _).alloc (le_al HB0.out.size) _).alloc (le_al (le_al HB0.out.size)) _) (hb5.mono (by (try simp only [World.size_alloc]); (try simp only [size_setCell']); omega)))
  have HN5 := Lib.hid hb5
  clear hb5 hs5
  have HN6 := Lib.hid (entries_same _ _ g.e g.e _ (HS4.out.below HN5.out) hs5 HL.out.2)
  clear hs5
  go_wp2_with fail
  refine (HN6.out).mono ?_
  rintro e w6 ⟨b6, rfl, hb6, hb6⟩
  obtain ⟨hc6, hf6⟩ := bcell hb6
  have hs6 := hb6.size
  try simp only [World.size_alloc] at hs6
  try simp only [size_setCell'] at hs6
  try have le6_0 : w.heap.size ≤ w6.heap.size := (by omega)
  try have lt6_0 : w.heap.size < w6.heap.size := (by omega)
  try have le6_1 : w1.heap.size ≤ w6.heap.size := (by omega)
  try have lt6_1 : w1.heap.size < w6.heap.size := (by omega)
  try have le6_2 : w2.heap.size ≤ w6.heap.size := (by omega)
  try have lt6_2 : w2.heap.size < w6.heap.size := (by omega)
  try have le6_3 : w3.heap.size ≤ w6.heap.size := (by omega)
  try have lt6_3 : w3.heap.size < w6.heap.size := (by omega)
  try have le6_4 : w4.heap.size ≤ w6.heap.size := (by omega)
  try have lt6_4 : w4.heap.size < w6.heap.size := (by omega)
  try have le6_5 : w5.heap.size ≤ w6.heap.size := (by omega)
  try have lt6_5 : w5.heap.size < w6.heap.size := (by omega)
  have HB6 : Hid (Below w.heap.size w w6) := Lib.hid (Below.trans (by first | exact HB5.out | exact HB5.out.alloc HB5.out.size _ | exact (HB5.out.alloc HB5.out.size _).alloc (le_al HB5.out.size) _ | exact ((HB5.out.alloc HB5.out.size _).alloc (le_al HB5.out.size) _).alloc (le_al (le_al HB5.out.size)) _ | exact HB4.out | exact HB4.out.alloc HB4.out.size _ | exact (HB4.out.alloc HB4.out.size _).alloc (le_al HB4.out.size) _ | exact ((HB4.out.alloc HB4.out.size _).alloc (le_al HB4.out.size) _).alloc (le_al (le_al HB4.out.size)) _ | exact HB3.out | exact HB3.out.alloc HB3.out.size _ | exact (HB3.out.alloc HB3.out.size _).alloc (le_al HB3.out.size) _ | exact ((HB3.out.alloc HB3.out.size _).alloc (le_al HB3.out.size) _).alloc (le_al (le_al HB3.out.size)) _ | exact HB2.out | exact HB2.out.alloc HB2.out.size _ | exact (HB2.out.alloc HB2.out.size _).alloc (le_al HB2.out.size) _ | exact ((HB2.out.alloc HB2.out.size _).alloc (le_al HB2.out.size) _).alloc (le_al (le_al HB2.out.size)) _ | exact HB1.out | exact HB1.out.alloc HB1.out.size _ | exact (HB1.out.alloc HB1.out.size _).alloc (le_al HB1.out.size) _ | exact ((HB1.out.alloc HB1.out.size _).alloc (le_al HB1.out.size) _).alloc (le_al (le_al HB1.out.size)) _ | exact HB0.out | exact HB0.out.alloc HB0.out.size _ | exact (HB0.out.alloc HB0.out.size _).alloc (le_al HB0.out.size) _ | exact ((HB0.out.alloc HB0.out.size _).alloc (le_al HB0.out.size) _).alloc (le_al (le_al HB0.out.size)) _) (hb6.mono (by (try simp only [World.size_alloc]); (try simp only [size_setCell']); omega)))
  have HN6 := Lib.hid hb6
  clear hb6 hs6
  obtain rfl := hb6 rfl
  go_wp2
  go_ret
  exact ⟨rfl, (by first | exact HB6.out | exact HB6.out.alloc HB6.out.size _ | exact (HB6.out.alloc HB6.out.size _).alloc (le_al HB6.out.size) _ | exact ((HB6.out.alloc HB6.out.size _).alloc (le_al HB6.out.size) _).alloc (le_al (le_al HB6.out.size)) _)⟩

def shO1 : Op := ⟨⟨1, 0⟩, 2, ⟨0, 0⟩, ⟨0, 0⟩, ⟨0, 0⟩, ⟨#[102]⟩, ⟨#[]⟩, 0, ⟨#[]⟩⟩
def shO2 : Op := ⟨⟨2, 0⟩, 5, ⟨0, 0⟩, ⟨1, 0⟩, ⟨0, 0⟩, ⟨#[102]⟩, ⟨#[]⟩, 0, ⟨#[]⟩⟩
theorem shW1 : Gr.new.opWhy shO1 = 0 := by kernel_rfl
theorem shL1 : (Gr.new.apply shO1).n.length = 2 := by kernel_rfl
theorem shW2 : (Gr.new.apply shO1).opWhy shO2 = 0 := by kernel_rfl
theorem shL2 : ((Gr.new.apply shO1).apply shO2).n.length = 1 := by kernel_rfl
theorem shSm1 : shO1.Small := by unfold Op.Small shO1 reachBytes; decide
theorem shSm2 : shO2.Small := by unfold Op.Small shO2 reachBytes; decide

set_option maxRecDepth 100000 in
set_option maxHeartbeats 2000000 in
theorem shown_any (w : World) : Calls Tryz.prog 31 #[] w fun x w' => x = .returned (.bool true) ∧ Below w.heap.size w w' := by
  go_enter Tryz.func31, Tryz.ntmps31
  go_wp2_with fail
  refine (new_g w).mono ?_
  rintro e w1 ⟨v, rfl, ⟨gb, mI, mE, rfl, hG, h1, h2, h3⟩, hb⟩
  have HB1 := Lib.hid (hb.alloc (o := (.cells #[.int .i64 1, .int .i64 0] 34)) hb.size)
  have HD1 := Lib.hid (apply_any gb mI mE Gr.new shO1 (w1.alloc (.cells #[.int .i64 1, .int .i64 0] 34)) (hG.new (New.alloc' _ _)) Gr.Ok.new Gr.Thin.new shSm1)
  have HS1 := Lib.hid hb.size
  clear hG hb
  go_wp2_with fail
  refine HD1.out.mono ?_
  rintro e w2 ⟨rfl, hG, hT⟩
  rw [shW1]
  obtain ⟨_, _, _⟩ := st_box (S := Maps2 mI mE) (x := ⟨1, 0⟩) hT
  have HB2 := Lib.hid (HB1.out.trans (own_below hT h2 h3 HB1.out.size))
  have hok := Gr.Ok.new.apply shO1
  have hth := Gr.Thin.new.apply shO1
  have HI := Lib.hid (hG.reads hok (by have := hok.few; omega))
  have HG2 := Lib.hid hG
  have HT2 := Lib.hid hT
  have hbt : ∀ W, Below w2.heap.size w2 W → Turn (Maps2 mI mE) (w1.alloc (.cells #[.int .i64 1, .int .i64 0] 34)) W := fun W hW => HT2.out.trans (Below.turn' hW _)
  have HBT := Lib.hid hbt
  clear hG hT hbt
  go_wp2_with fail
  refine (HI.out.inodes w2 (Below.refl _ _)).mono ?_
  rintro e w3 ⟨a3, c3, rfl, _, hb3⟩
  rw [shL1]
  obtain ⟨_, _, _⟩ := st_box (S := Maps2 mI mE) (x := ⟨1, 0⟩) (HBT.out w3 hb3)
  have HB3 := Lib.hid (HB2.out.trans (hb3.mono HB2.out.size))
  have HD3 := Lib.hid (apply_any gb mI mE (Gr.new.apply shO1) shO2 w3 (HG2.out.below hb3) hok hth shSm2)
  clear hb3
  go_wp2_with fail
  refine HD3.out.mono ?_
  rintro e w4 ⟨rfl, hG, hT⟩
  rw [shW2]
  have HB4 := Lib.hid (HB3.out.trans (own_below hT h2 h3 HB3.out.size))
  have hok4 := hok.apply shO2
  have HI4 := Lib.hid (hG.reads hok4 (by have := hok4.few; omega))
  clear hG hT hok hok4 hth
  go_wp2_with fail
  refine (HI4.out.inodes w4 (Below.refl _ _)).mono ?_
  rintro e w5 ⟨a5, c5, rfl, _, hb5⟩
  rw [shL2]
  have HB5 := Lib.hid (HB4.out.trans (hb5.mono HB4.out.size))
  clear hb5
  go_wp2
  go_ret
  exact ⟨rfl, HB5.out⟩
end Go.Proofs.YtmnkaohhjhjciaaGreat.L11
