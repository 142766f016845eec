/-
  oplog.From, oplog.New; conditions: texts within reach, at most 500 operations. · What the laws of chapter 14 share: same, the example at their head; conditions: texts within reach. · A region that draws its order and ends in some operations that all others come ahead of: what its loads read holds till then; no condition. · (*oplog.Log).Compact where nothing is compacted; condition: the log is in order.
-/
import Derived.Test.YtlokljaeknmdpaaGreatKZ45
import Derived.Test.YtlokljaeknmdpaaGreatKZ35
import Derived.Deep.RegionHeld3
import Derived.Lib.QuietBelow
/-! ## LogE -/
namespace Go.Proofs.YtlokljaeknmdpaaGreat
open Go.RowKit Go.Shelf Go.Proofs
open L12 (Raw Raw.cells infoRec)

set_option linter.unusedVariables false

theorem adds_len : ∀ (l : List Op) (L : Lg), (l.foldl Lg.add L).ops.length ≤ L.ops.length + l.length
  | [], L => by simp
  | o :: l, L => by
    have h := adds_len l (L.add o)
    rw [add_len] at h
    rw [List.foldl_cons, List.length_cons]
    split at h <;> omega
theorem adds_take (L : Lg) (l : List Op) (i : Nat) (hi : i < l.length) : (l.take (i + 1)).foldl Lg.add L = ((l.take i).foldl Lg.add L).add l[i]! := foldl_take Lg.add L l i hi
theorem two_of {a b c : Prop} (h : a ∧ b ∧ c) : a ∧ b := ⟨h.1, h.2.1⟩
/-- a log without operations -/
theorem LogAt.new {W : World} {B lb bb bI bE gb mI mE : Nat} {base : Gr} {floor : St} (hb : W.heap[lb]? = some (.cells #[.pointer (some ⟨bb, 0, none⟩), .pointer (some ⟨gb, 0, none⟩), .int .i64 floor.t, .int .i64 floor.r, .slice none 0 0, .slice none 0 0] 132 (0, 0)))
    (h1 : GrAt W bb bI bE base) (h2 : GrAt W gb mI mE base) (hge : B ≤ lb ∧ B ≤ gb ∧ B ≤ mI ∧ B ≤ mE) (hbb : B ≤ bb ∧ B ≤ bI ∧ B ≤ bE) (hne : bI ≠ mI ∧ bI ≠ mE ∧ bE ≠ mI ∧ bE ≠ mE) (hok : base.Ok) (hth : base.Thin) : LogAt B W lb gb mI mE ⟨base, floor, []⟩ :=
  ⟨⟨bb, bI, bE, _, _, [], hb, h1, World.ownsRow_nil _ _ _ _, World.ownsRow_nil _ _ _ _, ⟨rfl, fun j hj => absurd hj (Nat.not_lt_zero _)⟩, hbb, hne⟩, h2, Lg.Ok.new hok hth floor, by simp, by simp, hge⟩

set_option maxRecDepth 100000 in
set_option maxHeartbeats 8000000 in
theorem from_any (gb mI mE : Nat) (base : Gr) (floor : St) (v : Value) (l : List Op) (w : World) (hg : GrAt w gb mI mE base) (hok : base.Ok) (hth : base.Thin) (hf : mayB floor.t floor.r = true) (h : SlAt w 13 Op.cells v l) (hn : ∀ o ∈ l, o.Small) (hl : l.length ≤ 500) :
    Calls Tryz.prog 47 #[.pointer (some ⟨gb, 0, none⟩), floor.v, v] w (MadeLog w (Lg.from base floor l)) := by
  have HSL : Hid (∀ W, Below w.heap.size w W → SlAt W 13 Op.cells v l) := Lib.hid fun W hW => h.below hW
  have HCP : Hid (∀ W, Below w.heap.size w W → Calls Tryz.prog 27 #[.pointer (some ⟨gb, 0, none⟩)] W (MadeGr W base)) := Lib.hid fun W hW => copy_g gb mI mE base W (hg.below hW)
  have HB0 : Hid (Below w.heap.size w (w.alloc (.cells #[.int .i64 floor.t, .int .i64 floor.r] 31))) := Lib.hid ((Below.refl _ w).alloc (Nat.le_refl _) _)
  have hz : w.heap.size < (w.alloc (.cells #[.int .i64 floor.t, .int .i64 floor.r] 31)).heap.size := by simp
  have HST : Hid (∀ W, Below (w.alloc (.cells #[.int .i64 floor.t, .int .i64 floor.r] 31)).heap.size (w.alloc (.cells #[.int .i64 floor.t, .int .i64 floor.r] 31)) W → (W.cell? ⟨w.heap.size, 0, none⟩ = some (.int .i64 floor.t) ∧ W.cell? ⟨w.heap.size, 1, none⟩ = some (.int .i64 floor.r) ∧ w.heap.size < W.heap.size)) := Lib.hid fun W hW => ⟨(hW.cell (p := ⟨w.heap.size, 0, none⟩) hz).trans (cell_new _ _ rfl _ _ 0 _ rfl), (hW.cell (p := ⟨w.heap.size, 1, none⟩) hz).trans (cell_new _ _ rfl _ _ 1 _ rfl), Nat.lt_of_lt_of_le hz hW.size⟩
  have hmy : ∀ W, Calls Tryz.prog 62 #[(.agg #[.int .i64 floor.t, .int .i64 floor.r])] W fun e w' => e = .returned (.bool true) ∧ Below W.heap.size W w' := fun W => (may_any floor.t floor.r W).mono fun e w' ⟨a, b⟩ => ⟨by rw [← hf]; exact a, b.below⟩
  have HMY := Lib.hid hmy
  have HNM := Lib.hid hn
  have HOK := Lib.hid (And.intro hok hth)
  have HLL := Lib.hid hl
  have HLT := Lib.hid hg.lt
  obtain ⟨va, vc, rfl⟩ := h.len
  clear h hn hg hok hth hf hmy hz
  unfold St.v
  go_enter Tryz.func47, Tryz.ntmps47
  go_wp2_with (go_at_call 62; refine (HMY.out _).mono ?_; rintro e w1 ⟨rfl, hb1⟩; have HB1 := Lib.hid hb1; obtain ⟨f0, f1, fl⟩ := HST.out w1 hb1; clear hb1)
  have HW1 : Hid (Below w.heap.size w w1 ∧ w.heap.size + 1 ≤ w1.heap.size) := Lib.hid ⟨HB0.out.trans (HB1.out.mono HB0.out.size), by have := HB1.out.size; simpa using this⟩
  go_region_held3 (fun W : World => W.cell? ⟨w.heap.size, 0, none⟩ = some (.int .i64 floor.t) ∧ W.cell? ⟨w.heap.size, 1, none⟩ = some (.int .i64 floor.r)) (first | exact HS4.out _ | exact HS3.out | exact HS2.out | go_keep) (first
    | (go_at_call 27; (with_reducible refine Calls.mono (HCP.out _ (HW1.out.1.trans (HB2.out.mono HW1.out.1.size))) ?_); rintro e w3 ⟨v3, rfl, ⟨g3, i3, e3, rfl, hG3, k3, l3, m3⟩, hb3⟩; have HG3 := Lib.hid hG3; have HM3 : Hid (w2.heap.size ≤ g3 ∧ w2.heap.size ≤ i3 ∧ w2.heap.size ≤ e3) := Lib.hid ⟨k3, l3, m3⟩; have HB3 : Hid (Below w2.heap.size w2 w3) := Lib.hid hb3; have HS3 : Hid (w3.cell? ⟨w.heap.size, 0, none⟩ = some (.int .i64 floor.t) ∧ w3.cell? ⟨w.heap.size, 1, none⟩ = some (.int .i64 floor.r)) := Lib.hid (two_of (HST.out w3 (HB1.out.trans ((HB2.out.trans (hb3.mono HB2.out.size)).mono HB1.out.size)))); have HS4 : Hid (∀ ob, (w3.alloc ob).cell? ⟨w.heap.size, 0, none⟩ = some (.int .i64 floor.t) ∧ (w3.alloc ob).cell? ⟨w.heap.size, 1, none⟩ = some (.int .i64 floor.r)) := Lib.hid fun ob => two_of (HST.out _ (HB1.out.trans ((HB2.out.trans ((hb3.alloc hb3.size ob).mono HB2.out.size)).mono HB1.out.size))); clear hG3 k3 l3 m3 hb3)
    | (go_at_call 27; (with_reducible refine Calls.mono (HCP.out _ (by first | exact HW1.out.1.drew | exact HW1.out.1)) ?_); rintro e w2 ⟨v2, rfl, ⟨g2, i2, e2, rfl, hG2, k2, l2, m2⟩, hb2⟩; have HG2 := Lib.hid hG2; have HM2 : Hid (w1.heap.size ≤ g2 ∧ w1.heap.size ≤ i2 ∧ w1.heap.size ≤ e2) := Lib.hid ⟨k2, l2, m2⟩; have HB2 : Hid (Below w1.heap.size w1 w2) := Lib.hid ((Below.refl _ w1).drew.trans hb2); have HS2 : Hid (w2.cell? ⟨w.heap.size, 0, none⟩ = some (.int .i64 floor.t) ∧ w2.cell? ⟨w.heap.size, 1, none⟩ = some (.int .i64 floor.r)) := Lib.hid (two_of (HST.out w2 (HB1.out.trans (((Below.refl _ w1).drew.trans hb2).mono HB1.out.size)))); clear hG2 k2 l2 m2 hb2)
    | fail "no arm")
  have HN1 := Lib.hid HW1.out.1
  obtain ⟨W4, hW4⟩ : ∃ W4, W4 = w3.alloc (.cells #[.pointer (some ⟨g2, 0, none⟩), .pointer (some ⟨g3, 0, none⟩), .int .i64 floor.t, .int .i64 floor.r, .slice none 0 0, .slice none 0 0] 132) := ⟨_, rfl⟩
  have hb34 : Below w3.heap.size w3 W4 := by rw [hW4]; exact (Below.refl _ _).alloc (Nat.le_refl _) _
  have hbox : W4.heap[w3.heap.size]? = some (.cells #[.pointer (some ⟨g2, 0, none⟩), .pointer (some ⟨g3, 0, none⟩), .int .i64 floor.t, .int .i64 floor.r, .slice none 0 0, .slice none 0 0] 132 (0, 0)) := by rw [hW4]; exact World.alloc_heap_new _ _
  have hn4 : LogAt w.heap.size W4 w3.heap.size g3 i3 e3 ⟨base, floor, []⟩ := by
    have h1 := HW1.out
    have h2 := HB2.out.size
    have h3 := HB3.out.size
    have h4 := HM2.out
    have h5 := HM3.out
    have h6 := HG2.out.lt
    exact LogAt.new hbox ((HG2.out.below HB3.out).below hb34) (HG3.out.below hb34) (by omega) (by omega) (by omega) HOK.out.1 HOK.out.2
  have HL4 := Lib.hid hn4
  have HB4 : Hid (Below w.heap.size w W4) := Lib.hid ((HW1.out.1.trans ((HB2.out.trans ((HB3.out.trans (hb34.mono HB3.out.size)).mono HB2.out.size)).mono HW1.out.1.size)))
  rw [← hW4]
  clear hW4 hb34 hbox hn4 f0 f1 fl
  go_wp2_with fail
  go_loopg [29] l.length (fun gg s29 wr => ∃ i : Nat, s29 = .int .i64 i ∧ i ≤ l.length ∧ l.length - i ≤ gg ∧ Aside (LogAt w.heap.size wr w3.heap.size g3 i3 e3 ((l.take i).foldl Lg.add ⟨base, floor, []⟩)) ∧ Aside (Below w.heap.size w wr))
  case atStart => exact ⟨0, rfl, Nat.zero_le _, by omega, (show Aside _ from HL4.out), (show Aside _ from HB4.out)⟩
  case round =>
    obtain ⟨i, rfl, hil, hgg, hL, hB⟩ := hrel
    have hi0 : (0 : Int) ≤ (i : Int) := by omega
    have hwi : IntKind.i64.wrap ((i : Int) + 1) = (i : Int) + 1 := wrapNat (i + 1) (by have := HLL.out; omega)
    by_cases hlt : i < l.length
    · have hlti : (i : Int) < (l.length : Int) := by omega
      obtain ⟨xb, xo, rfl, hxl, hxc⟩ := slAt_at (HSL.out wr hB.out) hlt
      obtain ⟨x0, x1, x2, x3, x4, x5, x6, x7, x8, x9, x10, x11, x12⟩ := cellsOpF hxc i hlt
      have hlen : ((l.take i).foldl Lg.add ⟨base, floor, []⟩).ops.length < 500 := by
        have h1 := adds_len (l.take i) ⟨base, floor, []⟩
        rw [List.length_take] at h1
        have h2 := HLL.out
        simp only [List.length_nil] at h1
        omega
      have hdo := add_any w.heap.size w3.heap.size g3 i3 e3 _ l[i]! (wr.alloc (.cells #[.int .i64 l[i]!.stamp.t, .int .i64 l[i]!.stamp.r, .int .i64 l[i]!.kind, .int .i64 l[i]!.at_.t, .int .i64 l[i]!.at_.r, .int .i64 l[i]!.ino.t, .int .i64 l[i]!.ino.r, .int .i64 l[i]!.to.t, .int .i64 l[i]!.to.r, .string l[i]!.name, .string l[i]!.new, .int .i64 l[i]!.off, .string l[i]!.data] 47)) (hL.out.below ((Below.refl _ wr).alloc (Nat.le_refl _) _)) (HNM.out _ (getElem!_mem hlt)) hlen
      have HST2 := Lib.hid (adds_take ⟨base, floor, []⟩ l i hlt)
      have HGE := Lib.hid hL.out.ge
      unfold Op.v at hdo
      clear hxc hlen
      generalize l[i]! = x at x0 x1 x2 x3 x4 x5 x6 x7 x8 x9 x10 x11 x12 hdo HST2
      generalize (l.take i).foldl Lg.add ⟨base, floor, []⟩ = M at hdo HST2
      have HDO := Lib.hid hdo
      clear hdo
      go_wp2_with (go_at_call 54; refine HDO.out.mono ?_; rintro e w5 ⟨rfl, hL5, hb5⟩; have HL5 := Lib.hid hL5; have HB5 := Lib.hid hb5; clear hL5 hb5)
      go_roundg (l.length - (i + 1))
      case measure => omega
      case rel => exact ⟨i + 1, by first | rfl | go_num, by omega, by omega, (show Aside _ from by rw [HST2.out]; exact HL5.out), (show Aside _ from (hB.out.alloc hB.out.size _).trans (HB5.out.below (by have := hB.out.size; simp only [World.size_alloc]; omega) HGE.out.1 HGE.out.2.2.1 HGE.out.2.2.2))⟩
    · obtain rfl : i = l.length := by omega
      have hlti : ¬ (l.length : Int) < (l.length : Int) := by omega
      have HLF : Hid (LogAt w.heap.size wr w3.heap.size g3 i3 e3 (Lg.from base floor l)) := Lib.hid (by have h := hL.out; rw [List.take_length] at h; exact h)
      clear hlt
      go_wp2
      go_ret
      exact ⟨_, _, _, _, rfl, HLF.out, hB.out⟩

set_option maxRecDepth 100000 in
set_option maxHeartbeats 2000000 in
theorem new_log (w : World) : Calls Tryz.prog 57 #[] w (MadeLog w ⟨Gr.new, ⟨0, 0⟩, []⟩) := by
  go_enter Tryz.func57, Tryz.ntmps57
  go_wp2_with fail
  refine (new_g w).mono ?_
  rintro e w1 ⟨v1, rfl, ⟨g1, i1, e1, rfl, hG1, _, _, _⟩, hb1⟩
  have HB1 := Lib.hid hb1
  have HF := Lib.hid (from_any g1 i1 e1 Gr.new ⟨0, 0⟩ (.slice none 0 0) [] w1 hG1 Gr.Ok.new Gr.Thin.new rfl (.inl ⟨_, _, rfl, rfl⟩) (by simp) (by decide))
  clear hG1 hb1
  go_wp2_with fail
  refine HF.out.mono ?_
  rintro e w2 ⟨lb, gb, mI, mE, rfl, hL, hb2⟩
  have HL := Lib.hid (hL.mono HB1.out.size)
  have HB2 := Lib.hid (HB1.out.trans (hb2.mono HB1.out.size))
  clear hL hb2
  go_wp2
  go_ret
  exact ⟨_, _, _, _, rfl, HL.out, HB2.out⟩
end Go.Proofs.YtlokljaeknmdpaaGreat

/-! ## L14 -/
namespace Go.Proofs.YtlokljaeknmdpaaGreat.L14
open Go.RowKit Go.Shelf Go.Proofs

set_option maxRecDepth 100000 in
set_option maxHeartbeats 2000000 in
theorem same_any (gb hb : Nat) (g : Gr) (w : World) (hok : g.Ok) (h1 : Reads gb g w) (h2 : Reads hb g w) : Calls Tryz.prog 48 #[.pointer (some ⟨gb, 0, none⟩), .pointer (some ⟨hb, 0, none⟩)] w fun e w' => e = .returned (.bool true) ∧ Below w.heap.size w w' := by
  have HB0 : Hid (Below w.heap.size w w) := Lib.hid (Below.refl _ _)
  have HI1 := Lib.hid (fun W (hW : Below w.heap.size w W) => h1.inodes W hW)
  have HI2 := Lib.hid (fun W (hW : Below w.heap.size w W) => h2.inodes W hW)
  have HE1 := Lib.hid (fun W (hW : Below w.heap.size w W) => h1.entries W hW)
  have HE2 := Lib.hid (fun W (hW : Below w.heap.size w W) => h2.entries W hW)
  have HL : Hid (g.n.length ≤ 100000 ∧ g.e.length ≤ 100000) := Lib.hid ⟨by have := hok.len; omega, by have := hok.few; omega⟩
  clear h1 h2 hok
  go_enter Tryz.func48, Tryz.ntmps48
  go_wp2_with fail
  refine (HI1.out _ (by first | exact HB0.out | exact HB0.out.alloc HB0.out.size _ | exact (HB0.out.alloc HB0.out.size _).alloc (le_al HB0.out.size) _ | exact ((HB0.out.alloc HB0.out.size _).alloc (le_al HB0.out.size) _).alloc (le_al (le_al HB0.out.size)) _)).mono ?_
  rintro e w1 ⟨a1, c1, rfl, hs1, hb1⟩
  obtain ⟨hc1, hf1⟩ := bcell hb1
  have hs1 := hb1.size
  try simp only [World.size_alloc] at hs1
  try simp only [size_setCell'] at hs1
  try have le1_0 : w.heap.size ≤ w1.heap.size := (by omega)
  try have lt1_0 : w.heap.size < w1.heap.size := (by omega)
  have HB1 : Hid (Below w.heap.size w w1) := Lib.hid (Below.trans (by first | exact HB0.out | exact HB0.out.alloc HB0.out.size _ | exact (HB0.out.alloc HB0.out.size _).alloc (le_al HB0.out.size) _ | exact ((HB0.out.alloc HB0.out.size _).alloc (le_al HB0.out.size) _).alloc (le_al (le_al HB0.out.size)) _) (hb1.mono (by (try simp only [World.size_alloc]); (try simp only [size_setCell']); omega)))
  have HN1 := Lib.hid hb1
  clear hb1 hs1
  have HS1 := Lib.hid hs1
  clear hs1
  go_wp2_with fail
  refine (HI2.out _ (by first | exact HB1.out | exact HB1.out.alloc HB1.out.size _ | exact (HB1.out.alloc HB1.out.size _).alloc (le_al HB1.out.size) _ | exact ((HB1.out.alloc HB1.out.size _).alloc (le_al HB1.out.size) _).alloc (le_al (le_al HB1.out.size)) _ | exact HB0.out | exact HB0.out.alloc HB0.out.size _ | exact (HB0.out.alloc HB0.out.size _).alloc (le_al HB0.out.size) _ | exact ((HB0.out.alloc HB0.out.size _).alloc (le_al HB0.out.size) _).alloc (le_al (le_al HB0.out.size)) _)).mono ?_
  rintro e w2 ⟨a2, c2, rfl, hs2, hb2⟩
  obtain ⟨hc2, hf2⟩ := bcell hb2
  have hs2 := hb2.size
  try simp only [World.size_alloc] at hs2
  try simp only [size_setCell'] at hs2
  try have le2_0 : w.heap.size ≤ w2.heap.size := (by omega)
  try have lt2_0 : w.heap.size < w2.heap.size := (by omega)
  try have le2_1 : w1.heap.size ≤ w2.heap.size := (by omega)
  try have lt2_1 : w1.heap.size < w2.heap.size := (by omega)
  have HB2 : Hid (Below w.heap.size w w2) := Lib.hid (Below.trans (by first | exact HB1.out | exact HB1.out.alloc HB1.out.size _ | exact (HB1.out.alloc HB1.out.size _).alloc (le_al HB1.out.size) _ | exact ((HB1.out.alloc HB1.out.size _).alloc (le_al HB1.out.size) _).alloc (le_al (le_al HB1.out.size)) _ | exact HB0.out | exact HB0.out.alloc HB0.out.size _ | exact (HB0.out.alloc HB0.out.size _).alloc (le_al HB0.out.size) _ | exact ((HB0.out.alloc HB0.out.size _).alloc (le_al HB0.out.size) _).alloc (le_al (le_al HB0.out.size)) _) (hb2.mono (by (try simp only [World.size_alloc]); (try simp only [size_setCell']); omega)))
  have HN2 := Lib.hid hb2
  clear hb2 hs2
  have HN3 := Lib.hid (nodes_same _ _ g.n g.n _ (HS1.out.below HN2.out) hs2 HL.out.1)
  clear hs2
  go_wp2_with fail
  refine (HN3.out).mono ?_
  rintro e w3 ⟨b3, rfl, hb3, hb3⟩
  obtain ⟨hc3, hf3⟩ := bcell hb3
  have hs3 := hb3.size
  try simp only [World.size_alloc] at hs3
  try simp only [size_setCell'] at hs3
  try have le3_0 : w.heap.size ≤ w3.heap.size := (by omega)
  try have lt3_0 : w.heap.size < w3.heap.size := (by omega)
  try have le3_1 : w1.heap.size ≤ w3.heap.size := (by omega)
  try have lt3_1 : w1.heap.size < w3.heap.size := (by omega)
  try have le3_2 : w2.heap.size ≤ w3.heap.size := (by omega)
  try have lt3_2 : w2.heap.size < w3.heap.size := (by omega)
  have HB3 : Hid (Below w.heap.size w w3) := Lib.hid (Below.trans (by first | exact HB2.out | exact HB2.out.alloc HB2.out.size _ | exact (HB2.out.alloc HB2.out.size _).alloc (le_al HB2.out.size) _ | exact ((HB2.out.alloc HB2.out.size _).alloc (le_al HB2.out.size) _).alloc (le_al (le_al HB2.out.size)) _ | exact HB1.out | exact HB1.out.alloc HB1.out.size _ | exact (HB1.out.alloc HB1.out.size _).alloc (le_al HB1.out.size) _ | exact ((HB1.out.alloc HB1.out.size _).alloc (le_al HB1.out.size) _).alloc (le_al (le_al HB1.out.size)) _ | exact HB0.out | exact HB0.out.alloc HB0.out.size _ | exact (HB0.out.alloc HB0.out.size _).alloc (le_al HB0.out.size) _ | exact ((HB0.out.alloc HB0.out.size _).alloc (le_al HB0.out.size) _).alloc (le_al (le_al HB0.out.size)) _) (hb3.mono (by (try simp only [World.size_alloc]); (try simp only [size_setCell']); omega)))
  have HN3 := Lib.hid hb3
  clear hb3 hs3
  obtain rfl := hb3 rfl
  go_wp2_with fail
  refine (HE1.out _ (by first | exact HB3.out | exact HB3.out.alloc HB3.out.size _ | exact (HB3.out.alloc HB3.out.size _).alloc (le_al HB3.out.size) _ | exact ((HB3.out.alloc HB3.out.size _).alloc (le_al HB3.out.size) _).alloc (le_al (le_al HB3.out.size)) _ | exact HB2.out | exact HB2.out.alloc HB2.out.size _ | exact (HB2.out.alloc HB2.out.size _).alloc (le_al HB2.out.size) _ | exact ((HB2.out.alloc HB2.out.size _).alloc (le_al HB2.out.size) _).alloc (le_al (le_al HB2.out.size)) _ | exact HB1.out | exact HB1.out.alloc HB1.out.size _ | exact (HB1.out.alloc HB1.out.size _).alloc (le_al HB1.out.size) _ | exact ((HB1.out.alloc HB1.out.size _).alloc (le_al HB1.out.size) _).alloc (le_al (le_al HB1.out.size)) _ | exact HB0.out | exact HB0.out.alloc HB0.out.size _ | exact (HB0.out.alloc HB0.out.size _).alloc (le_al HB0.out.size) _ | exact ((HB0.out.alloc HB0.out.size _).alloc (le_al HB0.out.size) _).alloc (le_al (le_al HB0.out.size)) _)).mono ?_
  rintro e w4 ⟨a4, c4, rfl, hs4, hb4⟩
  obtain ⟨hc4, hf4⟩ := bcell hb4
  have hs4 := hb4.size
  try simp only [World.size_alloc] at hs4
  try simp only [size_setCell'] at hs4
  try have le4_0 : w.heap.size ≤ w4.heap.size := (by omega)
  try have lt4_0 : w.heap.size < w4.heap.size := (by omega)
  try have le4_1 : w1.heap.size ≤ w4.heap.size := (by omega)
  try have lt4_1 : w1.heap.size < w4.heap.size := (by omega)
  try have le4_2 : w2.heap.size ≤ w4.heap.size := (by omega)
  try have lt4_2 : w2.heap.size < w4.heap.size := (by omega)
  try have le4_3 : w3.heap.size ≤ w4.heap.size := (by omega)
  try have lt4_3 : w3.heap.size < w4.heap.size := (by omega)
  have HB4 : Hid (Below w.heap.size w w4) := Lib.hid (Below.trans (by first | exact HB3.out | exact HB3.out.alloc HB3.out.size _ | exact (HB3.out.alloc HB3.out.size _).alloc (le_al HB3.out.size) _ | exact ((HB3.out.alloc HB3.out.size _).alloc (le_al HB3.out.size) _).alloc (le_al (le_al HB3.out.size)) _ | exact HB2.out | exact HB2.out.alloc HB2.out.size _ | exact (HB2.out.alloc HB2.out.size _).alloc (le_al HB2.out.size) _ | exact ((HB2.out.alloc HB2.out.size _).alloc (le_al HB2.out.size) _).alloc (le_al (le_al HB2.out.size)) _ | exact HB1.out | exact HB1.out.alloc HB1.out.size _ | exact (HB1.out.alloc HB1.out.size _).alloc (le_al HB1.out.size) _ | exact ((HB1.out.alloc HB1.out.size _).alloc (le_al HB1.out.size) _).alloc (le_al (le_al HB1.out.size)) _ | exact HB0.out | exact HB0.out.alloc HB0.out.size _ | exact (HB0.out.alloc HB0.out.size _).alloc (le_al HB0.out.size) _ | exact ((HB0.out.alloc HB0.out.size _).alloc (le_al HB0.out.size) _).alloc (le_al (le_al HB0.out.size)) _) (hb4.mono (by (try simp only [World.size_alloc]); (try simp only [size_setCell']); omega)))
  have HN4 := Lib.hid hb4
  clear hb4 hs4
  have HS4 := Lib.hid hs4
  clear hs4
  go_wp2_with fail
  refine (HE2.out _ (by first | exact HB4.out | exact HB4.out.alloc HB4.out.size _ | exact (HB4.out.alloc HB4.out.size _).alloc (le_al HB4.out.size) _ | exact ((HB4.out.alloc HB4.out.size _).alloc (le_al HB4.out.size) _).alloc (le_al (le_al HB4.out.size)) _ | exact HB3.out | exact HB3.out.alloc HB3.out.size _ | exact (HB3.out.alloc HB3.out.size _).alloc (le_al HB3.out.size) _ | exact ((HB3.out.alloc HB3.out.size _).alloc (le_al HB3.out.size) _).alloc (le_al (le_al HB3.out.size)) _ | exact HB2.out | exact HB2.out.alloc HB2.out.size _ | exact (HB2.out.alloc HB2.out.size _).alloc (le_al HB2.out.size) _ | exact ((HB2.out.alloc HB2.out.size _).alloc (le_al HB2.out.size) _).alloc (le_al (le_al HB2.out.size)) _ | exact HB1.out | exact HB1.out.alloc HB1.out.size _ | exact (HB1.out.alloc HB1.out.size _).alloc (le_al HB1.out.size) _ | exact ((HB1.out.alloc HB1.out.size _).alloc (le_al HB1.out.size) _).alloc (le_al (le_al HB1.out.size)) _ | exact HB0.out | exact HB0.out.alloc HB0.out.size _ | exact (HB0.out.alloc HB0.out.size _).alloc (le_al HB0.out.size) _ | exact ((HB0.out.alloc HB0.out.size _).alloc (le_al HB0.out.size) _).alloc (le_al (le_al HB0.out.size)) _)).mono ?_
  rintro e w5 ⟨a5, c5, rfl, hs5, hb5⟩
  obtain ⟨hc5, hf5⟩ := bcell hb5
  have hs5 := hb5.size
  try simp only [World.size_alloc] at hs5
  try simp only [size_setCell'] at hs5
  try have le5_0 : w.heap.size ≤ w5.heap.size := (by omega)
  try have lt5_0 : w.heap.size < w5.heap.size := (by omega)
  try have le5_1 : w1.heap.size ≤ w5.heap.size := (by omega)
  try have lt5_1 : w1.heap.size < w5.heap.size := (by omega)
  try have le5_2 : w2.heap.size ≤ w5.heap.size := (by omega)
  try have lt5_2 : w2.heap.size < w5.heap.size := (by omega)
  try have le5_3 : w3.heap.size ≤ w5.heap.size := (by omega)
  try have lt5_3 : w3.heap.size < w5.heap.size := (by omega)
  try have le5_4 : w4.heap.size ≤ w5.heap.size := (by omega)
  try have lt5_4 : w4.heap.size < w5.heap.size := (by omega)
  have HB5 : Hid (Below w.heap.size w w5) := Lib.hid (Below.trans (by first | exact HB4.out | exact HB4.out.alloc HB4.out.size _ | exact (HB4.out.alloc HB4.out.size _).alloc (le_al HB4.out.size) _ | exact ((HB4.out.alloc HB4.out.size _).alloc (le_al HB4.out.size) _).alloc (le_al (le_al HB4.out.size)) _ | exact HB3.out | exact HB3.out.alloc HB3.out.size _ | exact (HB3.out.alloc HB3.out.size _).alloc (le_al HB3.out.size) _ | exact ((HB3.out.alloc HB3.out.size _).alloc (le_al HB3.out.size) _).alloc (le_al (le_al HB3.out.size)) _ | exact HB2.out | exact HB2.out.alloc HB2.out.size _ | exact (HB2.out.alloc HB2.out.size _).alloc (le_al HB2.out.size) _ | exact ((HB2.out.alloc HB2.out.size _).alloc (le_al HB2.out.size) _).alloc (le_al (le_al HB2.out.size)) _ | exact HB1.out | exact HB1.out.alloc HB1.out.size _ | exact (HB1.out.alloc HB1.out.size _).alloc (le_al HB1.out.size) _ | exact ((HB1.out.alloc HB1.out.size _).alloc (le_al HB1.out.size) _).alloc (le_al (le_al HB1.out.size)) _ | exact HB0.out | exact HB0.out.alloc HB0.out.size _ | exact (HB0.out.alloc HB0.out.size _).alloc (le_al HB0.out.size) _ | exact ((HB0.out.alloc HB0.out.size _).alloc (le_al HB0.out.size) _).alloc (le_al (le_al HB0.out.size)) _) (hb5.mono (by (try simp only [World.size_alloc]); (try simp only [size_setCell']); omega)))
  have HN5 := Lib.hid hb5
  clear hb5 hs5
  have HN6 := Lib.hid (entries_same _ _ g.e g.e _ (HS4.out.below HN5.out) hs5 HL.out.2)
  clear hs5
  go_wp2_with fail
  refine (HN6.out).mono ?_
  rintro e w6 ⟨b6, rfl, hb6, hb6⟩
  obtain ⟨hc6, hf6⟩ := bcell hb6
  have hs6 := hb6.size
  try simp only [World.size_alloc] at hs6
  try simp only [size_setCell'] at hs6
  try have le6_0 : w.heap.size ≤ w6.heap.size := (by omega)
  try have lt6_0 : w.heap.size < w6.heap.size := (by omega)
  try have le6_1 : w1.heap.size ≤ w6.heap.size := (by omega)
  try have lt6_1 : w1.heap.size < w6.heap.size := (by omega)
  try have le6_2 : w2.heap.size ≤ w6.heap.size := (by omega)
  try have lt6_2 : w2.heap.size < w6.heap.size := (by omega)
  try have le6_3 : w3.heap.size ≤ w6.heap.size := (by omega)
  try have lt6_3 : w3.heap.size < w6.heap.size := (by omega)
  try have le6_4 : w4.heap.size ≤ w6.heap.size := (by omega)
  try have lt6_4 : w4.heap.size < w6.heap.size := (by omega)
  try have le6_5 : w5.heap.size ≤ w6.heap.size := (by omega)
  try have lt6_5 : w5.heap.size < w6.heap.size := (by omega)
  have HB6 : Hid (Below w.heap.size w w6) := Lib.hid (Below.trans (by first | exact HB5.out | exact HB5.out.alloc HB5.out.size _ | exact (HB5.out.alloc HB5.out.size _).alloc (le_al HB5.out.size) _ | exact ((HB5.out.alloc HB5.out.size _).alloc (le_al HB5.out.size) _).alloc (le_al (le_al HB5.out.size)) _ | exact HB4.out | exact HB4.out.alloc HB4.out.size _ | exact (HB4.out.alloc HB4.out.size _).alloc (le_al HB4.out.size) _ | exact ((HB4.out.alloc HB4.out.size _).alloc (le_al HB4.out.size) _).alloc (le_al (le_al HB4.out.size)) _ | exact HB3.out | exact HB3.out.alloc HB3.out.size _ | exact (HB3.out.alloc HB3.out.size _).alloc (le_al HB3.out.size) _ | exact ((HB3.out.alloc HB3.out.size _).alloc (le_al HB3.out.size) _).alloc (le_al (le_al HB3.out.size)) _ | exact HB2.out | exact HB2.out.alloc HB2.out.size _ | exact (HB2.out.alloc HB2.out.size _).alloc (le_al HB2.out.size) _ | exact ((HB2.out.alloc HB2.out.size _).alloc (le_al HB2.out.size) _).alloc (le_al (le_al HB2.out.size)) _ | exact HB1.out | exact HB1.out.alloc HB1.out.size _ | exact (HB1.out.alloc HB1.out.size _).alloc (le_al HB1.out.size) _ | exact ((HB1.out.alloc HB1.out.size _).alloc (le_al HB1.out.size) _).alloc (le_al (le_al HB1.out.size)) _ | exact HB0.out | exact HB0.out.alloc HB0.out.size _ | exact (HB0.out.alloc HB0.out.size _).alloc (le_al HB0.out.size) _ | exact ((HB0.out.alloc HB0.out.size _).alloc (le_al HB0.out.size) _).alloc (le_al (le_al HB0.out.size)) _) (hb6.mono (by (try simp only [World.size_alloc]); (try simp only [size_setCell']); omega)))
  have HN6 := Lib.hid hb6
  clear hb6 hs6
  obtain rfl := hb6 rfl
  go_wp2
  go_ret
  exact ⟨rfl, (by first | exact HB6.out | exact HB6.out.alloc HB6.out.size _ | exact (HB6.out.alloc HB6.out.size _).alloc (le_al HB6.out.size) _ | exact ((HB6.out.alloc HB6.out.size _).alloc (le_al HB6.out.size) _).alloc (le_al (le_al HB6.out.size)) _)⟩

def shA : Op := ⟨⟨2, 0⟩, 2, ⟨0, 0⟩, ⟨0, 0⟩, ⟨0, 0⟩, ⟨#[102]⟩, ⟨#[]⟩, 0, ⟨#[]⟩⟩
def shB : Op := ⟨⟨1, 0⟩, 1, ⟨0, 0⟩, ⟨0, 0⟩, ⟨0, 0⟩, ⟨#[102]⟩, ⟨#[]⟩, 0, ⟨#[]⟩⟩
noncomputable def L0 : Lg := ⟨Gr.new, ⟨0, 0⟩, []⟩
theorem sh0 : L0.addB shA = true := by kernel_rfl
theorem sh1 : (L0.add shA).addB shB = true := by kernel_rfl
theorem shO : ((L0.add shA).add shB).ops = [shB, shA] := by kernel_rfl
theorem shBs : ((L0.add shA).add shB).base = Gr.new := by kernel_rfl
theorem shN1 : L0.ops.length < 500 := by decide
theorem shN2 : (L0.add shA).ops.length < 500 := by
  have h : (L0.add shA).ops.length = 1 := by kernel_rfl
  omega
theorem shW : Gr.new.opWhy shB = 0 := by kernel_rfl
theorem shG : Gr.new.apply shB = Gr.new.grown shB := by
  obtain ⟨hm, hkw⟩ := opWhy_zero shW
  rw [apply_zero shW]
  rw [kindWhy_make (Or.inl rfl)] at hkw
  exact (Gr.Ok.new.does_make (Or.inl rfl) hm hkw).1
theorem shW2 : (Gr.new.grown shB).opWhy shA = 4 := by kernel_rfl
theorem shR : ((L0.add shA).add shB).g = Gr.new.grown shB := by
  unfold Lg.g
  rw [shO, shBs]
  show (Gr.new.apply shB).apply shA = _
  rw [shG, apply_err (by rw [shW2]; decide)]
theorem shK : (((L0.add shA).add shB).g).look ⟨⟨0, 0⟩, ⟨#[102]⟩⟩ = some ⟨1, 0⟩ := by rw [shR]; kernel_rfl
theorem shSA : shA.Small := by unfold Op.Small shA reachBytes; decide
theorem shSB : shB.Small := by unfold Op.Small shB reachBytes; decide

set_option maxRecDepth 100000 in
set_option maxHeartbeats 2000000 in
theorem shown_any (w : World) : Calls Tryz.prog 46 #[] w fun x w' => x = .returned (.bool true) ∧ Below w.heap.size w w' := by
  go_enter Tryz.func46, Tryz.ntmps46
  go_wp2_with fail
  refine (new_log w).mono ?_
  rintro e w1 ⟨lb, gb, mI, mE, rfl, hL1, hb1⟩
  have HB1 := Lib.hid hb1
  have HGE := Lib.hid hL1.ge
  have HD1 := Lib.hid (add_any _ lb gb mI mE L0 shA w1 hL1 shSA shN1)
  rw [sh0] at HD1
  clear hL1 hb1
  go_wp2_with fail
  refine HD1.out.mono ?_
  rintro e w2 ⟨rfl, hL2, hb2⟩
  have HB2 := Lib.hid (HB1.out.trans (hb2.below HB1.out.size HGE.out.1 HGE.out.2.2.1 HGE.out.2.2.2))
  have HD2 := Lib.hid (add_any _ lb gb mI mE (L0.add shA) shB w2 hL2 shSB shN2)
  rw [sh1] at HD2
  clear hL2 hb2
  go_wp2_with fail
  refine HD2.out.mono ?_
  rintro e w3 ⟨rfl, hL3, hb3⟩
  have HB3 := Lib.hid (HB2.out.trans (hb3.below HB2.out.size HGE.out.1 HGE.out.2.2.1 HGE.out.2.2.2))
  have HL3 := Lib.hid hL3
  have HOK := Lib.hid hL3.ok
  clear hL3 hb3
  go_wp2_with fail
  refine (graph_l _ lb gb mI mE _ w3 HL3.out).mono ?_
  rintro e w4 ⟨v4, rfl, ⟨g4, nI, nE, rfl, hG4, _, _, _⟩, hb4⟩
  have hgo : (((L0.add shA).add shB).g).Ok := runs_ok _ HOK.out.base
  have hR := hG4.reads hgo (by have := hgo.few; omega)
  have HLK := Lib.hid (fun W hW => hR.look ⟨⟨0, 0⟩, ⟨#[102]⟩⟩ ⟨1, 0⟩ true W (by rw [shK]; rfl) (by rw [shK]; rfl) hW)
  have HB4 := Lib.hid (HB3.out.trans (hb4.mono HB3.out.size))
  have HN4 := Lib.hid hb4
  clear hG4 hb4 hR hgo
  go_wp2_with fail
  refine (HLK.out w4 (Below.refl _ _)).mono ?_
  rintro e w5 ⟨rfl, hb5⟩
  have HB5 := Lib.hid (HB4.out.trans (hb5.mono HB4.out.size))
  have HL5 := Lib.hid (HL3.out.below (HN4.out.trans (hb5.mono HN4.out.size)))
  have hlk : ∀ w, (binOp .eql 31 (.agg #[.int .i64 1, .int .i64 0]) (.agg #[.int .i64 1, .int .i64 0])).run Tryz.prog w = .ok (.bool true) w := fun w => by
    have := eql_st ⟨1, 0⟩ ⟨1, 0⟩ w
    simpa using this
  clear hb5
  go_wp2_with fail
  refine (ops_l _ lb gb mI mE _ _ (HL5.out.below ((Below.refl _ w5).alloc (Nat.le_refl _) _))).mono ?_
  rintro e w6 ⟨v6, rfl, hr6, hb6⟩
  obtain ⟨a6, c6, rfl⟩ := hr6.shape
  rw [shO]
  have HB6 := Lib.hid ((HB5.out.alloc HB5.out.size _).trans (hb6.mono (by have := HB5.out.size; simp only [World.size_alloc]; omega)))
  clear hr6 hb6
  go_wp2
  go_ret
  exact ⟨rfl, HB6.out⟩
end Go.Proofs.YtlokljaeknmdpaaGreat.L14

/-! ## RegM -/
namespace Go.Proofs.YtlokljaeknmdpaaGreat

section
variable {P : Program} {ops : Array Oper} {Q : Exit → Act → World → Prop} {md : Region.Mode} {S : World → Prop}
/-- is none of the late operations listed? -/
def noLate (late : List Nat) (listed : Array Bool) : Bool := late.all fun n => !(listed.getD n true)
/-- whatever order is picked; as long as no late operation came, S holds -/
def wpAnyM (late : List Nat) (P : Program) (md : Region.Mode) (ops : Array Oper) (Q : Exit → Act → World → Prop) (S : World → Prop) : Nat → Array Bool → Act → World → Prop
  | 0, listed, a, w => Region.ready md ops listed = [] ∧ Q .normal a w
  | fuel + 1, listed, a, w => (Region.ready md ops listed = [] → Q .normal a w) ∧ ∀ i ∈ Region.ready md ops listed, wpOp P ops Q i (fun a' w' => (noLate late (listed.setIfInBounds i true) = true → S w') ∧ wpAnyM late P md ops Q S fuel (listed.setIfInBounds i true) a' w') a w
theorem wpAny_of_M (late : List Nat) : ∀ (fuel : Nat) (listed : Array Bool) (a : Act) (w : World), wpAnyM late P md ops Q S fuel listed a w → wpAny P md ops Q fuel listed a w
  | 0, _, _, _, h => h
  | fuel + 1, _, _, _, h => ⟨h.1, fun i hi => wpOp_mono (fun a' w' h' => wpAny_of_M late fuel _ a' w' h'.2) (h.2 i hi)⟩
theorem noLate_set {late : List Nat} {listed : Array Bool} {j : Nat} (hj : late.contains j = false) (h : noLate late listed = true) : noLate late (listed.setIfInBounds j true) = true := by
  unfold noLate at *
  rw [List.all_eq_true] at *
  intro n hn
  have hnj : j ≠ n := by rintro rfl; rw [List.contains_iff_mem.2 hn] at hj; cases hj
  rw [getD_set_ne true hnj]
  exact h n hn
theorem noLate_of_set {late : List Nat} {listed : Array Bool} {j : Nat} (hj : late.contains j = false) (h : noLate late (listed.setIfInBounds j true) = true) : noLate late listed = true := by
  unfold noLate at *
  rw [List.all_eq_true] at *
  intro n hn
  have hnj : j ≠ n := by rintro rfl; rw [List.contains_iff_mem.2 hn] at hj; cases hj
  have := h n hn
  rw [getD_set_ne true hnj] at this
  exact this
/-- does operation number n wait for number i? -/
def waitsM (md : Region.Mode) (ops : Array Oper) (n i : Nat) : Bool := ((ops[n]?).map fun o => o.after.any fun e => Region.binds md e && e.on == i).getD false
theorem waitsM_not {n i : Nat} {listed : Array Bool} (hw : waitsM md ops n i = true) (hi : listed.getD i true = false) : n ∉ Region.ready md ops listed := by
  intro hr
  obtain ⟨_, o, ho, hall⟩ := mem_ready.1 hr
  unfold waitsM at hw
  rw [ho] at hw
  simp only [Option.map_some, Option.getD_some, Array.any_eq_true] at hw
  obtain ⟨k, hk, hb⟩ := hw
  simp only [Bool.and_eq_true, beq_iff_eq] at hb
  have h1 := hall _ (Array.getElem_mem hk) hb.1
  rw [hb.2] at h1
  rcases Nat.lt_or_ge i listed.size with h' | h'
  · simp [h'] at hi h1
    rw [hi] at h1
    cases h1
  · simp [Array.getElem?_eq_none h'] at h1
theorem wpAnyM_first {late : List Nat} {i : Nat} {oi : Oper} {v : Value} (hi : ops[i]? = some oi) (hw : late.all (fun n => waitsM md ops n i) = true) (hni : late.contains i = false) (hsel : ∀ (j : Nat) (o : Oper) cs b, ops[j]? = some o → o.op ≠ .select cs b)
    (hQ : ∀ c a w, Q (.panic c) (a.put oi.dst v) w → Q (.panic c) a w) :
    ∀ (fuel : Nat) (listed : Array Bool) (a : Act) (w : World), noLate late listed = true →
      (∀ j oj, ops[j]? = some oj → j ≠ i → listed.getD j true = false → (∀ e ∈ oj.after, Region.binds md e = true → e.on ≠ i) → oi.apart ops oj = true) →
      i ∈ Region.ready md ops listed → YieldsIf P ops S oi v a → S w →
      wpAnyM late P md ops Q S fuel (listed.setIfInBounds i true) (a.put oi.dst v) w → wpAnyM late P md ops Q S (fuel + 1) listed a w
  | fuel, listed, a, w, hnl, hfree, hr, hy, hS, H => by
    refine ⟨fun h => (by rw [h] at hr; cases hr), fun j hj => ?_⟩
    by_cases hji : j = i
    · subst hji
      exact hy.wpOp hi hS ⟨fun _ => hS, H⟩
    · have hli := (mem_ready.1 hr).1
      have hjn : late.contains j = false := by
        cases hc : late.contains j with
        | false => rfl
        | true => exact absurd hj (waitsM_not (List.all_eq_true.1 hw j (List.contains_iff_mem.1 hc)) hli)
      have hjr := ready_mono hj hji
      cases fuel with
      | zero => rw [H.1] at hjr; cases hjr
      | succ fuel =>
        have h1 := H.2 j hjr
        obtain ⟨hjun, oj, hoj, hall⟩ := mem_ready.1 hj
        have hnot : ∀ e ∈ oj.after, Region.binds md e = true → e.on ≠ i := fun e he hb heq => by
          have h2 := hall e he hb
          rw [heq] at h2
          rcases Nat.lt_or_ge i listed.size with h' | h'
          · simp [h'] at hli h2
            rw [hli] at h2
            cases h2
          · simp [Array.getElem?_eq_none h'] at h2
        have h2 := wpOp_putIf hoj (hfree j oj hoj hji hjun hnot) (fun cs b => hsel i oi cs b hi) (fun cs b => hsel j oj cs b hoj) hQ hy h1
        have hl1 := noLate_set (j := j) hjn hnl
        have hl2 := noLate_set (j := j) hjn (noLate_set (j := i) hni hnl)
        refine wpOp_mono (fun a' w' h3 => ⟨fun _ => h3.2.1 hl2, wpAnyM_first hi hw hni hsel hQ fuel (listed.setIfInBounds j true) a' w' hl1 (fun k ok hk hki hun hno => hfree k ok hk hki ?_ hno) (ready_mono hr (Ne.symm hji)) h3.1 (h3.2.1 hl2) ?_⟩) h2
        · by_cases hjk : j = k
          · subst hjk; exact hjun
          · rw [getD_set_ne true hjk] at hun; exact hun
        · rw [Array.setIfInBounds_comm _ _ hji]
          exact h3.2.2
/-- an operation that reads no memory may be taken first though late ones don't wait for it -/
theorem wpAnyM_firstF {late : List Nat} {i : Nat} {oi : Oper} {v : Value} (hi : ops[i]? = some oi) (hni : late.contains i = false) (hsel : ∀ (j : Nat) (o : Oper) cs b, ops[j]? = some o → o.op ≠ .select cs b)
    (hQ : ∀ c a w, Q (.panic c) (a.put oi.dst v) w → Q (.panic c) a w) :
    ∀ (fuel : Nat) (listed : Array Bool) (a : Act) (w : World),
      (∀ j oj, ops[j]? = some oj → j ≠ i → listed.getD j true = false → (∀ e ∈ oj.after, Region.binds md e = true → e.on ≠ i) → oi.apart ops oj = true) →
      i ∈ Region.ready md ops listed → YieldsIf P ops (fun _ => True) oi v a → (noLate late listed = true → S w) →
      wpAnyM late P md ops Q S fuel (listed.setIfInBounds i true) (a.put oi.dst v) w → wpAnyM late P md ops Q S (fuel + 1) listed a w
  | fuel, listed, a, w, hfree, hr, hy, hS, H => by
    refine ⟨fun h => (by rw [h] at hr; cases hr), fun j hj => ?_⟩
    by_cases hji : j = i
    · subst hji
      exact hy.wpOp hi trivial ⟨fun hl => hS (noLate_of_set hni hl), H⟩
    · have hli := (mem_ready.1 hr).1
      have hjr := ready_mono hj hji
      cases fuel with
      | zero => rw [H.1] at hjr; cases hjr
      | succ fuel =>
        have h1 := H.2 j hjr
        obtain ⟨hjun, oj, hoj, hall⟩ := mem_ready.1 hj
        have hnot : ∀ e ∈ oj.after, Region.binds md e = true → e.on ≠ i := fun e he hb heq => by
          have h2 := hall e he hb
          rw [heq] at h2
          rcases Nat.lt_or_ge i listed.size with h' | h'
          · simp [h'] at hli h2
            rw [hli] at h2
            cases h2
          · simp [Array.getElem?_eq_none h'] at h2
        have h2 := wpOp_putIf hoj (hfree j oj hoj hji hjun hnot) (fun cs b => hsel i oi cs b hi) (fun cs b => hsel j oj cs b hoj) hQ hy h1
        have hl1 : noLate late (listed.setIfInBounds j true) = true → noLate late ((listed.setIfInBounds i true).setIfInBounds j true) = true := fun h => by
          rw [Array.setIfInBounds_comm _ _ (Ne.symm hji)]
          exact noLate_set hni h
        refine wpOp_mono (fun a' w' h3 => ⟨fun h => h3.2.1 (hl1 h), wpAnyM_firstF hi hni hsel hQ fuel (listed.setIfInBounds j true) a' w' (fun k ok hk hki hun hno => hfree k ok hk hki ?_ hno) (ready_mono hr (Ne.symm hji)) h3.1 (fun h => h3.2.1 (hl1 h)) ?_⟩) h2
        · by_cases hjk : j = k
          · subst hjk; exact hjun
          · rw [getD_set_ne true hjk] at hun; exact hun
        · rw [Array.setIfInBounds_comm _ _ hji]
          exact h3.2.2
theorem wpAnyM_take {late : List Nat} {i : Nat} {oi : Oper} {v : Value} {fuel : Nat} {listed : Array Bool} {a : Act} {w : World} (hi : ops[i]? = some oi)
    (hs : Region.noSelect ops = true) (hw : late.all (fun n => waitsM md ops n i) = true) (hni : late.contains i = false) (hnl : noLate late listed = true) (hf : Region.free md ops listed i = true) (hr : (Region.ready md ops listed).contains i = true)
    (hQ : ∀ c a w, Q (.panic c) (a.put oi.dst v) w → Q (.panic c) a w) (hy : YieldsIf P ops S oi v a) (hS : S w)
    (h : wpAnyM late P md ops Q S fuel (listed.setIfInBounds i true) (a.put oi.dst v) w) : wpAnyM late P md ops Q S (fuel + 1) listed a w :=
  wpAnyM_first hi hw hni (Region.noSelect_spec hs) hQ fuel listed a w hnl (Region.free_spec hi hf) (by simpa using hr) hy hS h
theorem wpAnyM_takeF {late : List Nat} {i : Nat} {oi : Oper} {v : Value} {fuel : Nat} {listed : Array Bool} {a : Act} {w : World} (hi : ops[i]? = some oi)
    (hs : Region.noSelect ops = true) (hni : late.contains i = false) (hf : Region.free md ops listed i = true) (hr : (Region.ready md ops listed).contains i = true)
    (hQ : ∀ c a w, Q (.panic c) (a.put oi.dst v) w → Q (.panic c) a w) (hy : YieldsIf P ops (fun _ => True) oi v a) (hS : S w)
    (h : wpAnyM late P md ops Q S fuel (listed.setIfInBounds i true) (a.put oi.dst v) w) : wpAnyM late P md ops Q S (fuel + 1) listed a w :=
  wpAnyM_firstF hi hni (Region.noSelect_spec hs) hQ fuel listed a w (Region.free_spec hi hf) (by simpa using hr) hy (fun _ => hS) h
/-- the slot by its number: so the temporaries stay a list of values -/
theorem wpAnyM_takeD {late : List Nat} {i : Nat} (d : Nat) {oi : Oper} {v : Value} {fuel : Nat} {listed : Array Bool} {a : Act} {w : World} (hi : ops[i]? = some oi) (hd : oi.dst = some d)
    (hs : Region.noSelect ops = true) (hw : late.all (fun n => waitsM md ops n i) = true) (hni : late.contains i = false) (hnl : noLate late listed = true) (hf : Region.free md ops listed i = true) (hr : (Region.ready md ops listed).contains i = true)
    (hQ : ∀ c a w, Q (.panic c) (a.put oi.dst v) w → Q (.panic c) a w) (hy : YieldsIf P ops S oi v a) (hS : S w)
    (h : wpAnyM late P md ops Q S fuel (listed.setIfInBounds i true) (a.put (some d) v) w) : wpAnyM late P md ops Q S (fuel + 1) listed a w := by
  rw [← hd] at h
  exact wpAnyM_take hi hs hw hni hnl hf hr hQ hy hS h
/-- only one may come up -/
theorem wpAnyM_one {late : List Nat} {i : Nat} {o : Oper} {fuel : Nat} {listed : Array Bool} {a : Act} {w : World} (hr : Region.ready md ops listed = [i]) (hi : ops[i]? = some o) (hg : o.guard = none)
    (h : o.wp P a w (fun a' w' => S w' ∧ wpAnyM late P md ops Q S fuel (listed.setIfInBounds i true) a' w') Q) : wpAnyM late P md ops Q S (fuel + 1) listed a w := by
  refine ⟨fun h0 => (by rw [hr] at h0; cases h0), fun j hj => ?_⟩
  rw [hr] at hj
  obtain rfl := List.mem_singleton.1 hj
  refine wpOp_mono (K := fun a' w' => S w' ∧ wpAnyM late P md ops Q S fuel (listed.setIfInBounds j true) a' w') (fun a' w' h => ⟨fun _ => h.1, h.2⟩) ?_
  unfold wpOp
  rw [hi]
  simp only [Region.wanted, hg, if_true]
  exact .inl h
/-- only one may come up, guarded -/
theorem wpAnyM_oneG {late : List Nat} {i : Nat} {o : Oper} {fuel : Nat} {listed : Array Bool} {a : Act} {w : World} (hr : Region.ready md ops listed = [i]) (hi : ops[i]? = some o) (hg : Region.wanted o (yielded ops a.tmps) = true)
    (h : o.wp P a w (fun a' w' => S w' ∧ wpAnyM late P md ops Q S fuel (listed.setIfInBounds i true) a' w') Q) : wpAnyM late P md ops Q S (fuel + 1) listed a w := by
  refine ⟨fun h0 => (by rw [hr] at h0; cases h0), fun j hj => ?_⟩
  rw [hr] at hj
  obtain rfl := List.mem_singleton.1 hj
  refine wpOp_mono (K := fun a' w' => S w' ∧ wpAnyM late P md ops Q S fuel (listed.setIfInBounds j true) a' w') (fun a' w' h => ⟨fun _ => h.1, h.2⟩) ?_
  unfold wpOp
  rw [hi]
  simp only [hg, if_true]
  exact .inl h
/-- only one may come up, and a late one came -/
theorem wpAnyM_late {late : List Nat} {i : Nat} {o : Oper} {fuel : Nat} {listed : Array Bool} {a : Act} {w : World} (hr : Region.ready md ops listed = [i]) (hi : ops[i]? = some o) (hg : o.guard = none) (hl : noLate late (listed.setIfInBounds i true) = false)
    (h : o.wp P a w (fun a' w' => wpAnyM late P md ops Q S fuel (listed.setIfInBounds i true) a' w') Q) : wpAnyM late P md ops Q S (fuel + 1) listed a w := by
  refine ⟨fun h0 => (by rw [hr] at h0; cases h0), fun j hj => ?_⟩
  rw [hr] at hj
  obtain rfl := List.mem_singleton.1 hj
  refine wpOp_mono (K := fun a' w' => wpAnyM late P md ops Q S fuel (listed.setIfInBounds j true) a' w') (fun a' w' h => ⟨fun h0 => (by rw [hl] at h0; cases h0), h⟩) ?_
  unfold wpOp
  rw [hi]
  simp only [Region.wanted, hg, if_true]
  exact .inl h
theorem wpAnyM_done {late : List Nat} {listed : Array Bool} {a : Act} {w : World} (hr : Region.ready md ops listed = []) (h : Q .normal a w) : ∀ fuel, wpAnyM late P md ops Q S fuel listed a w
  | 0 => ⟨hr, h⟩
  | _ + 1 => ⟨fun _ => h, by rw [hr]; simp⟩
theorem wp_region_M (late : List Nat) {id : Nat} {a : Act} {w : World} (hm : P.follows .mixedOrders = true)
    (h : wpAnyM late P .any ops Q S ops.size (Array.replicate ops.size false) a w.drew) : (Code.region id ops true).wp P Q a w :=
  wp_region_any hm (wpAny_of_M late _ _ _ _ h)
end
end Go.Proofs.YtlokljaeknmdpaaGreat

/-! ## LogG -/
namespace Go.Proofs.YtlokljaeknmdpaaGreat
open Go.RowKit Go.Shelf Go.Sort Go.Proofs
open L12 (Raw Raw.cells infoRec)

set_option maxRecDepth 100000 in
set_option maxHeartbeats 4000000 in
theorem compact_may_not (B lb gb mI mE : Nat) (L : Lg) (s : St) (w : World) (h : LogAt B w lb gb mI mE L) (hm : mayB s.t s.r = false) :
    Calls Tryz.prog 53 #[.pointer (some ⟨lb, 0, none⟩), s.v] w fun e w' => e = .returned (.int .i64 0) ∧ Below w.heap.size w w' := by
  obtain ⟨bb, bI, bE, vo, vr, rs, h1, h2, h3, h4, h5, h6, h7⟩ := h.parts
  obtain ⟨W0, hW0⟩ : ∃ W0, W0 = w.alloc (.cells #[.int .i64 s.t, .int .i64 s.r] 31) := ⟨_, rfl⟩
  have HBW : Hid (Below w.heap.size w W0 ∧ w.heap.size + 1 ≤ W0.heap.size) := Lib.hid ⟨by rw [hW0]; exact (Below.refl _ _).alloc (Nat.le_refl _) _, by rw [hW0]; simp only [World.size_alloc]; omega⟩
  have HM := Lib.hid (fun W => (may_any s.t s.r W).mono fun e w' (h : _ ∧ _) => (⟨h.1, h.2.below⟩ : e = .returned (.bool (mayB s.t s.r)) ∧ Below W.heap.size W w'))
  rw [hm] at HM
  have HJ : Hid (∀ W, Below W0.heap.size W0 W → (fun W : World => W.cell? ⟨lb, 0, none⟩ = some (.pointer (some ⟨bb, 0, none⟩)) ∧ W.cell? ⟨lb, 1, none⟩ = some (.pointer (some ⟨gb, 0, none⟩)) ∧ W.cell? ⟨lb, 2, none⟩ = some (.int .i64 L.floor.t) ∧ W.cell? ⟨lb, 3, none⟩ = some (.int .i64 L.floor.r) ∧ W.cell? ⟨lb, 4, none⟩ = some (vo) ∧ W.cell? ⟨lb, 5, none⟩ = some (vr) ∧ W.cell? ⟨w.heap.size, 0, none⟩ = some (.int .i64 s.t) ∧ W.cell? ⟨w.heap.size, 1, none⟩ = some (.int .i64 s.r)) W) := Lib.hid fun W hW => by
    have hl := h.lt.1
    have hb : W.heap[lb]? = _ := (hW.block lb (by have := HBW.out.1.size; omega)).trans ((HBW.out.1.block lb hl).trans h1)
    have hs : W.heap[w.heap.size]? = some (.cells #[.int .i64 s.t, .int .i64 s.r] 31) := (hW.block _ (by have := HBW.out.2; omega)).trans (by rw [hW0]; exact World.alloc_heap_new _ _)
    obtain ⟨c0, c1, c2, c3, c4, c5⟩ := log_cells hb
    exact ⟨c0, c1, c2, c3, c4, c5, cell_at hs 0 _ rfl, cell_at hs 1 _ rfl⟩
  have HBQ : Hid (Below W0.heap.size W0 W0) := Lib.hid (Below.refl _ _)
  unfold St.v
  clear h h1 h2 h3 h4 h5 h6 h7 hm
  go_enter Tryz.func53, Tryz.ntmps53
  go_wp2_with fail
  rw [← hW0]
  clear hW0
  have q0 : ∀ d os, (grow (redrawn W0 d) os).cell? ⟨lb, 0, none⟩ = some (.pointer (some ⟨bb, 0, none⟩)) := fun d os => (HJ.out _ (below_regrown W0 d os)).1
  have q1 : ∀ d os, (grow (redrawn W0 d) os).cell? ⟨lb, 1, none⟩ = some (.pointer (some ⟨gb, 0, none⟩)) := fun d os => (HJ.out _ (below_regrown W0 d os)).2.1
  have q2 : ∀ d os, (grow (redrawn W0 d) os).cell? ⟨lb, 2, none⟩ = some (.int .i64 L.floor.t) := fun d os => (HJ.out _ (below_regrown W0 d os)).2.2.1
  have q3 : ∀ d os, (grow (redrawn W0 d) os).cell? ⟨lb, 3, none⟩ = some (.int .i64 L.floor.r) := fun d os => (HJ.out _ (below_regrown W0 d os)).2.2.2.1
  have q4 : ∀ d os, (grow (redrawn W0 d) os).cell? ⟨lb, 4, none⟩ = some (vo) := fun d os => (HJ.out _ (below_regrown W0 d os)).2.2.2.2.1
  have q5 : ∀ d os, (grow (redrawn W0 d) os).cell? ⟨lb, 5, none⟩ = some (vr) := fun d os => (HJ.out _ (below_regrown W0 d os)).2.2.2.2.2.1
  have q6 : ∀ d os, (grow (redrawn W0 d) os).cell? ⟨w.heap.size, 0, none⟩ = some (.int .i64 s.t) := fun d os => (HJ.out _ (below_regrown W0 d os)).2.2.2.2.2.2.1
  have q7 : ∀ d os, (grow (redrawn W0 d) os).cell? ⟨w.heap.size, 1, none⟩ = some (.int .i64 s.r) := fun d os => (HJ.out _ (below_regrown W0 d os)).2.2.2.2.2.2.2
  have HCQ : ∀ d os, Calls Tryz.prog 62 #[(.agg #[.int .i64 s.t, .int .i64 s.r])] (grow (redrawn W0 d) os) fun e w'' => e = .returned (.bool false) ∧ ∃ p : Regrown, w'' = grow (redrawn W0 p.d) p.os := fun d os => Calls.regrown_of (HM.out _)
  refine wp_region_quiet_below (by kernel_rfl) (by kernel_rfl) ?_
  repeat (first | go_big_quiet_step (exact HCQ _ _) | quiet_step (exact HCQ _ _))
  refine wpQuiet_nil ?_
  intro _ hw'
  obtain ⟨⟨dq, osq⟩, hw''⟩ := hw'
  subst hw''
  go_wp2
  go_ret
  exact ⟨rfl, HBW.out.1.trans ((below_regrown W0 dq osq).mono (Nat.le_of_succ_le HBW.out.2))⟩

set_option maxRecDepth 100000 in
set_option maxHeartbeats 4000000 in
theorem compact_low (B lb gb mI mE : Nat) (L : Lg) (s : St) (w : World) (h : LogAt B w lb gb mI mE L) (hm : mayB s.t s.r = true) (hc : ¬ ltSt L.floor s) :
    Calls Tryz.prog 53 #[.pointer (some ⟨lb, 0, none⟩), s.v] w fun e w' => e = .returned (.int .i64 0) ∧ Below w.heap.size w w' := by
  obtain ⟨bb, bI, bE, vo, vr, rs, h1, h2, h3, h4, h5, h6, h7⟩ := h.parts
  obtain ⟨W0, hW0⟩ : ∃ W0, W0 = w.alloc (.cells #[.int .i64 s.t, .int .i64 s.r] 31) := ⟨_, rfl⟩
  have HBW : Hid (Below w.heap.size w W0 ∧ w.heap.size + 1 ≤ W0.heap.size) := Lib.hid ⟨by rw [hW0]; exact (Below.refl _ _).alloc (Nat.le_refl _) _, by rw [hW0]; simp only [World.size_alloc]; omega⟩
  have HM := Lib.hid (fun W => (may_any s.t s.r W).mono fun e w' (h : _ ∧ _) => (⟨h.1, h.2.below⟩ : e = .returned (.bool (mayB s.t s.r)) ∧ Below W.heap.size W w'))
  rw [hm] at HM
  have HJ : Hid (∀ W, Below W0.heap.size W0 W → (fun W : World => W.cell? ⟨lb, 0, none⟩ = some (.pointer (some ⟨bb, 0, none⟩)) ∧ W.cell? ⟨lb, 1, none⟩ = some (.pointer (some ⟨gb, 0, none⟩)) ∧ W.cell? ⟨lb, 2, none⟩ = some (.int .i64 L.floor.t) ∧ W.cell? ⟨lb, 3, none⟩ = some (.int .i64 L.floor.r) ∧ W.cell? ⟨lb, 4, none⟩ = some (vo) ∧ W.cell? ⟨lb, 5, none⟩ = some (vr) ∧ W.cell? ⟨w.heap.size, 0, none⟩ = some (.int .i64 s.t) ∧ W.cell? ⟨w.heap.size, 1, none⟩ = some (.int .i64 s.r)) W) := Lib.hid fun W hW => by
    have hl := h.lt.1
    have hb : W.heap[lb]? = _ := (hW.block lb (by have := HBW.out.1.size; omega)).trans ((HBW.out.1.block lb hl).trans h1)
    have hs : W.heap[w.heap.size]? = some (.cells #[.int .i64 s.t, .int .i64 s.r] 31) := (hW.block _ (by have := HBW.out.2; omega)).trans (by rw [hW0]; exact World.alloc_heap_new _ _)
    obtain ⟨c0, c1, c2, c3, c4, c5⟩ := log_cells hb
    exact ⟨c0, c1, c2, c3, c4, c5, cell_at hs 0 _ rfl, cell_at hs 1 _ rfl⟩
  have HBQ : Hid (Below W0.heap.size W0 W0) := Lib.hid (Below.refl _ _)
  unfold St.v
  have hcl := cmpSt_le (a := s) (b := L.floor)
  rw [decide_eq_false hc, Bool.not_false] at hcl
  clear h h1 h2 h3 h4 h5 h6 h7 hm hc
  go_enter Tryz.func53, Tryz.ntmps53
  go_wp2_with fail
  rw [← hW0]
  clear hW0
  have q0 : ∀ d os, (grow (redrawn W0 d) os).cell? ⟨lb, 0, none⟩ = some (.pointer (some ⟨bb, 0, none⟩)) := fun d os => (HJ.out _ (below_regrown W0 d os)).1
  have q1 : ∀ d os, (grow (redrawn W0 d) os).cell? ⟨lb, 1, none⟩ = some (.pointer (some ⟨gb, 0, none⟩)) := fun d os => (HJ.out _ (below_regrown W0 d os)).2.1
  have q2 : ∀ d os, (grow (redrawn W0 d) os).cell? ⟨lb, 2, none⟩ = some (.int .i64 L.floor.t) := fun d os => (HJ.out _ (below_regrown W0 d os)).2.2.1
  have q3 : ∀ d os, (grow (redrawn W0 d) os).cell? ⟨lb, 3, none⟩ = some (.int .i64 L.floor.r) := fun d os => (HJ.out _ (below_regrown W0 d os)).2.2.2.1
  have q4 : ∀ d os, (grow (redrawn W0 d) os).cell? ⟨lb, 4, none⟩ = some (vo) := fun d os => (HJ.out _ (below_regrown W0 d os)).2.2.2.2.1
  have q5 : ∀ d os, (grow (redrawn W0 d) os).cell? ⟨lb, 5, none⟩ = some (vr) := fun d os => (HJ.out _ (below_regrown W0 d os)).2.2.2.2.2.1
  have q6 : ∀ d os, (grow (redrawn W0 d) os).cell? ⟨w.heap.size, 0, none⟩ = some (.int .i64 s.t) := fun d os => (HJ.out _ (below_regrown W0 d os)).2.2.2.2.2.2.1
  have q7 : ∀ d os, (grow (redrawn W0 d) os).cell? ⟨w.heap.size, 1, none⟩ = some (.int .i64 s.r) := fun d os => (HJ.out _ (below_regrown W0 d os)).2.2.2.2.2.2.2
  have HCQ : ∀ d os, Calls Tryz.prog 62 #[(.agg #[.int .i64 s.t, .int .i64 s.r])] (grow (redrawn W0 d) os) fun e w'' => e = .returned (.bool true) ∧ ∃ p : Regrown, w'' = grow (redrawn W0 p.d) p.os := fun d os => Calls.regrown_of (HM.out _)
  have HCC : ∀ d os, Calls Tryz.prog 59 #[(.agg #[.int .i64 s.t, .int .i64 s.r]), (.agg #[.int .i64 L.floor.t, .int .i64 L.floor.r])] (grow (redrawn W0 d) os) fun e w'' => e = .returned (.int .i64 (cmpSt s.t s.r L.floor.t L.floor.r)) ∧ ∃ p : Regrown, w'' = grow (redrawn W0 p.d) p.os := fun d os => Calls.regrown_of ((stCompare_any _ _ _ _ _).mono fun e w' h => ⟨h.1, h.2.below⟩)
  refine wp_region_quiet_below (by kernel_rfl) (by kernel_rfl) ?_
  repeat (first | go_big_quiet_step (first | exact HCQ _ _ | exact HCC _ _) | quiet_step (first | exact HCQ _ _ | exact HCC _ _))
  refine wpQuiet_nil ?_
  intro _ hw'
  obtain ⟨⟨dq, osq⟩, hw''⟩ := hw'
  subst hw''
  go_wp2
  go_ret
  exact ⟨rfl, HBW.out.1.trans ((below_regrown W0 dq osq).mono (Nat.le_of_succ_le HBW.out.2))⟩
end Go.Proofs.YtlokljaeknmdpaaGreat
