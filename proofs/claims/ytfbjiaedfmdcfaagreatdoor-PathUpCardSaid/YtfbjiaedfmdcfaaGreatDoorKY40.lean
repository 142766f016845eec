/-
  fold.Sort, fold.On, fold.Of, fold.Below; conditions: texts within reach, at most 1000 operations.
-/
import Derived.Test.YtfbjiaedfmdcfaaGreatDoorKY33
import Derived.Test.YtfbjiaedfmdcfaaGreatDoorKY39
/-! ## Fold -/
namespace Go.Proofs.YtfbjiaedfmdcfaaGreatDoor
open Go.RowKit Go.Shelf Go.Proofs

theorem cellsOpF {w : World} {zs : List Op} {b off : Nat} (hc : ∀ j, j < zs.length → ∀ i u, (Op.cells zs[j]!)[i]? = some u → w.cell? ⟨b, off + j * 13 + i, none⟩ = some u) (j : Nat) (hj : j < zs.length) :
    w.cell? ⟨b, off + j * 13, none⟩ = some (.int .i64 zs[j]!.stamp.t) ∧ w.cell? ⟨b, off + j * 13 + 1, none⟩ = some (.int .i64 zs[j]!.stamp.r) ∧ w.cell? ⟨b, off + j * 13 + 2, none⟩ = some (.int .i64 zs[j]!.kind) ∧ w.cell? ⟨b, off + j * 13 + 3, none⟩ = some (.int .i64 zs[j]!.at_.t) ∧ w.cell? ⟨b, off + j * 13 + 4, none⟩ = some (.int .i64 zs[j]!.at_.r) ∧
      w.cell? ⟨b, off + j * 13 + 5, none⟩ = some (.int .i64 zs[j]!.ino.t) ∧ w.cell? ⟨b, off + j * 13 + 6, none⟩ = some (.int .i64 zs[j]!.ino.r) ∧ w.cell? ⟨b, off + j * 13 + 7, none⟩ = some (.int .i64 zs[j]!.to.t) ∧ w.cell? ⟨b, off + j * 13 + 8, none⟩ = some (.int .i64 zs[j]!.to.r) ∧ w.cell? ⟨b, off + j * 13 + 9, none⟩ = some (.string zs[j]!.name) ∧
      w.cell? ⟨b, off + j * 13 + 10, none⟩ = some (.string zs[j]!.new) ∧ w.cell? ⟨b, off + j * 13 + 11, none⟩ = some (.int .i64 zs[j]!.off) ∧ w.cell? ⟨b, off + j * 13 + 12, none⟩ = some (.string zs[j]!.data) :=
  ⟨hc j hj 0 _ rfl, hc j hj 1 _ rfl, hc j hj 2 _ rfl, hc j hj 3 _ rfl, hc j hj 4 _ rfl, hc j hj 5 _ rfl, hc j hj 6 _ rfl, hc j hj 7 _ rfl, hc j hj 8 _ rfl, hc j hj 9 _ rfl, hc j hj 10 _ rfl, hc j hj 11 _ rfl, hc j hj 12 _ rfl⟩

/-- a row of operations in order, of the call's own -/
def OpsRow (B : Nat) (v : Value) (l : List Op) (w : World) : Prop := w.ownsRow B 42 13 v l.length (l.flatMap Op.cells)
theorem OpsRow.sl {B : Nat} {v : Value} {l : List Op} {w : World} (h : OpsRow B v l w) : SlAt w 13 Op.cells v l := SlAt.of_row (fun _ => rfl) h
theorem OpsRow.shape {B : Nat} {v : Value} {l : List Op} {w : World} (h : OpsRow B v l w) : ∃ a c, v = .slice a l.length c := h.sl.len
theorem OpsRow.kept {B : Nat} {v : Value} {l : List Op} {w w' : World} (h : OpsRow B v l w) (hb : Below w.heap.size w w') : OpsRow B v l w' := ownsRow_keep h fun j _ hj => hb.block j hj
set_option maxRecDepth 100000 in
set_option maxHeartbeats 4000000 in
theorem sort_any (v : Value) (l : List Op) (w : World) (h : SlAt w 13 Op.cells v l) (hn : ∀ o ∈ l, o.Small) (hl : l.length ≤ 1000) :
    Calls Tryz.prog 99 #[v] w fun e w' => ∃ v', e = .returned v' ∧ OpsRow w.heap.size v' (sortOps l) w' ∧ Below w.heap.size w w' := by
  have HSL : Hid (∀ W, Below w.heap.size w W → SlAt W 13 Op.cells v l) := Lib.hid fun W hW => h.below hW
  obtain ⟨va, vc, rfl⟩ := h.len
  have HNM := Lib.hid hn
  clear h hn
  go_enter Tryz.func99, Tryz.ntmps99
  go_wp2
  go_loopg [3, 8] l.length (fun gg s3 s8 wr => ∃ i : Nat, s8 = .int .i64 i ∧ i ≤ l.length ∧ l.length - i ≤ gg ∧ Aside (OpsRow w.heap.size s3 (sortOps (l.take i)) wr) ∧ Aside (Below w.heap.size w wr))
  case atStart => exact ⟨0, rfl, Nat.zero_le _, by omega, (show Aside _ from World.ownsRow_nil _ _ _ _), (show Aside _ from Below.refl _ _)⟩
  case round =>
    obtain ⟨i, rfl, hil, hgg, hR, hB⟩ := hrel
    have hi0 : (0 : Int) ≤ (i : Int) := by omega
    have hwi : IntKind.i64.wrap ((i : Int) + 1) = (i : Int) + 1 := wrapNat (i + 1) (by omega)
    obtain ⟨ra, rc, rfl⟩ := hR.out.shape
    by_cases hlt : i < l.length
    · have hlti : (i : Int) < (l.length : Int) := by omega
      obtain ⟨bb, off, rfl, hbl, hcells⟩ := slAt_at (HSL.out wr hB.out) hlt
      obtain ⟨x0, x1, x2, x3, x4, x5, x6, x7, x8, x9, x10, x11, x12⟩ := cellsOpF hcells i hlt
      have hput := put_any _ (sortOps (l.take i)) l[i]! (wr.alloc (.cells #[.int .i64 l[i]!.stamp.t, .int .i64 l[i]!.stamp.r, .int .i64 l[i]!.kind, .int .i64 l[i]!.at_.t, .int .i64 l[i]!.at_.r, .int .i64 l[i]!.ino.t, .int .i64 l[i]!.ino.r, .int .i64 l[i]!.to.t, .int .i64 l[i]!.to.r, .string l[i]!.name, .string l[i]!.new, .int .i64 l[i]!.off, .string l[i]!.data] 42)) (hR.out.sl.below ((Below.refl _ wr).alloc (Nat.le_refl _) _)) (sort_rises _) (by have := sort_len (l.take i); rw [List.length_take] at this; omega) (HNM.out _ (getElem!_mem hlt))
      have HST := Lib.hid (sort_step l i hlt)
      clear hcells
      unfold Op.v at hput
      generalize l[i]! = x at x0 x1 x2 x3 x4 x5 x6 x7 x8 x9 x10 x11 x12 hput HST
      generalize sortOps (l.take i) = S at hR hput HST
      have HPUT := Lib.hid hput
      clear hput
      go_wp2_with (go_at_call 140; refine HPUT.out.mono ?_; rintro e w3 ⟨v3, rfl, hf3, ht3, hb3⟩; have HF3 := Lib.hid hf3; have HT3 := Lib.hid ht3; have HB3 := Lib.hid hb3; clear hf3 ht3 hb3)
      go_roundg (l.length - (i + 1))
      case measure => omega
      case rel =>
        have hz : wr.heap.size ≤ (wr.alloc (.cells #[.int .i64 x.stamp.t, .int .i64 x.stamp.r, .int .i64 x.kind, .int .i64 x.at_.t, .int .i64 x.at_.r, .int .i64 x.ino.t, .int .i64 x.ino.r, .int .i64 x.to.t, .int .i64 x.to.r, .string x.name, .string x.new, .int .i64 x.off, .string x.data] 42)).heap.size := by simp
        have hbw : Below w.heap.size w w3 := (hB.out.alloc hB.out.size _).trans (HB3.out.mono (Nat.le_trans hB.out.size hz))
        refine ⟨i + 1, by first | rfl | go_num, by omega, by omega, (show Aside _ from ?_), (show Aside _ from hbw)⟩
        rw [HST.out]
        cases hp : putB S x with
        | true => exact ownsRow_mono (HT3.out hp) (Nat.le_trans hB.out.size hz)
        | false =>
          rw [put_not hp, HF3.out hp]
          exact (hR.out.kept ((Below.refl _ wr).alloc (Nat.le_refl _) _)).kept HB3.out
    · have hlti : ¬ (i : Int) < (l.length : Int) := by omega
      have HGF : Hid (OpsRow w.heap.size (.slice ra (sortOps (l.take i)).length rc) (sortOps l) wr) := Lib.hid (by
        have e : l.take i = l := List.take_of_length_le (by omega)
        have := hR.out
        rw [e] at this ⊢
        exact this)
      clear hlt
      go_wp2
      go_ret
      exact ⟨_, rfl, HGF.out, hB.out⟩

theorem SlAt.turn {α : Type} [Inhabited α] {S : Nat → Prop} {w w' : World} {k : Nat} {enc : α → List Value} {v : Value} {zs : List α} (h : SlAt w k enc v zs) (ht : Turn S w w') : SlAt w' k enc v zs := by
  rcases h with h | ⟨b, off, c, rfl, h1, h2, h3, h4⟩
  · exact .inl h
  · exact .inr ⟨b, off, c, rfl, h1, h2, Nat.lt_of_lt_of_le h3 ht.size, fun j hj i u hu => (ht.cell ⟨b, _, none⟩ h3).trans (h4 j hj i u hu)⟩

set_option maxRecDepth 100000 in
set_option maxHeartbeats 4000000 in
theorem on_any (gb mI mE : Nat) (g : Gr) (v : Value) (l : List Op) (w : World) (hg : GrAt w gb mI mE g) (hok : g.Ok) (hth : g.Thin) (h : SlAt w 13 Op.cells v l) (hn : ∀ o ∈ l, o.Small) (hl : l.length ≤ 1000) :
    Calls Tryz.prog 58 #[.pointer (some ⟨gb, 0, none⟩), v] w (MadeGr w (onOps g l)) := by
  have HSL : Hid (∀ W, Below w.heap.size w W → SlAt W 13 Op.cells v l) := Lib.hid fun W hW => h.below hW
  have HNM := Lib.hid hn
  have HCP := Lib.hid (copy_g gb mI mE g w hg)
  have HOK := Lib.hid hok
  have HTH := Lib.hid hth
  obtain ⟨va, vc, rfl⟩ := h.len
  clear h hn hg hok hth
  go_enter Tryz.func58, Tryz.ntmps58
  go_wp2_with fail
  refine HCP.out.mono ?_
  rintro e w2 ⟨v2, rfl, ⟨cb, nI, nE, rfl, hG, h1, h2, h3⟩, hb⟩
  have HG := Lib.hid hG
  have HB2 := Lib.hid hb
  have HM : Hid (w.heap.size ≤ cb ∧ w.heap.size ≤ nI ∧ w.heap.size ≤ nE) := Lib.hid ⟨h1, h2, h3⟩
  clear hG hb h1 h2 h3
  go_wp2_with fail
  refine (sort_any _ l w2 (HSL.out _ HB2.out) HNM.out hl).mono ?_
  rintro e w3 ⟨v3, rfl, hrow, hb3⟩
  obtain ⟨sa, sc, rfl⟩ := hrow.shape
  have HSS : Hid (∀ S W, Turn S w3 W → SlAt W 13 Op.cells (.slice sa (sortOps l).length sc) (sortOps l)) := Lib.hid fun S W hW => hrow.sl.turn hW
  have HNS : Hid (∀ o ∈ sortOps l, o.Small) := Lib.hid fun o ho => HNM.out o (sort_sub ho)
  have HLS : (sortOps l).length ≤ 1000 := Nat.le_trans (sort_len l) hl
  have HG3 : Hid (GrAt w3 cb nI nE g) := Lib.hid (HG.out.below hb3)
  have HB3 : Hid (Below w.heap.size w w3) := Lib.hid (HB2.out.trans (hb3.mono HB2.out.size))
  clear hrow hb3
  have HON : Hid (onOps g l = (sortOps l).foldl Gr.apply g) := Lib.hid rfl
  generalize onOps g l = R at *
  generalize sortOps l = L at *
  go_wp2
  go_loopg [13] L.length (fun gg s13 wr => ∃ i : Nat, s13 = .int .i64 i ∧ i ≤ L.length ∧ L.length - i ≤ gg ∧ Aside (GrAt wr cb nI nE ((L.take i).foldl Gr.apply g)) ∧ Aside (Turn (Maps2 nI nE) w3 wr))
  case atStart => exact ⟨0, rfl, Nat.zero_le _, by omega, (show Aside _ from HG3.out), (show Aside _ from Turn.refl _ _)⟩
  case round =>
    obtain ⟨i, rfl, hil, hgg, hG, hT⟩ := hrel
    have hi0 : (0 : Int) ≤ (i : Int) := by omega
    have hwi : IntKind.i64.wrap ((i : Int) + 1) = (i : Int) + 1 := wrapNat (i + 1) (by omega)
    by_cases hlt : i < L.length
    · have hlti : (i : Int) < (L.length : Int) := by omega
      obtain ⟨bb, off, rfl, hbl, hcells⟩ := slAt_at (HSS.out _ wr hT.out) hlt
      obtain ⟨x0, x1, x2, x3, x4, x5, x6, x7, x8, x9, x10, x11, x12⟩ := cellsOpF hcells i hlt
      have hdo := apply_any cb nI nE ((L.take i).foldl Gr.apply g) L[i]! (wr.alloc (.cells #[.int .i64 L[i]!.stamp.t, .int .i64 L[i]!.stamp.r, .int .i64 L[i]!.kind, .int .i64 L[i]!.at_.t, .int .i64 L[i]!.at_.r, .int .i64 L[i]!.ino.t, .int .i64 L[i]!.ino.r, .int .i64 L[i]!.to.t, .int .i64 L[i]!.to.r, .string L[i]!.name, .string L[i]!.new, .int .i64 L[i]!.off, .string L[i]!.data] 42)) (hG.out.new (New.alloc' _ _)) (runs_ok _ HOK.out) (runs_thin _ HTH.out) (HNS.out _ (getElem!_mem hlt))
      have HST := Lib.hid (fold_step g L i hlt)
      clear hcells
      unfold Op.v at hdo
      generalize L[i]! = x at x0 x1 x2 x3 x4 x5 x6 x7 x8 x9 x10 x11 x12 hdo HST
      generalize (L.take i).foldl Gr.apply g = G at hdo HST hG
      have HDO := Lib.hid hdo
      clear hdo
      go_wp2_with (go_at_call 39; refine HDO.out.mono ?_; rintro e w5 ⟨rfl, hG5, hT5⟩; have HG5 := Lib.hid hG5; have HT5 := Lib.hid hT5; clear hG5 hT5)
      go_roundg (L.length - (i + 1))
      case measure => omega
      case rel => exact ⟨i + 1, by first | rfl | go_num, by omega, by omega, (show Aside _ from by rw [HST.out]; exact HG5.out), (show Aside _ from hT.out.trans (((New.alloc' _ _).turn _).trans HT5.out))⟩
    · have HGF : Hid (GrAt wr cb nI nE R) := Lib.hid (by
        have := hG.out
        rw [show L.take i = L from List.take_of_length_le (by omega)] at this
        rw [HON.out]; exact this)
      have hlti : ¬ (i : Int) < (L.length : Int) := by omega
      clear hlt
      go_wp2
      go_ret
      exact ⟨_, rfl, ⟨cb, nI, nE, rfl, HGF.out, HM.out.1, HM.out.2.1, HM.out.2.2⟩, HB3.out.trans (own_below hT.out HM.out.2.1 HM.out.2.2 HB3.out.size)⟩

set_option maxRecDepth 100000 in
set_option maxHeartbeats 4000000 in
theorem of_any (v : Value) (l : List Op) (w : World) (h : SlAt w 13 Op.cells v l) (hn : ∀ o ∈ l, o.Small) (hl : l.length ≤ 1000) : Calls Tryz.prog 30 #[v] w (MadeGr w (ofOps l)) := by
  have HSL : Hid (∀ W, Below w.heap.size w W → SlAt W 13 Op.cells v l) := Lib.hid fun W hW => h.below hW
  have HNM := Lib.hid hn
  obtain ⟨va, vc, rfl⟩ := h.len
  clear h hn
  go_enter Tryz.func30, Tryz.ntmps30
  go_wp2_with fail
  refine (new_g w).mono ?_
  rintro e w2 ⟨v2, rfl, ⟨cb, nI, nE, rfl, hG, h1, h2, h3⟩, hb⟩
  have HG := Lib.hid hG
  have HB2 := Lib.hid hb
  clear hG hb h1 h2 h3
  go_wp2_with fail
  refine (on_any cb nI nE Gr.new _ l w2 HG.out Gr.Ok.new Gr.Thin.new (HSL.out _ HB2.out) HNM.out hl).mono ?_
  rintro e w3 ⟨v3, rfl, ⟨c3, pI, pE, rfl, hG, h1, h2, h3⟩, hb⟩
  have HG3 := Lib.hid hG
  have HB3 := Lib.hid hb
  have HM3 : Hid (w2.heap.size ≤ c3 ∧ w2.heap.size ≤ pI ∧ w2.heap.size ≤ pE) := Lib.hid ⟨h1, h2, h3⟩
  clear hG hb h1 h2 h3
  go_wp2
  go_ret
  have hz := HB2.out.size
  exact ⟨_, rfl, ⟨c3, pI, pE, rfl, HG3.out, by have := HM3.out; omega, by have := HM3.out; omega, by have := HM3.out; omega⟩, HB2.out.trans (HB3.out.mono hz)⟩
end Go.Proofs.YtfbjiaedfmdcfaaGreatDoor
