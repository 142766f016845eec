/-
  strings.SplitSeq at a slash, and its iterator; no condition.
-/
import Derived.Test.YtfbjiaedfmdcfaaGreatDoorKY7
import Derived.Test.YtfbjiaedfmdcfaaGreatDoorKY11
import Derived.Lib.CutLaws
import Derived.Deep.RegionHeld
/-! ## PathB -/
namespace Go.Proofs.YtfbjiaedfmdcfaaGreatDoor
open Go.RowKit Go.Shelf

attribute [local go_sem] Oper.semAt_some

set_option maxRecDepth 100000 in
set_option maxHeartbeats 400000 in
theorem splitSeq0_any (p : ByteArray) (w : World) :
    Calls Tryz.prog 102 #[.string p, .string ⟨#[47]⟩, .int .i64 0] w fun e w' => e = .returned (.func (.func 143) #[] #[.pointer (some ⟨w.heap.size + 1, 0, none⟩), .pointer (some ⟨w.heap.size, 0, none⟩), .pointer (some ⟨w.heap.size + 1 + 1, 0, none⟩)]) ∧
      w' = ((w.alloc (.cells #[.string p] 9)).alloc (.cells #[.string ⟨#[47]⟩] 9)).alloc (.cells #[.int .i64 0] 3) := by
  generalize (⟨#[47]⟩ : ByteArray) = b
  go_enter Tryz.func102, Tryz.ntmps102
  go_wp2
  go_ret
  exact ⟨rfl, rfl⟩

set_option maxRecDepth 100000 in
set_option maxHeartbeats 400000 in
theorem splitSeq_any (p : ByteArray) (w : World) :
    Calls Tryz.prog 63 #[.string p, .string ⟨#[47]⟩] w fun e w' => e = .returned (.func (.func 143) #[] #[.pointer (some ⟨w.heap.size + 1, 0, none⟩), .pointer (some ⟨w.heap.size, 0, none⟩), .pointer (some ⟨w.heap.size + 1 + 1, 0, none⟩)]) ∧
      w' = ((w.alloc (.cells #[.string p] 9)).alloc (.cells #[.string ⟨#[47]⟩] 9)).alloc (.cells #[.int .i64 0] 3) := by
  have H := Lib.hid (fun W => splitSeq0_any p W)
  generalize (⟨#[47]⟩ : ByteArray) = b at *
  go_enter Tryz.func63, Tryz.ntmps63
  go_wp2_with (go_at_call 102; refine (H.out _).mono ?_; rintro e w' ⟨rfl, rfl⟩)
  go_ret
  exact ⟨rfl, rfl⟩

/-- the iterator's three variables stay -/
def Pen3 (B : Nat) (A W : World) : Prop := A.heap.size ≤ W.heap.size ∧ ∀ b : Nat, B ≤ b → b < B + 3 → W.cell? ⟨b, 0, none⟩ = A.cell? ⟨b, 0, none⟩ ∧ W.frozen? ⟨b, 0, none⟩ = A.frozen? ⟨b, 0, none⟩
theorem Pen3.trans {B : Nat} {X Y Z : World} (h : Pen3 B X Y) (k : Pen3 B Y Z) : Pen3 B X Z :=
  ⟨Nat.le_trans h.1 k.1, fun b h1 h2 => ⟨(k.2 b h1 h2).1.trans (h.2 b h1 h2).1, (k.2 b h1 h2).2.trans (h.2 b h1 h2).2⟩⟩
/-- the iterator's own steps -/
def PenT (B : Nat) (X Y : World) : Prop := (∃ s : ByteArray, Y = X.setCell ⟨B, 0, none⟩ (.string s)) ∨ New X Y
/-- the iterator's variables: what is left -/
structure PenAt (B : Nat) (W : World) (s : ByteArray) : Prop where
  s : W.cell? ⟨B, 0, none⟩ = some (.string s)
  fr : W.frozen? ⟨B, 0, none⟩ = false
  sep : W.cell? ⟨B + 1, 0, none⟩ = some (.string ⟨#[47]⟩)
  zero : W.cell? ⟨B + 1 + 1, 0, none⟩ = some (.int .i64 0)
theorem PenAt.kept {B : Nat} {W W' : World} {s : ByteArray} (h : PenAt B W s) (k : Pen3 B W W') : PenAt B W' s :=
  ⟨(k.2 B (by omega) (by omega)).1.trans h.s, (k.2 B (by omega) (by omega)).2.trans h.fr, (k.2 (B + 1) (by omega) (by omega)).1.trans h.sep, (k.2 (B + 1 + 1) (by omega) (by omega)).1.trans h.zero⟩
theorem PenAt.set {B : Nat} {W : World} {s : ByteArray} (h : PenAt B W s) (s' : ByteArray) : PenAt B (W.setCell ⟨B, 0, none⟩ (.string s')) s' :=
  ⟨World.cell?_setCell_same _ _ _ h.s, (World.frozen?_setCell _ _ _ _).trans h.fr, (World.cell?_setCell_far _ _ _ _ (show B ≠ B + 1 by omega)).trans h.sep, (World.cell?_setCell_far _ _ _ _ (show B ≠ B + 1 + 1 by omega)).trans h.zero⟩

def penLeft (W : World) (B : Nat) : Nat := match W.cell? ⟨B, 0, none⟩ with | some (.string s) => s.size | _ => 0
theorem penLeft_eq {B : Nat} {W : World} {s : ByteArray} (h : PenAt B W s) : penLeft W B = s.size := by unfold penLeft; rw [h.s]

theorem bs_take {s : ByteArray} {i : Nat} : s.extract 0 i = bsOf (s.data.toList.take i) := by
  rw [← bsOf_of (s.extract 0 i)]
  congr 1
  rw [Lib.extract_data]; simp
set_option maxRecDepth 100000 in
set_option maxHeartbeats 1000000 in
theorem split1_in (n : Nat) (hn : 1 ≤ n) (B : Nat) (p : ByteArray) (w : World) (h : PenAt B w p) (hps : p.size ≤ 140737488355328) :
    SeqPen Fence.wide n Tryz.prog 143 #[.pointer (some ⟨B + 1, 0, none⟩), .pointer (some ⟨B, 0, none⟩), .pointer (some ⟨B + 1 + 1, 0, none⟩)] (fun s : ByteArray => #[.string s]) (PenT B) (Pen3 B) ((cutS p.data.toList).map bsOf) w := by
  intro l J W hW hJT hY hJ0
  have HW := Lib.hid (h.kept hW)
  have HJT := Lib.hid hJT
  have HY := Lib.hid hY
  have HJ0 := Lib.hid hJ0
  clear h hW hJT hY hJ0
  have HIX := Lib.hid (fun s W => index1_any s 47 W)
  have h1 := HW.out.sep
  obtain ⟨b, hb⟩ : ∃ b : ByteArray, b = ⟨#[47]⟩ := ⟨_, rfl⟩
  have hbs : b.size = 1 := by subst hb; rfl
  rw [← hb] at HIX h1
  have HB := Lib.hid hb
  clear hb
  refine callsIn_of_wp Tryz.func143 rfl trivial ?_ rfl
  simp only [Tryz.ntmps143, List.size_toArray, List.length_cons, List.length_nil, Nat.reduceAdd, Nat.reduceSub, Array.replicate_succ, Array.replicate_zero, List.push_toArray, List.append_toArray, List.nil_append, List.cons_append]
  gi_wp2
  gi_loopw [7, 8] (fun _ _ wr => ∃ (pre : List (List UInt8)) (s : ByteArray), s.size ≤ 140737488355328 ∧ Hid (cutS p.data.toList = pre ++ cutS s.data.toList) ∧ Hid (J (pre.map bsOf) wr) ∧ Hid (PenAt B wr s)) (fun _ _ wr => penLeft wr B)
  case atStart => exact ⟨[], p, hps, Lib.hid rfl, HJ0, HW⟩
  case round =>
    obtain ⟨pre, s, hsz, hcut, hj, hp⟩ := hrel
    have HCUT := Lib.hid hcut.out
    have hs0 := hp.out.s
    have hf0 := hp.out.fr
    have hp1 := hp.out.sep
    have hp2 := hp.out.zero
    rw [← HB.out] at hp1
    have HP := hp
    have HSL := Lib.hid (penLeft_eq hp.out)
    clear hp
    by_cases hneg : Lib.indexByte s.data.toList 47 < 0
    · have hno := indexByte_none.1 hneg
      have hcutF : cutS p.data.toList = pre ++ [s.data.toList] := by rw [hcut.out, cutS_none hno]
      obtain ⟨fn, tmps, assign, body, hy, hRR⟩ := HY.out (pre.map bsOf) (bsOf s.data.toList) [] wr (by rw [hcutF, List.map_append]; rfl) hj.out
      rw [bsOf_of] at hy hRR
      have HR := Lib.hid hRR
      have HF := Lib.hid hcutF
      have HIS := Lib.hid (HIX.out s)
      clear hRR hcutF hcut hj hno HIX
      generalize Lib.indexByte s.data.toList 47 = k at *
      gi_wp2_with (refine ⟨trivial, ?_⟩; gi_at_call 104; refine (callsIn_wide.2 (HIS.out _)).mono ?_; rintro e w' ⟨rfl, rfl⟩)
      refine HR.out.mono ?_
      rintro e W4 ⟨rfl, hJ4, _⟩
      gi_wp2
      go_end0
      refine ⟨⟨_, rfl⟩, ?_⟩
      rw [HF.out, List.map_append]
      exact hJ4
    · obtain ⟨i, hi⟩ : ∃ i : Nat, Lib.indexByte s.data.toList 47 = i := ⟨(Lib.indexByte s.data.toList 47).toNat, by omega⟩
      obtain ⟨hil, hsp, hno⟩ := indexByte_some hi
      rw [← size_data] at hil
      have hcutF : cutS p.data.toList = (pre ++ [s.data.toList.take i]) ++ cutS (s.data.toList.drop (i + 1)) := by
        rw [hcut.out]
        conv => lhs; rw [hsp]
        rw [cutS_at hno, List.append_assoc]; rfl
      obtain ⟨x, rest, hxr⟩ : ∃ x rest, cutS (s.data.toList.drop (i + 1)) = x :: rest := by
        cases hc : cutS (s.data.toList.drop (i + 1)) with
        | nil => exact absurd hc (cutS_ne _)
        | cons x rest => exact ⟨x, rest, rfl⟩
      obtain ⟨fn, tmps, assign, body, hy, hRR⟩ := HY.out (pre.map bsOf) (bsOf (s.data.toList.take i)) ((x :: rest).map bsOf) wr (by rw [hcutF, hxr, List.map_append, List.map_append, List.append_assoc]; rfl) hj.out
      rw [← bs_take] at hy hRR
      have HR := Lib.hid hRR
      have HF := Lib.hid hcutF
      have HIS := Lib.hid (HIX.out s)
      rw [hi] at HIS
      have hi0 : ¬ (i : Int) < 0 := by omega
      have hi1 : (0 : Int) ≤ (i : Int) := by omega
      have hi2 : (i : Int) ≤ (s.size : Int) := by omega
      have hw0 : IntKind.i64.wrap ((i : Int) + 0) = (i : Int) := by rw [Int.add_zero]; exact wrapNat i (by omega)
      have hw1 : IntKind.i64.wrap ((i : Int) + 1) = (i : Int) + 1 := wrapNat (i + 1) (by omega)
      have hi3 : ((i : Int) + 1) ≤ (s.size : Int) := by omega
      clear hRR hcutF hcut hj hno HIX hi hneg hsp hxr
      generalize Lib.indexByte s.data.toList 47 = k at *
      gi_wp2_with (refine ⟨trivial, ?_⟩; gi_at_call 104; refine (callsIn_wide.2 (HIS.out _)).mono ?_; rintro e w' ⟨rfl, rfl⟩)
      refine HR.out.mono ?_
      rintro e W4 ⟨rfl, hJ4, hk4⟩
      have HP4 := Lib.hid (HP.out.kept hk4)
      have HJ4 := Lib.hid hJ4
      have hs4 := HP4.out.s
      have hf4 := HP4.out.fr
      have hp4 := HP4.out.sep
      have hq4 := HP4.out.zero
      rw [← HB.out] at hp4
      clear hJ4 hk4
      gi_wp2
      go_roundw
      case rel => exact ⟨pre ++ [s.data.toList.take i], s.extract (i + 1) s.size, by rw [size_data, Lib.extract_to_end, List.length_drop, ← size_data]; omega, Lib.hid (by rw [Lib.extract_to_end]; exact HF.out), Lib.hid (HJT.out _ _ _ (by rw [List.map_append]; show J (pre.map bsOf ++ [bsOf (s.data.toList.take i)]) W4; rw [← bs_take]; exact HJ4.out) (.inl ⟨_, rfl⟩)), Lib.hid (HP4.out.set _)⟩
      case measure => rw [penLeft_eq (HP4.out.set _), HSL.out, size_data, Lib.extract_to_end, List.length_drop, ← size_data]; omega
end Go.Proofs.YtfbjiaedfmdcfaaGreatDoor
