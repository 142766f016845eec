/-
  The law PathParts walked.
-/
import Derived.Test.YtfbjiaedfmdcfaaGreatDoorKY43
import Derived.Test.YtfbjiaedfmdcfaaGreatDoorKX0
import Derived.Test.YtfbjiaedfmdcfaaGreatDoorKY17
import Derived.Test.YtfbjiaedfmdcfaaGreatDoorKY31
namespace Go.Proofs.YtfbjiaedfmdcfaaGreatDoor.L15
open Go.RowKit Go.Shelf Go.Proofs

set_option maxRecDepth 100000 in
set_option maxHeartbeats 2000000 in
theorem texts_any (v1 v2 : Value) (x : List ByteArray) (w : World) (h1 : TxAt w v1 x) (h2 : TxAt w v2 x) (hx : x.length ≤ 1000) :
    Calls Tryz.prog 35 #[v1, v2] w fun e w' => e = .returned (.bool true) ∧ Below w.heap.size w w' := by
  have H1 := Lib.hid h1
  have H2 := Lib.hid h2
  obtain ⟨a1, c1, rfl⟩ := h1.sl.len
  obtain ⟨a2, c2, rfl⟩ := h2.sl.len
  clear h1 h2
  go_enter Tryz.func35, Tryz.ntmps35
  go_wp2
  go_loopg [5] x.length (fun gg s5 wr => ∃ i : Nat, s5 = .int .i64 i ∧ i ≤ x.length ∧ x.length - i ≤ gg ∧ Aside (Below w.heap.size w wr))
  case atStart => exact ⟨0, rfl, Nat.zero_le _, by omega, (show Aside _ from Below.refl _ _)⟩
  case round =>
    obtain ⟨i, rfl, hil, hgg, hB⟩ := hrel
    have hi0 : (0 : Int) ≤ (i : Int) := by omega
    have hwi : IntKind.i64.wrap ((i : Int) + 1) = (i : Int) + 1 := wrapNat (i + 1) (by omega)
    by_cases hlt : i < x.length
    · have hlti : (i : Int) < (x.length : Int) := by omega
      obtain ⟨b1, o1, rfl, _, k1⟩ := slAt_at (H1.out.below hB.out).sl hlt
      obtain ⟨b2, o2, rfl, _, k2⟩ := slAt_at (H2.out.below hB.out).sl hlt
      have y1 := k1 i hlt 0 _ rfl
      have y2 := k2 i hlt 0 _ rfl
      simp only [Nat.mul_one, Nat.add_zero] at y1 y2
      clear k1 k2
      generalize x[i]! = z at *
      go_wp2_with fail
      go_quiet (fail)
      go_wp2
      go_roundg (x.length - (i + 1))
      case measure => omega
      case rel => exact ⟨i + 1, by first | rfl | go_num, by omega, by omega, (show Aside _ from hB.out.trans ⟨rfl, rfl, rfl, Nat.le_refl _, fun _ _ => rfl⟩)⟩
    · have hlti : ¬ (i : Int) < (x.length : Int) := by omega
      clear hlt
      go_wp2
      go_ret
      exact ⟨rfl, hB.out⟩

set_option maxRecDepth 100000 in
set_option maxHeartbeats 8000000 in
theorem parts_walk (p : ByteArray) (w : World) (_hp : p.size ≤ 140737488351232) : Calls Tryz.prog 6 #[.string p] w fun x w' => x = .returned (.bool true) ∧ Below w.heap.size w w' := by
  have HSH := Lib.hid (fun W => shownP_any W)
  have HSP := Lib.hid (fun W (h : p.size ≤ 1000) => split_any p W h)
  by_cases hl : 500 < p.size
  · have hli : (500 : Int) < (p.size : Int) := by omega
    go_enter Tryz.func6, Tryz.ntmps6
    go_wp2_with (go_at_call 28; refine (HSH.out _).mono ?_; rintro e w1 ⟨rfl, hb1⟩; have HB1 := Lib.hid hb1; clear hb1)
    go_ret
    exact ⟨rfl, HB1.out⟩
  · have hli : ¬ (500 : Int) < (p.size : Int) := by omega
    have HPL : Hid (p.size ≤ 1000) := Lib.hid (by omega)
    by_cases hw : splitWhy p = 0
    · have HW := Lib.hid hw
      rw [hw, splitParts_is hw] at HSP
      have HLEN := (partsOf_len p)
      have HBL := back_len p
      have HPB := Lib.hid (fun x (hx : x ∈ partsOf p) => part_bytes hw hx)
      have HBP := Lib.hid (back_parts p)
      have HBW := Lib.hid (back_why hw)
      have h128 := (splitWhy_zero hw).2.1
      generalize hL : partsOf p = L at *
      clear hw
      go_enter Tryz.func6, Tryz.ntmps6
      go_wp2_with fail
      refine (HSH.out _).mono ?_
      rintro e w1 ⟨rfl, hb1⟩
      have HB1 := Lib.hid hb1
      clear hb1
      go_wp2_with fail
      refine (HSP.out w1 HPL.out).mono ?_
      rintro e w2 ⟨v2, rfl, ht2, _, hb2⟩
      have HT2 := Lib.hid ht2
      have HB2 := Lib.hid (HB1.out.trans (hb2.mono HB1.out.size))
      obtain ⟨a2, c2, rfl⟩ := ht2.sl.len
      clear ht2 hb2
      go_wp2
      go_loopg [6, 7] L.length (fun gg s6 s7 wr => ∃ i : Nat, s7 = .int .i64 i ∧ s6 = .string (backText (L.take i)) ∧ i ≤ L.length ∧ L.length - i ≤ gg ∧ Aside (wr = w2))
      case atStart => exact ⟨0, rfl, rfl, Nat.zero_le _, Nat.le_refl _, (show Aside _ from rfl)⟩
      case round =>
        obtain ⟨i, rfl, rfl, hil, hig, hq⟩ := hrel
        have HWR := Lib.hid hq.out
        clear hq
        by_cases hlt : i < L.length
        · have hlti : (i : Int) < (L.length : Int) := by omega
          have hi0 : (0 : Int) ≤ (i : Int) := by omega
          have hwi : IntKind.i64.wrap ((i : Int) + 1) = (i : Int) + 1 := wrapNat (i + 1) (by omega)
          obtain ⟨b, off, rfl, _, hc⟩ := slAt_at HT2.out.sl hlt
          have y0 := hc i hlt 0 _ rfl
          simp only [Nat.mul_one, Nat.add_zero] at y0
          have hmem : L[i]! ∈ L := by rw [getElem!_pos L i hlt]; exact List.getElem_mem hlt
          obtain ⟨g1, g2, g3, g4, g5⟩ := HPB.out _ hmem
          have HST := Lib.hid (back_take hlt)
          have hbm := back_mono (L := L) i
          rw [← HWR.out] at y0
          clear hc hmem
          generalize L[i]! = x at *
          generalize hM : backText (L.take i) = M at *
          have h9a : ¬ 9223372036854775807 < M.size + x.size := by omega
          have h9b : ¬ 9223372036854775807 < (M ++ x).size + 1 := by rw [ByteArray.size_append]; omega
          have HXL : Hid (x.toList = x.data.toList) := Lib.hid (ByteArray.toList_eq x)
          obtain ⟨wo, hwo⟩ : ∃ wo, wo = wr := ⟨_, rfl⟩
          subst hwo
          go_wp2
          go_loopg [8] x.size (fun gg s8 wr => ∃ j : Nat, s8 = .int .i64 j ∧ j ≤ x.size ∧ x.size - j ≤ gg ∧ Aside (wr = wo))
          case atStart => exact ⟨0, rfl, Nat.zero_le _, Nat.le_refl _, (show Aside _ from rfl)⟩
          case round =>
            obtain ⟨j, rfl, hjl, hjg, hq⟩ := hrel
            obtain rfl := hq.out
            clear hq
            by_cases hj : j < x.size
            · have hji : (j : Int) < (x.size : Int) := by omega
              have hj0 : (0 : Int) ≤ (j : Int) := by omega
              have hwj : IntKind.i64.wrap ((j : Int) + 1) = (j : Int) + 1 := wrapNat (j + 1) (by omega)
              have hm : x[j] ∈ x.data.toList := by rw [ByteArray.getElem_eq_getElem_data]; simp
              have hb1 : ((x[j].toNat : Int) == 47) = false := by
                rw [beq_eq_false_iff_ne]
                intro e
                have : x[j] = 47 := UInt8.toNat_inj.1 (by simpa using (by omega : x[j].toNat = 47))
                exact g4 (this ▸ hm)
              have hb0 : ((x[j].toNat : Int) == 0) = false := by
                rw [beq_eq_false_iff_ne]
                intro e
                have : x[j] = 0 := UInt8.toNat_inj.1 (by simpa using (by omega : x[j].toNat = 0))
                exact g5 (this ▸ hm)
              clear hm
              go_wp2
              go_roundg (x.size - (j + 1))
              case measure => omega
              case rel => exact ⟨j + 1, by first | rfl | go_num, by omega, Nat.le_refl _, (show Aside _ from rfl)⟩
            · have hji : ¬ (j : Int) < (x.size : Int) := by omega
              have e0 : ¬ x.toList = [] := by rw [HXL.out]; exact g2
              have e0' : x.toList.isEmpty = false := by rw [Bool.eq_false_iff]; intro h; exact e0 (List.isEmpty_iff.1 h)
              have e1 : (x.toList == [46]) = false := by rw [HXL.out, beq_eq_false_iff_ne]; exact g3
              have e1' : ¬ x.toList = [46] := by rw [HXL.out]; exact g3
              have e8 : ¬ (8 : Int) < (x.size : Int) := by omega
              go_wp2
              go_roundg (L.length - (i + 1))
              case measure => omega
              case rel => exact ⟨i + 1, by first | rfl | go_num, by rw [HST.out], by omega, Nat.le_refl _, (show Aside _ from HWR.out)⟩
        · have hlti : ¬ (i : Int) < (L.length : Int) := by omega
          have hti : L.take i = L := List.take_of_length_le (by omega)
          rw [hti]
          have HSQ := Lib.hid (fun W => split_any (backText L) W (by omega))
          obtain rfl := HWR.out
          clear hti
          have HTX := Lib.hid (fun (v : Value) (W W' : World) (h : TxAt W v L) (hW : Below wr.heap.size wr W) => texts_any (.slice a2 L.length c2) v L W (HT2.out.below hW) h (by omega))
          by_cases hq : 128 < (backText L).size
          · have hqi : (128 : Int) < ((backText L).size : Int) := by omega
            generalize splitWhy (backText L) = f at HSQ
            go_wp2_with fail
            refine (HSQ.out _).mono ?_
            rintro e w3 ⟨v3, rfl, _, _, hb3⟩
            have HB3 := Lib.hid (HB2.out.trans (hb3.mono HB2.out.size))
            clear hb3
            go_wp2
            go_ret
            exact ⟨rfl, HB3.out⟩
          · have hqi : ¬ (128 : Int) < ((backText L).size : Int) := by omega
            have hz := HBW.out (by omega)
            rw [hz, splitParts_is hz, HBP.out] at HSQ
            go_wp2_with fail
            refine (HSQ.out _).mono ?_
            rintro e w3 ⟨v3, rfl, ht3, _, hb3⟩
            have HT3 := Lib.hid (HTX.out v3 w3 w3 ht3 hb3)
            have HB3 := Lib.hid (HB2.out.trans (hb3.mono HB2.out.size))
            clear hb3 ht3
            go_wp2_with fail
            refine HT3.out.mono ?_
            rintro e w4 ⟨rfl, hb4⟩
            have HB4 := Lib.hid (HB3.out.trans (hb4.mono HB3.out.size))
            clear hb4
            go_wp2
            go_ret
            exact ⟨rfl, HB4.out⟩
    · rw [splitParts_not hw] at HSP
      have hwb : (splitWhy p != 0) = true := by simpa using hw
      have hwc : (splitWhy p == 0) = false := by simpa using hw
      generalize splitWhy p = z at *
      clear hw
      go_enter Tryz.func6, Tryz.ntmps6
      go_wp2_with fail
      refine (HSH.out _).mono ?_
      rintro e w1 ⟨rfl, hb1⟩
      have HB1 := Lib.hid hb1
      clear hb1
      go_wp2_with fail
      refine (HSP.out w1 HPL.out).mono ?_
      rintro e w2 ⟨v2, rfl, ht2, _, hb2⟩
      have HB2 := Lib.hid (HB1.out.trans (hb2.mono HB1.out.size))
      obtain ⟨a2, c2, rfl⟩ := ht2.sl.len
      clear ht2 hb2
      go_wp2
      go_ret
      exact ⟨rfl, HB2.out⟩
end Go.Proofs.YtfbjiaedfmdcfaaGreatDoor.L15
