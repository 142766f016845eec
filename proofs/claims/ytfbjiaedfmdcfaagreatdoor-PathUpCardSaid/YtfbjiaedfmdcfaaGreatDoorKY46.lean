/-
  The law PathHome walked; no condition but the texts' reach. · Two points behind a path, plainly. · The law PathUp walked; no condition but the texts' reach. · The laws PathHome and PathUp walked.
-/
import Derived.Test.YtfbjiaedfmdcfaaGreatDoorKY43
import Derived.Test.YtfbjiaedfmdcfaaGreatDoorKY45
import Derived.Test.YtfbjiaedfmdcfaaGreatDoorKY5
/-! ## LHome -/
namespace Go.Proofs.YtfbjiaedfmdcfaaGreatDoor.L15
open Go.RowKit Go.Shelf Go.Proofs

set_option maxRecDepth 100000 in
set_option maxHeartbeats 1000000 in
theorem home_nil (id : St) (w : World) :
    Calls Tryz.prog 37 #[.pointer none, id.v] w fun e w' => e = .returned (.tuple #[.string ⟨#[]⟩, .bool false]) ∧ Below w.heap.size w w' := by
  have HB0 : Hid (Below w.heap.size w (w.alloc (.cells #[.int .i64 id.t, .int .i64 id.r] 26))) := Lib.hid ((Below.refl _ w).alloc (Nat.le_refl _) _)
  have HGT := Lib.hid (fun W => get_nil id W)
  unfold St.v at HGT ⊢
  unfold Ino.v at HGT
  go_enter Tryz.func37, Tryz.ntmps37
  go_wp2_with fail
  refine (HGT.out _).mono ?_
  rintro e w1 ⟨rfl, hn⟩
  have hb1 := hn.below
  have HB1 : Hid (Below w.heap.size w w1) := Lib.hid (HB0.out.trans (hb1.mono HB0.out.size))
  clear hb1 hn
  go_wp2
  go_ret2
  exact ⟨rfl, HB1.out.alloc HB1.out.size _⟩

theorem home_plain {g : Gr} (h : g.Fine) {i : Ino} (hi : i ∈ g.n) : (g.home i.id).2 = (i.kind == 1) ∧ ((i.kind == 1) = true → ∀ at_, (g.get at_).isSome = true → (g.home i.id).1.size ≤ 128 →
    ∃ s : Spot, g.findP at_ (g.home i.id).1 true = (s, 0) ∧ s.there = true ∧ s.ino = i.id) := by
  have hg : g.get i.id = some i := h.ok.get_iff.2 ⟨hi, rfl⟩
  have hd : g.isDir i.id = (i.kind == 1) := by unfold Gr.isDir; rw [hg, Gr.got_of hg]; rfl
  have hq := h.homeOk_iff i.id
  unfold Gr.home
  rw [hq, hd]
  cases hk : (i.kind == 1) with
  | false => exact ⟨rfl, fun h => by cases h⟩
  | true =>
    rw [hk] at hd
    exact ⟨rfl, fun _ at_ ha hs => h.ok.home_found (h.under_root hd) hd ha hs true⟩

set_option maxRecDepth 100000 in
set_option maxHeartbeats 8000000 in
theorem home_walk (v1 : Value) (l : List Op) (at_ : St) (w : World) (hs1 : SlAt w 13 Op.cells v1 l) (hn1 : ∀ o ∈ l, o.Small) :
    Calls Tryz.prog 8 #[v1, at_.v] w fun y w' => y = .returned (.bool true) ∧ Below w.heap.size w w' := by
  obtain ⟨W0, hW0⟩ : ∃ W0, W0 = w.alloc (.cells #[.int .i64 at_.t, .int .i64 at_.r] 26) := ⟨_, rfl⟩
  have hb0 : Below w.heap.size w W0 := by rw [hW0]; exact (Below.refl _ w).alloc (Nat.le_refl _) _
  have hz0 : W0.heap.size = w.heap.size + 1 := by rw [hW0]; simp
  have HBW := Lib.hid hb0
  have HX : Hid (∀ W, Below W0.heap.size W0 W → W.heap[w.heap.size]? = some (.cells #[.int .i64 at_.t, .int .i64 at_.r] 26)) := Lib.hid fun W hW => (hW.block w.heap.size (by omega)).trans (by rw [hW0]; exact World.alloc_heap_new w _)
  have HEND : Hid (∀ W, Below W0.heap.size W0 W → Below w.heap.size w W) := Lib.hid fun W hW => hb0.trans (hW.mono (by omega))
  have HSH := Lib.hid (fun W => shownP_any W)
  have HFW := Lib.hid (fun W (hW : Below W0.heap.size W0 W) => fewP_any v1 l W (hs1.below (hb0.trans (hW.mono (by omega)))))
  have HOF := Lib.hid (fun (hl : l.length ≤ 1000) W (hW : Below W0.heap.size W0 W) => of_any v1 l W (hs1.below (hb0.trans (hW.mono (by omega)))) hn1 hl)
  have HHN := Lib.hid (fun W => home_nil at_ W)
  obtain ⟨a1, c1, rfl⟩ := hs1.len
  unfold St.v at HHN ⊢
  clear hs1 hn1 hb0
  cases hf : decide (l.length ≤ 60) with
  | false =>
    rw [hf] at HFW
    clear hf
    go_enter Tryz.func8, Tryz.ntmps8
    go_wp2_with fail
    rw [← hW0]
    refine (HSH.out _).mono ?_
    rintro e w1 ⟨rfl, hb1⟩
    have HB1 := Lib.hid hb1
    clear hb1
    go_wp2_with (go_at_call 29; refine (HFW.out _ HB1.out).mono ?_; rintro y w' ⟨rfl, rfl⟩)
    go_ret
    exact ⟨rfl, HEND.out _ HB1.out⟩
  | true =>
    rw [hf] at HFW
    have HL1 : Hid (l.length ≤ 1000) := Lib.hid (by have := of_decide_eq_true hf; omega)
    have HFI : Hid (ofOps l).Fine := Lib.hid (ran_fine _)
    clear hf
    go_enter Tryz.func8, Tryz.ntmps8
    go_wp2_with fail
    rw [← hW0]
    refine (HSH.out _).mono ?_
    rintro e w1 ⟨rfl, hb1⟩
    have HB1 := Lib.hid hb1
    clear hb1
    go_wp2_with (go_at_call 29; refine (HFW.out _ HB1.out).mono ?_; rintro y w' ⟨rfl, rfl⟩)
    refine (HOF.out HL1.out _ HB1.out).mono ?_
    rintro e w2 ⟨v2, rfl, ⟨gb, mI, mE, rfl, hG, h1, h2, h3⟩, hb2⟩
    have HB2 := Lib.hid (HB1.out.trans (hb2.mono HB1.out.size))
    have hok := HFI.out.ok
    have hR := hG.reads hok (by have := hok.few; omega)
    have hL := hG.listsOwn hok (by have := hok.few; omega)
    have hT := ofOps_thin l
    clear h1 h2 h3 hb2 hG HOF
    generalize ofOps l = g at *
    have HIN := Lib.hid (fun W (hW : Below w2.heap.size w2 W) => hR.inodes W hW)
    have HGT := Lib.hid (fun W (hW : Below w2.heap.size w2 W) => hR.get at_ _ _ W rfl rfl hW)
    have HHM := Lib.hid (fun id W (hW : Below w2.heap.size w2 W) => home_any gb g id W (hR.below hW) (hL.below hW) hok)
    have HFD := Lib.hid (fun p W (hp : p.size ≤ 1000) (hW : Below w2.heap.size w2 W) => find_any gb g at_ p true W (hR.below hW) hT hp)
    have HLN : Hid (g.n.length ≤ 1000) := Lib.hid (by have := hok.len; omega)
    generalize hth : (g.get at_).isSome = there at HGT
    generalize g.got at_ = ia at HGT
    have HTH := Lib.hid hth
    unfold St.v at HHM HFD
    clear hR hL hT hok hth
    go_wp2_with fail
    refine (HIN.out w2 (Below.refl _ _)).mono ?_
    rintro e w3 ⟨a3, c3, rfl, hs3, hb3⟩
    have HS3 := Lib.hid hs3
    have HN3 := Lib.hid hb3
    have HB3 := Lib.hid (HB2.out.trans (hb3.mono HB2.out.size))
    have hx := HX.out _ HB3.out
    have x0 := cell_atW hx 0 _ rfl
    have x1 := cell_atW hx 1 _ rfl
    clear hs3 hb3 hx
    go_wp2_with fail
    refine (HGT.out w3 HN3.out).mono ?_
    rintro e w4 ⟨rfl, hb4⟩
    have HS4 := Lib.hid (HS3.out.below (hb4.alloc hb4.size (.cells #[.int .i64 ia.id.t, .int .i64 ia.id.r, .int .i64 ia.kind, .int .i64 ia.links, .int .i64 ia.mode, .string ia.data] 28)))
    have HN4 := Lib.hid ((HN3.out.trans (hb4.mono HN3.out.size)).alloc (HN3.out.trans (hb4.mono HN3.out.size)).size (.cells #[.int .i64 ia.id.t, .int .i64 ia.id.r, .int .i64 ia.kind, .int .i64 ia.links, .int .i64 ia.mode, .string ia.data] 28))
    have HB4 := Lib.hid ((HB3.out.trans (hb4.mono HB3.out.size)).alloc (HB3.out.trans (hb4.mono HB3.out.size)).size (.cells #[.int .i64 ia.id.t, .int .i64 ia.id.r, .int .i64 ia.kind, .int .i64 ia.links, .int .i64 ia.mode, .string ia.data] 28))
    clear hb4 x0 x1
    go_wp2
    obtain ⟨W5, hW5⟩ : ∃ W5, W5 = w4.alloc (.cells #[.int .i64 ia.id.t, .int .i64 ia.id.r, .int .i64 ia.kind, .int .i64 ia.links, .int .i64 ia.mode, .string ia.data] 28) := ⟨_, rfl⟩
    rw [← hW5] at HS4 HN4 HB4 ⊢
    clear hW5
    go_loopg [10] g.n.length (fun gg s10 wr => ∃ i : Nat, s10 = .int .i64 i ∧ i ≤ g.n.length ∧ g.n.length - i ≤ gg ∧ Aside (Below W5.heap.size W5 wr))
    case atStart => exact ⟨0, rfl, Nat.zero_le _, Nat.le_refl _, (show Aside _ from Below.refl _ _)⟩
    case round =>
      obtain ⟨i, rfl, hil, hig, hB⟩ := hrel
      have HBR := Lib.hid hB.out
      clear hB
      by_cases hlt : i < g.n.length
      · have hlti : (i : Int) < (g.n.length : Int) := by omega
        have hi0 : (0 : Int) ≤ (i : Int) := by omega
        have hwi : IntKind.i64.wrap ((i : Int) + 1) = (i : Int) + 1 := wrapNat (i + 1) (by have := HLN.out; omega)
        obtain ⟨b, off, rfl, hbl, _⟩ := slAt_at HS4.out hlt
        have HCE : Hid (∀ W, Below W5.heap.size W5 W → W.cell? ⟨b, off + i * 6, none⟩ = some (.int .i64 g.n[i]!.id.t) ∧ W.cell? ⟨b, off + i * 6 + 1, none⟩ = some (.int .i64 g.n[i]!.id.r) ∧ W.cell? ⟨b, off + i * 6 + 2, none⟩ = some (.int .i64 g.n[i]!.kind)) := Lib.hid fun W hW => by
          obtain ⟨b', off', e, _, hc⟩ := slAt_at (HS4.out.below hW) hlt
          cases e
          exact ⟨hc i hlt 0 _ rfl, hc i hlt 1 _ rfl, hc i hlt 2 _ rfl⟩
        obtain ⟨y0, y1, y2⟩ := HCE.out _ HBR.out
        have hmem : g.n[i]! ∈ g.n := by rw [getElem!_pos g.n i hlt]; exact List.getElem_mem hlt
        obtain ⟨hq1, hq2⟩ := home_plain HFI.out hmem
        have HQ2 := Lib.hid hq2
        have HHO := Lib.hid (fun W (hW : Below W5.heap.size W5 W) => HHM.out g.n[i]!.id W (HN4.out.trans (hW.mono HN4.out.size)))
        clear hq2 hmem
        generalize g.n[i]! = z at *
        generalize (g.home z.id).1 = h at *
        rw [hq1] at HHO
        clear hq1
        have hbr := HBR.out.size
        cases hk : (z.kind == 1) with
        | false =>
          rw [hk] at HHO
          have hk1 : ¬ z.kind = 1 := by simpa using hk
          go_wp2_with fail
          refine (HHO.out _ HBR.out).mono ?_
          rintro e w6 ⟨rfl, hb6⟩
          have HB6 := Lib.hid (HBR.out.trans (hb6.mono HBR.out.size))
          obtain ⟨_, _, z2⟩ := HCE.out _ HB6.out
          clear hb6 y0 y1 y2
          go_wp2
          go_roundg (g.n.length - (i + 1))
          case measure => omega
          case rel => exact ⟨i + 1, by first | rfl | go_num, by omega, Nat.le_refl _, (show Aside _ from HB6.out)⟩
        | true =>
          rw [hk] at HHO
          have hk1 : z.kind = 1 := by simpa using hk
          rw [hk1] at y2
          by_cases hsz : 128 < h.size
          · have hszi : (128 : Int) < (h.size : Int) := by omega
            go_wp2_with fail
            refine (HHO.out _ HBR.out).mono ?_
            rintro e w6 ⟨rfl, hb6⟩
            have HB6 := Lib.hid (HBR.out.trans (hb6.mono HBR.out.size))
            obtain ⟨_, _, z2⟩ := HCE.out _ HB6.out
            rw [hk1] at z2
            clear hb6 y0 y1 y2
            go_wp2
            go_roundg (g.n.length - (i + 1))
            case measure => omega
            case rel => exact ⟨i + 1, by first | rfl | go_num, by omega, Nat.le_refl _, (show Aside _ from HB6.out)⟩
          · have hszi : ¬ (128 : Int) < (h.size : Int) := by omega
            cases there with
            | false =>
              go_wp2_with fail
              refine (HHO.out _ HBR.out).mono ?_
              rintro e w6 ⟨rfl, hb6⟩
              have HB6 := Lib.hid (HBR.out.trans (hb6.mono HBR.out.size))
              obtain ⟨_, _, z2⟩ := HCE.out _ HB6.out
              rw [hk1] at z2
              clear hb6 y0 y1 y2
              go_wp2
              go_roundg (g.n.length - (i + 1))
              case measure => omega
              case rel => exact ⟨i + 1, by first | rfl | go_num, by omega, Nat.le_refl _, (show Aside _ from HB6.out)⟩
            | true =>
              obtain ⟨s, hs1, hs2, hs3⟩ := HQ2.out hk at_ HTH.out (by omega)
              have HF1 := Lib.hid (fun W (hW : Below W5.heap.size W5 W) => HFD.out h W (by omega) (HN4.out.trans (hW.mono HN4.out.size)))
              rw [hs1] at HF1
              obtain ⟨sa, sn, si, sb⟩ := s
              obtain rfl : sb = true := hs2
              obtain rfl : si = z.id := hs3
              simp only [Spot.v] at HF1
              have hne : ∀ w, (binOp .neq 26 (.agg #[.int .i64 z.id.t, .int .i64 z.id.r]) (.agg #[.int .i64 z.id.t, .int .i64 z.id.r])).run Tryz.prog w = .ok (.bool false) w := fun w => by rw [neq_st]; simp
              clear hs1
              go_wp2_with fail
              refine (HHO.out _ HBR.out).mono ?_
              rintro e w6 ⟨rfl, hb6⟩
              have HB6 := Lib.hid (HBR.out.trans (hb6.mono HBR.out.size))
              obtain ⟨_, _, z2⟩ := HCE.out _ HB6.out
              rw [hk1] at z2
              have hx := HX.out _ (HB4.out.trans (HB6.out.mono HB4.out.size))
              have x0 := cell_atW hx 0 _ rfl
              have x1 := cell_atW hx 1 _ rfl
              clear hb6 y0 y1 y2 hx
              go_wp2_with fail
              refine (HF1.out _ HB6.out).mono ?_
              rintro e w7 ⟨rfl, hb7⟩
              have HB7 := Lib.hid (HB6.out.trans (hb7.mono HB6.out.size))
              obtain ⟨v0, v1, v2⟩ := HCE.out _ HB7.out
              have hbl7 : b < w7.heap.size := by have := HB7.out.size; omega
              clear hb7 x0 x1 z2
              go_wp2_with fail
              go_quiet (fail)
              go_wp2
              go_roundg (g.n.length - (i + 1))
              case measure => omega
              case rel => exact ⟨i + 1, by first | rfl | go_num, by omega, Nat.le_refl _, (show Aside _ from (HB7.out.alloc HB7.out.size _).trans ⟨rfl, rfl, rfl, Nat.le_refl _, fun _ _ => rfl⟩)⟩
      · have hlti : ¬ (i : Int) < (g.n.length : Int) := by omega
        have hx := HX.out _ (HB4.out.trans (HBR.out.mono HB4.out.size))
        have HB6 := Lib.hid (HB4.out.trans (HBR.out.mono HB4.out.size))
        have x0 := cell_atW hx 0 _ rfl
        have x1 := cell_atW hx 1 _ rfl
        clear hx
        go_wp2_with fail
        refine (HHN.out _).mono ?_
        rintro e w7 ⟨rfl, hb7⟩
        have HB7 := Lib.hid (HB6.out.trans (hb7.mono HB6.out.size))
        clear hb7
        go_wp2
        go_ret
        exact ⟨rfl, HEND.out _ HB7.out⟩
end Go.Proofs.YtfbjiaedfmdcfaaGreatDoor.L15

/-! ## LUpPl -/
namespace Go.Proofs.YtfbjiaedfmdcfaaGreatDoor
open Go.RowKit Go.Proofs

def upText : ByteArray := ⟨#[47, 46, 46]⟩
theorem parts_up (p : ByteArray) : partsOf (p ++ upText) = partsOf p ++ [upName] := by
  unfold partsOf partsL
  have e : (p ++ upText).data.toList = p.data.toList ++ 47 :: [46, 46] := by rw [ByteArray.data_append, Array.toList_append]; rfl
  rw [e, cutS_mid, List.filter_append, List.map_append]
  rfl
theorem why_up {p : ByteArray} (h0 : p.size ≠ 0) (h1 : p.size ≤ 100) : splitWhy (p ++ upText) = splitWhy p := by
  have hs : (p ++ upText).size = p.size + 3 := by rw [ByteArray.size_append]; rfl
  have hn : hasNul (p ++ upText) = hasNul p := by
    unfold hasNul
    rw [ByteArray.data_append, Array.toList_append]
    simp [upText]
  unfold splitWhy
  rw [hs, if_neg (by omega), if_neg h0, parts_up, List.any_append, hn]
  rw [decide_eq_false (show ¬ 128 < p.size + 3 by omega), decide_eq_false (show ¬ 128 < p.size by omega)]
  have : List.any [upName] longPart = false := rfl
  rw [this, Bool.or_false]
theorem start_up {p : ByteArray} (h0 : p.size ≠ 0) (at_ : St) : startAt at_ (p ++ upText) = startAt at_ p := by
  have e : isRooted (p ++ upText) = isRooted p := by
    unfold isRooted
    rw [ByteArray.data_append, Array.toList_append]
    rw [size_data] at h0
    cases hl : p.data.toList with
    | nil => rw [hl] at h0; exact absurd rfl h0
    | cons a l => simp [Lib.hasPrefix, List.isPrefixOf]
  unfold startAt
  rw [e]
theorem Gr.Ok.findP_up {g : Gr} (h : g.Ok) {p : ByteArray} (h0 : p.size ≠ 0) (h1 : p.size ≤ 100) : g.findP ⟨0, 0⟩ (p ++ upText) true =
    if (g.findP ⟨0, 0⟩ p true).2 ≠ 0 then (spot0, (g.findP ⟨0, 0⟩ p true).2) else if g.stepWhy (g.findP ⟨0, 0⟩ p true).1 ≠ 0 then (spot0, g.stepWhy (g.findP ⟨0, 0⟩ p true).1) else (g.stepTo (g.findP ⟨0, 0⟩ p true).1 upName, 0) := by
  unfold Gr.findP
  rw [why_up h0 h1, start_up h0, parts_up]
  by_cases hw : splitWhy p ≠ 0
  · rw [if_pos hw, if_pos hw, if_pos hw]
  · rw [if_neg hw, if_neg hw, h.root_some]
    exact Gr.goes_up h _ _ 0 (SpotIn.start h h.root_some p)

/-- all that the law asks -/
theorem up_law {g : Gr} (h : g.Fine) {p : ByteArray} (h0 : p.size ≠ 0) (h1 : p.size ≤ 100) (a b : Spot) (e f : Int) (ha : g.findP ⟨0, 0⟩ p true = (a, e)) (hb : g.findP ⟨0, 0⟩ (p ++ upText) true = (b, f)) :
    (e ≠ 0 ∧ f ≠ 0) ∨ (e = 0 ∧ a.there = false ∧ f = 3) ∨ (e = 0 ∧ a.there = true ∧ (g.got a.ino).kind ≠ 1 ∧ f = 6) ∨
      (e = 0 ∧ a.there = true ∧ (g.got a.ino).kind = 1 ∧ f = 0 ∧ b = ⟨⟨0, 0⟩, ⟨#[]⟩, (g.parent a.ino).getD ⟨0, 0⟩, true⟩ ∧ ((g.parent a.ino).isSome = true ∨ a.ino = ⟨0, 0⟩ ∧ (g.parent a.ino).getD ⟨0, 0⟩ = ⟨0, 0⟩) ∧
        ∃ t, (g.home a.ino).1 = (g.home ((g.parent a.ino).getD ⟨0, 0⟩)).1 ++ t) := by
  have hu := h.ok.findP_up h0 h1
  rw [ha, hb] at hu
  dsimp only at hu
  by_cases he : e = 0
  · rw [if_neg (by rw [he]; simp)] at hu
    right
    by_cases ht : a.there = true
    · by_cases hk : (g.got a.ino).kind = 1
      · right; right
        have hw : g.stepWhy a = 0 := by unfold Gr.stepWhy; rw [ht, hk]; rfl
        obtain ⟨_, hd⟩ := Gr.stepWhy_zero hw
        rw [if_neg (by rw [hw]; simp)] at hu
        cases hu
        have hst : g.stepTo a upName = ⟨⟨0, 0⟩, ⟨#[]⟩, (g.parent a.ino).getD ⟨0, 0⟩, true⟩ := by unfold Gr.stepTo; rw [if_pos (show upName.data.toList = [46, 46] from rfl)]
        refine ⟨he, ht, hk, rfl, hst, ?_⟩
        have hhd : (g.home a.ino).1 = homeText (g.ups a.ino).reverse := by unfold Gr.home; rw [h.homeOk_iff, hd]; rfl
        have hpd := h.ok.parent_some_get (a := a.ino)
        have hhp : (g.home ((g.parent a.ino).getD ⟨0, 0⟩)).1 = homeText (g.ups ((g.parent a.ino).getD ⟨0, 0⟩)).reverse := by unfold Gr.home; rw [h.homeOk_iff, hpd.2]; rfl
        cases hp : g.parent a.ino with
        | none =>
          have hr : a.ino = ⟨0, 0⟩ := by
            by_cases hr : a.ino = ⟨0, 0⟩
            · exact hr
            · obtain ⟨q, hq⟩ := h.parent_of hd hr
              rw [hp] at hq; cases hq
          exact ⟨.inr ⟨hr, rfl⟩, ⟨#[]⟩, by rw [hr]; apply ByteArray.ext; simp [ByteArray.data_append]⟩
        | some q =>
          rw [hp] at hhp
          refine ⟨.inl rfl, ?_⟩
          by_cases hr : a.ino = ⟨0, 0⟩
          · rw [hr] at hp
            obtain ⟨_, x, hx, h2, _⟩ := Gr.parent_some hp
            exact absurd h2 (h.ok.ends x hx).2.2
          · obtain ⟨t, ht2⟩ := h.ok.home_up (h.under_root hd) hr hp
            refine ⟨bsOf t, ?_⟩
            rw [hhd, hhp]
            apply ByteArray.ext
            apply Array.toList_inj.1
            rw [ht2, ByteArray.data_append, Array.toList_append, bsOf_data]
            rfl
      · right; left
        have hw : g.stepWhy a = 6 := by
          unfold Gr.stepWhy
          rw [ht]
          simp [hk]
        rw [hw] at hu
        cases hu
        exact ⟨he, ht, hk, rfl⟩
    · left
      have hw : g.stepWhy a = 3 := by unfold Gr.stepWhy; simp [ht]
      rw [hw] at hu
      cases hu
      exact ⟨he, by simpa using ht, rfl⟩
  · left
    rw [if_pos he] at hu
    cases hu
    exact ⟨he, he⟩
end Go.Proofs.YtfbjiaedfmdcfaaGreatDoor

/-! ## LUp -/
namespace Go.Proofs.YtfbjiaedfmdcfaaGreatDoor.L15
open Go.RowKit Go.Shelf Go.Proofs

theorem keepBox {w W : World} {o : Obj} (h : Below (w.alloc o).heap.size (w.alloc o) W) : W.heap[w.heap.size]? = some o := (h.block w.heap.size (by simp)).trans (World.alloc_heap_new w o)
theorem keepOn {B : Nat} {o : Obj} {w W : World} (h : w.heap[B]? = some o) (hb : Below w.heap.size w W) : W.heap[B]? = some o := (hb.block B (Array.getElem?_eq_some_iff.1 h).1).trans h
theorem keepAl {B : Nat} {o : Obj} {w : World} (h : w.heap[B]? = some o) (q : Obj) : (w.alloc q).heap[B]? = some o := (Below.heap_alloc w q B (Array.getElem?_eq_some_iff.1 h).1).trans h

set_option maxRecDepth 100000 in
set_option maxHeartbeats 8000000 in
theorem up_walk (v1 : Value) (l : List Op) (p : ByteArray) (w : World) (hs1 : SlAt w 13 Op.cells v1 l) (hn1 : ∀ o ∈ l, o.Small) (_hp : p.size ≤ 140737488351232) :
    Calls Tryz.prog 9 #[v1, .string p] w fun y w' => y = .returned (.bool true) ∧ Below w.heap.size w w' := by
  have HSH := Lib.hid (fun W => shownP_any W)
  have HFW := Lib.hid (fun W (hW : Below w.heap.size w W) => fewP_any v1 l W (hs1.below hW))
  have HOF := Lib.hid (fun (hl : l.length ≤ 1000) W (hW : Below w.heap.size w W) => of_any v1 l W (hs1.below hW) hn1 hl)
  obtain ⟨a1, c1, rfl⟩ := hs1.len
  clear hs1 hn1
  have HTL : Hid (p.toList = p.data.toList) := Lib.hid (ByteArray.toList_eq p)
  cases hf : decide (l.length ≤ 60) with
  | false =>
    rw [hf] at HFW
    clear hf
    go_enter Tryz.func9, Tryz.ntmps9
    go_wp2_with fail
    refine (HSH.out _).mono ?_
    rintro e w1 ⟨rfl, hb1⟩
    have HB1 := Lib.hid hb1
    clear hb1
    go_wp2_with (go_at_call 29; refine (HFW.out _ HB1.out).mono ?_; rintro y w' ⟨rfl, rfl⟩)
    go_ret
    exact ⟨rfl, HB1.out⟩
  | true =>
    rw [hf] at HFW
    by_cases h100 : 100 < p.size
    · have h100i : (100 : Int) < (p.size : Int) := by omega
      clear hf
      go_enter Tryz.func9, Tryz.ntmps9
      go_wp2_with fail
      refine (HSH.out _).mono ?_
      rintro e w1 ⟨rfl, hb1⟩
      have HB1 := Lib.hid hb1
      clear hb1
      go_wp2_with (go_at_call 29; refine (HFW.out _ HB1.out).mono ?_; rintro y w' ⟨rfl, rfl⟩)
      go_ret
      exact ⟨rfl, HB1.out⟩
    · have h100i : ¬ (100 : Int) < (p.size : Int) := by omega
      by_cases h0 : p.size = 0
      · have he : p.toList = [] := by rw [HTL.out]; exact List.eq_nil_of_length_eq_zero (by rw [← size_data]; exact h0)
        clear hf
        go_enter Tryz.func9, Tryz.ntmps9
        go_wp2_with fail
        refine (HSH.out _).mono ?_
        rintro e w1 ⟨rfl, hb1⟩
        have HB1 := Lib.hid hb1
        clear hb1
        go_wp2_with (go_at_call 29; refine (HFW.out _ HB1.out).mono ?_; rintro y w' ⟨rfl, rfl⟩)
        go_ret
        exact ⟨rfl, HB1.out⟩
      · have he : ¬ p.toList = [] := by rw [HTL.out]; intro h; exact h0 (by rw [size_data, h]; rfl)
        have he' : p.toList.isEmpty = false := by rw [Bool.eq_false_iff]; intro h; exact he (List.isEmpty_iff.1 h)
        have h9 : ¬ 9223372036854775807 < p.size + 3 := by omega
        have HL1 : Hid (l.length ≤ 1000) := Lib.hid (by have := of_decide_eq_true hf; omega)
        have hFI : (ofOps l).Fine := ran_fine _
        have hT := ofOps_thin l
        have hlaw := fun a b e f => up_law hFI h0 (by omega : p.size ≤ 100) a b e f
        clear hf
        go_enter Tryz.func9, Tryz.ntmps9
        go_wp2_with fail
        refine (HSH.out _).mono ?_
        rintro e w1 ⟨rfl, hb1⟩
        have HB1 := Lib.hid hb1
        clear hb1
        go_wp2_with (go_at_call 29; refine (HFW.out _ HB1.out).mono ?_; rintro y w' ⟨rfl, rfl⟩)
        refine (HOF.out HL1.out _ HB1.out).mono ?_
        rintro e w2 ⟨v2, rfl, ⟨gb, mI, mE, rfl, hG, h1, h2, h3⟩, hb2⟩
        have HB2 := Lib.hid (HB1.out.trans (hb2.mono HB1.out.size))
        have hok := hFI.ok
        have hR := hG.reads hok (by have := hok.few; omega)
        have hL := hG.listsOwn hok (by have := hok.few; omega)
        clear h1 h2 h3 hb2 hG HOF
        generalize ofOps l = g at *
        have HGT := Lib.hid (fun id W (hW : Below w2.heap.size w2 W) => hR.get id _ _ W rfl rfl hW)
        have HPA := Lib.hid (fun id W (hW : Below w2.heap.size w2 W) => hR.parent id _ _ W rfl rfl hW)
        have HHM := Lib.hid (fun id W (hW : Below w2.heap.size w2 W) => home_any gb g id W (hR.below hW) (hL.below hW) hok)
        have HF1 := Lib.hid (fun W (hW : Below w2.heap.size w2 W) => find_any gb g ⟨0, 0⟩ p true W (hR.below hW) hT (by omega))
        have HF2 := Lib.hid (fun W (hW : Below w2.heap.size w2 W) => find_any gb g ⟨0, 0⟩ (p ++ upText) true W (hR.below hW) hT (by rw [ByteArray.size_append]; show p.size + 3 ≤ _; omega))
        rcases hfa : g.findP ⟨0, 0⟩ p true with ⟨a, e⟩
        rcases hfb : g.findP ⟨0, 0⟩ (p ++ upText) true with ⟨b, f⟩
        rw [hfa] at HF1
        rw [hfb] at HF2
        have hlw := hlaw a b e f hfa hfb
        simp only [Spot.v, St.v] at HF1 HF2 HHM
        unfold upText at HF2
        clear hR hL hT hok hfa hfb hFI hlaw
        go_wp2_with fail
        refine (HF1.out w2 (Below.refl _ _)).mono ?_
        rintro y w3 ⟨rfl, hb3⟩
        have HN3 := Lib.hid hb3
        have HB3 := Lib.hid (HB2.out.trans (hb3.mono HB2.out.size))
        clear hb3
        go_wp2_with fail
        refine (HF2.out _ (HN3.out.alloc HN3.out.size _)).mono ?_
        rintro y w4 ⟨rfl, hb4⟩
        have ha4 := keepBox hb4
        have HN4 := Lib.hid ((HN3.out.alloc HN3.out.size _).trans (hb4.mono (by have := HN3.out.size; simp only [World.size_alloc]; omega)))
        have HB4 := Lib.hid ((HB3.out.alloc HB3.out.size _).trans (hb4.mono (by have := HB3.out.size; simp only [World.size_alloc]; omega)))
        have HA4 := Lib.hid ha4
        have a0 := cell_atW ha4 0 _ rfl
        have a1 := cell_atW ha4 1 _ rfl
        have a2 := cell_atW ha4 2 _ rfl
        have a3 := cell_atW ha4 3 _ rfl
        have a4 := cell_atW ha4 4 _ rfl
        have a5 := cell_atW ha4 5 _ rfl
        have hl4 := (Array.getElem?_eq_some_iff.1 ha4).1
        clear hb4 ha4
        rcases hlw with ⟨he1, hf1⟩ | ⟨rfl, hat, rfl⟩ | ⟨rfl, hat, hk, rfl⟩ | ⟨rfl, hat, hk, rfl, rfl, hP, t, ht⟩
        · have heb : (e == 0) = false := by simpa using he1
          have hec : (e != 0) = true := by simpa using he1
          have hfb : (f == 0) = false := by simpa using hf1
          have hfc : (f != 0) = true := by simpa using hf1
          go_wp2
          go_ret
          exact ⟨rfl, HB4.out.alloc HB4.out.size _⟩
        · rw [hat] at a5
          go_wp2
          go_ret
          exact ⟨rfl, HB4.out.alloc HB4.out.size _⟩
        · rw [hat] at a5
          have hkb : (( g.got a.ino).kind != 1) = true := by simpa using hk
          have HG1 := Lib.hid (fun W hW => HGT.out a.ino W hW)
          generalize g.got a.ino = i at *
          generalize (g.get a.ino).isSome = gi at HG1
          go_wp2_with fail
          refine (HG1.out _ (HN4.out.alloc HN4.out.size _)).mono ?_
          rintro y w5 ⟨rfl, hb5⟩
          have HB5 := Lib.hid ((HB4.out.alloc HB4.out.size _).trans (hb5.mono (by have := HB4.out.size; simp only [World.size_alloc]; omega)))
          clear hb5
          go_wp2
          go_ret
          exact ⟨rfl, HB5.out.alloc HB5.out.size _⟩
        · rw [hat] at a5
          have HG1 := Lib.hid (fun W hW => HGT.out a.ino W hW)
          have HP1 := Lib.hid (fun W hW => HPA.out a.ino W hW)
          have HH1 := Lib.hid (fun W hW => HHM.out a.ino W hW)
          have HH2 := Lib.hid (fun W hW => HHM.out ((g.parent a.ino).getD ⟨0, 0⟩) W hW)
          have hBB := keepBox (Below.refl _ (w4.alloc (.cells #[.int .i64 0, .int .i64 0, .string ⟨#[]⟩, .int .i64 ((g.parent a.ino).getD ⟨0, 0⟩).t, .int .i64 ((g.parent a.ino).getD ⟨0, 0⟩).r, .bool true] 60)))
          rw [ht] at HH1
          generalize hi : g.got a.ino = i at *
          generalize (g.get a.ino).isSome = gi at HG1
          generalize (g.parent a.ino).getD ⟨0, 0⟩ = P at *
          generalize (g.parent a.ino).isSome = is at *
          generalize (g.home P).1 = k at *
          generalize (g.home a.ino).2 = q1 at HH1
          generalize (g.home P).2 = q2 at HH2
          have HBB := Lib.hid hBB
          have hsz : (k ++ t).size = k.size + t.size := ByteArray.size_append
          have hex : (k ++ t).extract 0 k.size = k := by
            apply ByteArray.ext
            rw [ByteArray.data_extract, ByteArray.data_append]
            show (k.data ++ t.data).extract 0 k.data.size = _
            simp
          have heq : ∀ w, (binOp .eql 26 (.agg #[.int .i64 P.t, .int .i64 P.r]) (.agg #[.int .i64 P.t, .int .i64 P.r])).run Tryz.prog w = .ok (.bool true) w := fun w => by rw [eql_st]; simp
          clear hBB hi ht
          go_wp2_with fail
          refine (HG1.out _ (HN4.out.alloc HN4.out.size _)).mono ?_
          rintro y w5 ⟨rfl, hb5⟩
          have HN5 := Lib.hid ((HN4.out.alloc HN4.out.size _).trans (hb5.mono (by have := HN4.out.size; simp only [World.size_alloc]; omega)))
          have HB5 := Lib.hid ((HB4.out.alloc HB4.out.size _).trans (hb5.mono (by have := HB4.out.size; simp only [World.size_alloc]; omega)))
          have ha5 := keepOn (keepAl HA4.out _) hb5
          have HA5 := Lib.hid ha5
          have HC5 := Lib.hid (keepOn HBB.out hb5)
          have c3 := cell_atW ha5 3 _ rfl
          have c4 := cell_atW ha5 4 _ rfl
          have hl5 := (Array.getElem?_eq_some_iff.1 ha5).1
          clear hb5 ha5 a0 a1 a2 a3 a4 a5 hl4
          go_wp2_with fail
          refine (HP1.out _ (HN5.out.alloc HN5.out.size _)).mono ?_
          rintro y w6 ⟨rfl, hb6⟩
          have HN6 := Lib.hid ((HN5.out.alloc HN5.out.size _).trans (hb6.mono (by have := HN5.out.size; simp only [World.size_alloc]; omega)))
          have HB6 := Lib.hid ((HB5.out.alloc HB5.out.size _).trans (hb6.mono (by have := HB5.out.size; simp only [World.size_alloc]; omega)))
          have ha6 := keepOn (keepAl HA5.out _) hb6
          have HA6 := Lib.hid ha6
          have HC6 := Lib.hid (keepOn (keepAl HC5.out _) hb6)
          have c3 := cell_atW ha6 3 _ rfl
          have c4 := cell_atW ha6 4 _ rfl
          have hl6 := (Array.getElem?_eq_some_iff.1 ha6).1
          clear hb6 ha6 hl5
          go_wp2_with fail
          refine (HH1.out _ (HN6.out.alloc HN6.out.size _)).mono ?_
          rintro y w7 ⟨rfl, hb7⟩
          have HN7 := Lib.hid ((HN6.out.alloc HN6.out.size _).trans (hb7.mono (by have := HN6.out.size; simp only [World.size_alloc]; omega)))
          have HB7 := Lib.hid ((HB6.out.alloc HB6.out.size _).trans (hb7.mono (by have := HB6.out.size; simp only [World.size_alloc]; omega)))
          have HA7 := Lib.hid (keepOn (keepAl HA6.out _) hb7)
          have HC7 := Lib.hid (keepOn (keepAl HC6.out _) hb7)
          have hd7 := keepBox hb7
          have HD7 := Lib.hid hd7
          have d0 := cell_atW hd7 0 _ rfl
          have d1 := cell_atW hd7 1 _ rfl
          clear hb7 hd7 hl6
          go_wp2_with fail
          refine (HH2.out _ HN7.out).mono ?_
          rintro y w8 ⟨rfl, hb8⟩
          have HB8 := Lib.hid (HB7.out.trans (hb8.mono HB7.out.size))
          have ha8 := keepOn HA7.out hb8
          have hc8 := keepOn HC7.out hb8
          have hd8 := keepOn HD7.out hb8
          have a3 := cell_atW ha8 3 _ rfl
          have a4 := cell_atW ha8 4 _ rfl
          have b3 := cell_atW hc8 3 _ rfl
          have b4 := cell_atW hc8 4 _ rfl
          have b5 := cell_atW hc8 5 _ rfl
          have d0 := cell_atW hd8 0 _ rfl
          have d1 := cell_atW hd8 1 _ rfl
          clear hb8 ha8 hc8 hd8
          rcases hP with rfl | ⟨hr, rfl⟩
          · go_wp2
            go_ret
            exact ⟨rfl, HB8.out⟩
          · rw [hr] at a3 a4
            cases is with
            | true =>
              go_wp2
              go_ret
              exact ⟨rfl, HB8.out⟩
            | false =>
              go_wp2
              go_ret
              exact ⟨rfl, HB8.out⟩
end Go.Proofs.YtfbjiaedfmdcfaaGreatDoor.L15

/-! ## LPathsA -/
namespace Go.Proofs.YtfbjiaedfmdcfaaGreatDoor
end Go.Proofs.YtfbjiaedfmdcfaaGreatDoor
