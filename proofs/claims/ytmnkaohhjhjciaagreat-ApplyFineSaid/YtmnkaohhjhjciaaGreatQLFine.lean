/-
  thimblelaw11.ApplyFine: behind whatever operations a graph is fine; no condition but the texts' reach.
-/
import Derived.Test.YtmnkaohhjhjciaaGreatQL11
import Derived.Test.YtmnkaohhjhjciaaGreatQAudJ
namespace Go.Proofs.YtmnkaohhjhjciaaGreat.L11
open Go.RowKit Go.Shelf Go.Proofs

theorem name_small {s : ByteArray} (h : nameOk s = true) : s.size ≤ maxLen := by
  unfold nameOk at h
  simp only [Bool.and_eq_true, decide_eq_true_eq] at h
  unfold maxLen; omega

set_option maxRecDepth 100000 in
set_option maxHeartbeats 4000000 in
theorem fine_walk (v : Value) (l : List Op) (w : World) (hs : SlAt w 13 Op.cells v l) (hn : ∀ o ∈ l, o.Small) :
    Calls Tryz.prog 17 #[v] w fun y w' => y = .returned (.bool true) ∧ Below w.heap.size w w' := by
  have HSL : Hid (∀ W, Below w.heap.size w W → SlAt W 13 Op.cells v l) := Lib.hid fun W hW => hs.below hW
  have HF := Lib.hid (fun W (hW : Below w.heap.size w W) => few_any v l W (hs.below hW))
  obtain ⟨va, vc, rfl⟩ := hs.len
  have HNM := Lib.hid hn
  clear hs hn
  cases hfew : decide (l.length ≤ 100) with
  | false =>
    rw [hfew] at HF
    clear hfew
    go_enter Tryz.func17, Tryz.ntmps17
    go_wp2_with fail
    refine (shown_any _).mono ?_
    rintro e w1 ⟨rfl, hb⟩
    have HB1 := Lib.hid hb
    clear hb
    go_wp2_with (go_at_call 32; refine (HF.out _ HB1.out).mono ?_; rintro y w' ⟨rfl, rfl⟩)
    go_ret
    exact ⟨rfl, HB1.out⟩
  | true =>
    rw [hfew] at HF
    have hlen : l.length ≤ 100 := of_decide_eq_true hfew
    clear hfew
    go_enter Tryz.func17, Tryz.ntmps17
    go_wp2_with fail
    refine (shown_any _).mono ?_
    rintro e w1 ⟨rfl, hb⟩
    have HB1 := Lib.hid hb
    clear hb
    go_wp2_with (go_at_call 32; refine (HF.out _ HB1.out).mono ?_; rintro y w' ⟨rfl, rfl⟩)
    refine (new_g _).mono ?_
    rintro e w2 ⟨v, rfl, ⟨gb, mI, mE, rfl, hG, h1, h2, h3⟩, hb⟩
    have HG := Lib.hid hG
    have HB2 := Lib.hid (HB1.out.trans (hb.mono HB1.out.size))
    have HM : Hid (w.heap.size ≤ mI ∧ w.heap.size ≤ mE) := Lib.hid (by have := HB1.out.size; omega)
    clear hG hb h1 h2 h3
    go_wp2
    go_loopg [5] l.length (fun gg s5 wr => ∃ i : Nat, s5 = .int .i64 i ∧ i ≤ l.length ∧ l.length - i ≤ gg ∧ Aside (GrAt wr gb mI mE (ran (l.take i))) ∧ Aside (Below w.heap.size w wr))
    case atStart => exact ⟨0, rfl, Nat.zero_le _, by omega, (show Aside _ from HG.out), (show Aside _ from HB2.out)⟩
    case round =>
      obtain ⟨i, rfl, hil, hgg, hG, hB⟩ := hrel
      have hi0 : (0 : Int) ≤ (i : Int) := by omega
      have hwi : IntKind.i64.wrap ((i : Int) + 1) = (i : Int) + 1 := wrapNat (i + 1) (by omega)
      by_cases hlt : i < l.length
      · have hlti : (i : Int) < (l.length : Int) := by omega
        obtain ⟨bb, off, rfl, hbl, hcells⟩ : ∃ b off, va = some ⟨b, off, none⟩ ∧ b < wr.heap.size ∧ ∀ j, j < l.length → ∀ i u, (Op.cells l[j]!)[i]? = some u → wr.cell? ⟨b, off + j * 13 + i, none⟩ = some u := by
          rcases HSL.out wr hB.out with ⟨_, _, _, h0⟩ | ⟨b, off, c', h0, _, _, h3, h4⟩
          · rw [h0] at hlt; exact absurd hlt (Nat.not_lt_zero _)
          · simp at h0; exact ⟨b, off, h0.1, h3, h4⟩
        obtain ⟨x0, x1, x2, x3, x4, x5, x6, x7, x8, x9, x10, x11, x12⟩ := cellsOp hcells i hlt
        have hdo := apply_any gb mI mE (ran (l.take i)) l[i]! wr hG.out (ran_ok _) (ran_thin _) (HNM.out _ (getElem!_mem hlt))
        have HST := Lib.hid (ran_step l i hlt)
        have HFI : Hid ((ran (l.take (i + 1))).Fine) := Lib.hid (ran_fine _)
        clear hcells
        unfold Op.v at hdo
        generalize l[i]! = x at x0 x1 x2 x3 x4 x5 x6 x7 x8 x9 x10 x11 x12 hdo HST
        obtain ⟨G1, hG1⟩ : ∃ G1, G1 = ran (l.take (i + 1)) := ⟨_, rfl⟩
        rw [← hG1] at HST HFI
        have HG1 := Lib.hid hG1
        clear hG1
        generalize ran (l.take i) = G at hdo HST
        have HDO := Lib.hid hdo
        clear hdo
        go_wp2_with fail
        refine HDO.out.mono ?_
        rintro e w3 ⟨rfl, hG3, hT3⟩
        rw [← HST.out] at hG3
        have hok := HFI.out.ok
        have hrd := hG3.reads hok (by have := hok.few; omega)
        have HI := Lib.hid (hrd.inodes w3 (Below.refl _ _))
        have HE := Lib.hid (fun W (hW : Below w3.heap.size w3 W) => hrd.entries W hW)
        have HG3 := Lib.hid hG3
        have HB3 := Lib.hid (hB.out.trans (own_below hT3 HM.out.1 HM.out.2 hB.out.size))
        have HL : Hid (G1.n.length ≤ 1000 ∧ G1.e.length ≤ 1000 ∧ ∀ x ∈ G1.e, x.name.size ≤ maxLen) := Lib.hid ⟨by have := hok.len; omega, by have := hok.few; omega, fun x hx => name_small (hok.names x hx)⟩
        have HFB := Lib.hid HFI.out.fine
        clear hG3 hT3 hok hrd
        go_wp2_with fail
        refine HI.out.mono ?_
        rintro e w4 ⟨a4, c4, rfl, hs4, hb4⟩
        have HS4 := Lib.hid hs4
        have HB4 := Lib.hid hb4
        clear hs4 hb4
        go_wp2_with fail
        refine (HE.out _ HB4.out).mono ?_
        rintro e w5 ⟨a5, c5, rfl, hs5, hb5⟩
        have hfi := fine_any _ _ G1.n G1.e w5 (HS4.out.below hb5) hs5 HL.out.1 HL.out.2.1 HL.out.2.2
        rw [HFB.out] at hfi
        have HFA := Lib.hid hfi
        have HB5 := Lib.hid (HB4.out.trans (hb5.mono HB4.out.size))
        clear hs5 hb5 hfi
        go_wp2_with fail
        refine HFA.out.mono ?_
        rintro e w6 ⟨rfl, hb6⟩
        have HB6 := Lib.hid (HB5.out.trans (hb6.mono HB5.out.size))
        clear hb6
        go_wp2
        go_roundg (l.length - (i + 1))
        case measure => omega
        case rel => exact ⟨i + 1, by first | rfl | go_num, by omega, by omega, (show Aside _ from by rw [← HG1.out]; exact HG3.out.below HB6.out), (show Aside _ from HB3.out.trans (HB6.out.mono HB3.out.size))⟩
      · have hlti : ¬ (i : Int) < (l.length : Int) := by omega
        go_wp2
        go_ret
        exact ⟨rfl, hB.out⟩
end Go.Proofs.YtmnkaohhjhjciaaGreat.L11
