/-
  thimblelaw10.AuditTree; no condition.
-/
import Derived.Test.YtmnkaohhjhjciaaReach
import Derived.Test.YtmnkaohhjhjciaaSumLaw
namespace Go.Proofs.Ytmnkaohhjhjciaa
open Go.RowKit Go.Shelf

/-- the first k entries, looked at for d -/
def upTo (e : List Ent) (k : Nat) (d : St) : St := (e.take k).foldl (fun id x => if x.ino = d then x.at_ else id) d
theorem upTo_succ {e : List Ent} {k : Nat} (hk : k < e.length) (d : St) : upTo e (k + 1) d = if e[k]!.ino = d then e[k]!.at_ else upTo e k d := by
  unfold upTo
  rw [show e.take (k + 1) = e.take k ++ [e[k]!] by rw [getElem!_pos e k hk]; exact List.take_succ_eq_append_getElem hk, List.foldl_append]
  rfl
theorem upTo_all (e : List Ent) (d : St) : upTo e e.length d = stepUp e d := by unfold upTo stepUp; rw [List.take_length]

/-- a stamp's box -/
def StBox (W : World) (B : Nat) (d : St) : Prop := W.heap[B]? = some (.cells #[.int .i64 d.t, .int .i64 d.r] 29 (0, 0))

set_option maxRecDepth 100000 in
set_option maxHeartbeats 4000000 in
theorem tree_walk (vn ve : Value) (n : List Ino) (e : List Ent) (w : World) (hn : SlAt w 6 Ino.cells vn n) (he : SlAt w 5 Ent.cells ve e) (hnm : ∀ x ∈ e, x.name.size ≤ maxLen) :
    Calls Try.prog 4 #[vn, ve] w fun x w' => x = .returned (.bool true) ∧ Below w.heap.size w w' := by
  have HN : Hid (∀ W, Below w.heap.size w W → SlAt W 6 Ino.cells vn n) := Lib.hid fun W hW => hn.below hW
  have HE : Hid (∀ W, Below w.heap.size w W → SlAt W 5 Ent.cells ve e) := Lib.hid fun W hW => he.below hW
  have HNM := Lib.hid hnm
  have HFEW : Hid (∀ W, Below w.heap.size w W → Calls Try.prog 12 #[vn, ve] W fun x w' => x = .returned (.bool (decide ((n.length : Int) ≤ 60) && decide ((e.length : Int) ≤ 60))) ∧ w' = W) := Lib.hid fun W hW => few_any vn ve n e W (hn.below hW) (he.below hW)
  obtain ⟨na, nc, rfl⟩ := hn.len
  obtain ⟨ea, ec, rfl⟩ := he.len
  clear hn he hnm
  cases hfew : (decide ((n.length : Int) ≤ 60) && decide ((e.length : Int) ≤ 60)) with
  | false =>
    rw [hfew] at HFEW
    clear hfew
    go_enter Try.func4, Try.ntmps4
    go_wp2_with (first
      | (go_at_call 11; refine (shown_any _).mono ?_; rintro x w1 ⟨rfl, hb⟩; have HB1 := Lib.hid hb; clear hb)
      | (go_at_call 12; refine (HFEW.out _ HB1.out).mono ?_; rintro x w' ⟨rfl, rfl⟩))
    go_ret
    exact ⟨rfl, HB1.out⟩
  | true =>
    rw [hfew] at HFEW
    simp only [Bool.and_eq_true, decide_eq_true_eq] at hfew
    have HL := Lib.hid hfew
    have hfew1 := hfew.1
    have hfew2 := hfew.2
    have HF1 : Hid (∀ W, Below w.heap.size w W → Calls Try.prog 13 #[.slice na n.length nc, .slice ea e.length ec] W fun x w' => x = .returned (.bool (fineB n e)) ∧ Below W.heap.size W w') := Lib.hid fun W hW => fine_any _ _ n e W (HN.out W hW) (HE.out W hW) (by omega) (by omega) HNM.out
    have HRL : Hid (∀ W, Below w.heap.size w W → Calls Try.prog 15 #[.slice na n.length nc, .slice ea e.length ec] W fun x w' => ∃ v zs, x = .returned v ∧ SlAt w' 2 St.cells v zs ∧ (∀ id, id ∈ zs ↔ Reached n e id) ∧ zs.Nodup ∧ Rising zs ∧ zs.length ≤ 1001 ∧ Below W.heap.size W w') := Lib.hid fun W hW => reachList_any _ _ n e W (HN.out W hW) (HE.out W hW) (by omega) (by omega)
    clear hfew hfew1 hfew2
    cases hf : fineB n e with
    | false =>
      rw [hf] at HF1
      clear hf
      go_enter Try.func4, Try.ntmps4
      go_wp2_with (first
        | (go_at_call 11; refine (shown_any _).mono ?_; rintro x w1 ⟨rfl, hb⟩; have HB1 := Lib.hid hb; clear hb)
        | (go_at_call 12; refine (HFEW.out _ HB1.out).mono ?_; rintro x w' ⟨rfl, rfl⟩)
        | (go_at_call 13; refine (HF1.out _ HB1.out).mono ?_; rintro x w2 ⟨rfl, hb⟩; have HB2 := Lib.hid (HB1.out.trans (hb.mono HB1.out.size)); clear hb))
      go_ret
      exact ⟨rfl, HB2.out⟩
    | true =>
      rw [hf] at HF1
      have HF := Lib.hid (fine_is hf)
      clear hf
      go_enter Try.func4, Try.ntmps4
      go_wp2_with (first
        | (go_at_call 11; refine (shown_any _).mono ?_; rintro x w1 ⟨rfl, hb⟩; have HB1 := Lib.hid hb; clear hb)
        | (go_at_call 12; refine (HFEW.out _ HB1.out).mono ?_; rintro x w' ⟨rfl, rfl⟩)
        | (go_at_call 13; refine (HF1.out _ HB1.out).mono ?_; rintro x w2 ⟨rfl, hb⟩; have HB2 := Lib.hid (HB1.out.trans (hb.mono HB1.out.size)); clear hb))
      clear HF1 HFEW
      go_loopg [6, 7] n.length (fun gg s6 s7 wr => ∃ i : Nat, i ≤ n.length ∧ n.length - i ≤ gg ∧ s7 = .int .i64 i ∧ s6 = .int .i64 (linksSum n e i : Nat) ∧ Aside (Below w.heap.size w wr))
      case atStart => exact ⟨0, Nat.zero_le _, by omega, rfl, by simp [linksSum, sumTo], HB2.out⟩
      case round =>
        obtain ⟨i, hi, hg, rfl, rfl, hB⟩ := hrel
        by_cases hlt : i < n.length
        · have hlti : (i : Int) < (n.length : Int) := by omega
          have hk0 : (0 : Int) ≤ (i : Int) := by omega
          obtain ⟨b, off, hna, hbl, hcells⟩ : ∃ b off, na = some ⟨b, off, none⟩ ∧ b < w.heap.size ∧ ∀ j, j < n.length → ∀ i u, (Ino.cells n[j]!)[i]? = some u → w.cell? ⟨b, off + j * 6 + i, none⟩ = some u := by
            rcases HN.out w (Below.refl _ _) with ⟨_, _, _, h0⟩ | ⟨b, off, c', h0, _, _, h3, h4⟩
            · rw [h0] at hlt; exact absurd hlt (Nat.not_lt_zero _)
            · simp at h0; exact ⟨b, off, h0.1, h3, h4⟩
          subst hna
          have hl1 := HF.out.links hlt
          have hl2 := linksSum_succ (e := e) hlt
          have hl3 := linksSum_le HF.out (i + 1)
          have hl4 := HL.out.2
          have hl5 := HL.out.1
          have hkd := kindOf_at HF.out.rises hlt
          have hrc := HF.out.reached (getElem!_mem hlt)
          obtain ⟨x0, x1, x2, x3, x4, x5⟩ := cellsIno hcells i hlt
          generalize n[i]! = X at *
          obtain ⟨m, hm⟩ : ∃ m, X.kind = 1 → m < n.length ∧ iterUp e m X.id = ⟨0, 0⟩ ∧ ∀ j, j < m → iterUp e j X.id ≠ ⟨0, 0⟩ := by
            by_cases hk : X.kind = 1
            · obtain ⟨m, h1, h2, h3⟩ := HF.out.root (by rw [hkd, hk]) hrc
              exact ⟨m, fun _ => ⟨h1, h2, h3⟩⟩
            · exact ⟨0, fun h => absurd h hk⟩
          have hwl : IntKind.i64.wrap (((linksSum n e i : Nat) : Int) + X.links) = ((linksSum n e (i + 1) : Nat) : Int) := by
            rw [hl1, ← Int.natCast_add, ← hl2]
            exact wrapNat _ (by omega)
          have hwi : IntKind.i64.wrap ((i : Int) + 1) = (i : Int) + 1 := wrapNat (i + 1) (by omega)
          have HXC : Hid (∀ W, Below w.heap.size w W → W.cell? ⟨b, off + i * 6 + 2, none⟩ = some (.int .i64 X.kind)) := Lib.hid fun W hW => (hW.cell (p := ⟨b, _, none⟩) hbl).trans x2
          have c3 : wr.cell? ⟨b, off + i * 6 + 3, none⟩ = some (.int .i64 X.links) := (hB.out.cell (p := ⟨b, _, none⟩) hbl).trans x3
          have c0 : wr.cell? ⟨b, off + i * 6, none⟩ = some (.int .i64 X.id.t) := (hB.out.cell (p := ⟨b, _, none⟩) hbl).trans x0
          have c1 : wr.cell? ⟨b, off + i * 6 + 1, none⟩ = some (.int .i64 X.id.r) := (hB.out.cell (p := ⟨b, _, none⟩) hbl).trans x1
          have HM := Lib.hid hm
          clear hcells x0 x1 x2 x3 x4 x5 hl1 hl2 hl3 hl4 hl5 hkd hrc hm hbl
          go_wp2
          clear hwl c3 c0 c1
          have hA := hB.out.alloc hB.out.size (.cells #[.int .i64 X.id.t, .int .i64 X.id.r] 29)
          have hA1 : wr.heap.size < (wr.alloc (.cells #[.int .i64 X.id.t, .int .i64 X.id.r] 29)).heap.size := by simp
          have hA2 : StBox (wr.alloc (.cells #[.int .i64 X.id.t, .int .i64 X.id.r] 29)) wr.heap.size X.id := World.alloc_heap_new wr _
          have hA3 := hB.out.size
          obtain ⟨W8, hW8⟩ : ∃ W8, W8 = wr.alloc (.cells #[.int .i64 X.id.t, .int .i64 X.id.r] 29) := ⟨_, rfl⟩
          rw [← hW8] at hA hA1 hA2 ⊢
          clear hW8
          obtain ⟨B8, hB8⟩ : ∃ B8, B8 = wr.heap.size := ⟨_, rfl⟩
          rw [← hB8] at hA1 hA2 hA3 ⊢
          clear hB8
          have HA := Lib.hid hA
          have HA1 := Lib.hid hA1
          have HA2 := Lib.hid hA2
          have HA3 := Lib.hid hA3
          clear hA hA1 hA2 hA3
          go_loopg [9] (n.length + 1) (fun gg s9 wr2 => ∃ s : Nat, s ≤ n.length ∧ n.length - s + 1 ≤ gg ∧ s9 = .int .i64 s ∧ Aside (Below w.heap.size w wr2 ∧ B8 < wr2.heap.size) ∧ Aside (StBox wr2 B8 (iterUp e s X.id)) ∧ Aside (X.kind = 1 → s ≤ m) ∧ Aside (X.kind ≠ 1 → s = 0))
          case atStart => exact ⟨0, Nat.zero_le _, by omega, rfl, (show Aside _ from ⟨HA.out, HA1.out⟩), (show Aside _ from HA2.out), (show Aside _ from fun _ => Nat.zero_le _), (show Aside _ from fun _ => rfl)⟩
          case round =>
            obtain ⟨s, hs, hgs, rfl, hB2, hbox, hsm, hs0⟩ := hrel
            have hkind := HXC.out wr hB2.out.1
            generalize hcur : iterUp e s X.id = cur at *
            have HCUR := Lib.hid hcur
            clear hcur
            have q0 := cell_at hbox.out 0 _ rfl
            have q1 := cell_at hbox.out 1 _ rfl
            by_cases hk1 : X.kind = 1
            · obtain ⟨hm1, hm2, hm3⟩ := HM.out hk1
              have hsn : (s : Int) < (n.length : Int) := by have := hsm.out hk1; omega
              have hkk : (X.kind == 1) = true := by rw [hk1]; rfl
              by_cases hse : s = m
              · have hc0 : cur = ⟨0, 0⟩ := by rw [← HCUR.out, hse]; exact hm2
                subst hc0
                have HK1 := Lib.hid hk1
                clear hk1 hse
                go_wp2
                go_roundg (n.length - (i + 1))
                case measure => omega
                case rel => exact ⟨i + 1, by omega, by omega, by first | rfl | go_num, rfl, hB2.out.1⟩
              · have hsm' := hsm.out hk1
                have HSM : Hid (s + 1 ≤ m) := Lib.hid (by omega)
                have hcr : cur ≠ ⟨0, 0⟩ := by rw [← HCUR.out]; exact hm3 s (by omega)
                have hsn2 : s + 1 ≤ n.length := by omega
                have hws : IntKind.i64.wrap ((s : Int) + 1) = (s : Int) + 1 := wrapNat (s + 1) (by have := HL.out.1; omega)
                have HK1 := Lib.hid hk1
                clear hk1 hsm' hse hm1 hm2 hm3
                obtain ⟨ct, cr⟩ := cur
                by_cases ht : ct = 0
                · subst ht
                  have hr : (cr == 0) = false := beq_eq_false_iff_ne.2 (fun h => hcr (by rw [h]))
                  clear hcr
                  go_wp2
                  have hA := hB2.out.1.alloc hB2.out.1.size (.cells #[.int .i64 0, .int .i64 cr] 29)
                  have hA1 : B8 < (wr.alloc (.cells #[.int .i64 0, .int .i64 cr] 29)).heap.size ∧ wr.heap.size < (wr.alloc (.cells #[.int .i64 0, .int .i64 cr] 29)).heap.size ∧ B8 < wr.heap.size ∧ w.heap.size ≤ wr.heap.size := ⟨by have := hB2.out.2; simp only [World.size_alloc]; omega, by simp, hB2.out.2, hB2.out.1.size⟩
                  have hA2 : StBox (wr.alloc (.cells #[.int .i64 0, .int .i64 cr] 29)) wr.heap.size ⟨0, cr⟩ := World.alloc_heap_new wr _
                  have hA3 : StBox (wr.alloc (.cells #[.int .i64 0, .int .i64 cr] 29)) B8 ⟨0, cr⟩ := (Below.heap_alloc wr _ B8 hB2.out.2).trans hbox.out
                  obtain ⟨W10, hW10⟩ : ∃ W10, W10 = wr.alloc (.cells #[.int .i64 0, .int .i64 cr] 29) := ⟨_, rfl⟩
                  rw [← hW10] at hA hA1 hA2 hA3 ⊢
                  clear hW10
                  obtain ⟨B10, hB10⟩ : ∃ B10, B10 = wr.heap.size := ⟨_, rfl⟩
                  rw [← hB10] at hA1 hA2 ⊢
                  clear hB10
                  have HB := Lib.hid hA
                  have HB1' := Lib.hid hA1
                  have HBA := Lib.hid hA2
                  have HBB := Lib.hid hA3
                  clear hA hA1 hA2 hA3 q0 q1 hbox hB2 hkind
                  go_loopg [11] e.length (fun gg s11 wr3 => ∃ k : Nat, k ≤ e.length ∧ e.length - k ≤ gg ∧ s11 = .int .i64 k ∧ Aside (Below w.heap.size w wr3 ∧ B8 < wr3.heap.size ∧ B10 < wr3.heap.size) ∧ Aside (StBox wr3 B8 (upTo e k ⟨0, cr⟩)) ∧ Aside (StBox wr3 B10 ⟨0, cr⟩))
                  case atStart => exact ⟨0, Nat.zero_le _, by omega, rfl, (show Aside _ from ⟨HB.out, HB1'.out.1, HB1'.out.2.1⟩), HBB.out, HBA.out⟩
                  case round =>
                    obtain ⟨k, hk, hgk, rfl, hB3, hb8, hb10⟩ := hrel
                    by_cases hlk : k < e.length
                    · have hlki : (k : Int) < (e.length : Int) := by omega
                      have hkk0 : (0 : Int) ≤ (k : Int) := by omega
                      have hwk : IntKind.i64.wrap ((k : Int) + 1) = (k : Int) + 1 := wrapNat (k + 1) (by have := HL.out.2; omega)
                      obtain ⟨be, oe, hea, hbel, hecells⟩ : ∃ be oe, ea = some ⟨be, oe, none⟩ ∧ be < w.heap.size ∧ ∀ j, j < e.length → ∀ i u, (Ent.cells e[j]!)[i]? = some u → wr.cell? ⟨be, oe + j * 5 + i, none⟩ = some u := by
                        rcases HE.out w (Below.refl _ _) with ⟨_, _, _, h0⟩ | ⟨be, oe, c', h0, _, _, h3, h4⟩
                        · rw [h0] at hlk; exact absurd hlk (Nat.not_lt_zero _)
                        · simp at h0; exact ⟨be, oe, h0.1, h3, fun j hj i u hu => (hB3.out.1.cell (p := ⟨be, _, none⟩) h3).trans (h4 j hj i u hu)⟩
                      subst hea
                      obtain ⟨y0, y1, y2, y3, y4⟩ := cellsEnt hecells k hlk
                      have hup := Lib.hid (upTo_succ hlk ⟨0, cr⟩)
                      clear hecells
                      generalize e[k]! = x at *
                      have p0 := cell_at hb10.out 0 _ rfl
                      have p1 := cell_at hb10.out 1 _ rfl
                      have u0 := cell_at hb8.out 0 _ rfl
                      have u1 := cell_at hb8.out 1 _ rfl
                      have f0 := frozen_at hb8.out 0
                      have f1 := frozen_at hb8.out 1
                      have HBE := Lib.hid hbel
                      clear hbel
                      by_cases hxe : x.ino = ⟨0, cr⟩
                      · have e3 : x.ino.t = 0 := by rw [hxe]
                        have e4 : x.ino.r = cr := by rw [hxe]
                        rw [e3] at y3
                        rw [e4] at y4
                        have HXE := Lib.hid hxe
                        clear e3 e4 hxe
                        go_wp2
                        go_region
                        go_wp2
                        go_roundg (e.length - (k + 1))
                        case measure => omega
                        case rel =>
                          have h88 := HA3.out
                          have h10 : B10 ≠ B8 := by have := HB1'.out.2.2.1; omega
                          refine ⟨k + 1, by omega, by omega, by first | rfl | go_num, (show Aside _ from ⟨((hB3.out.1.setCell (p := ⟨B8, 0, none⟩) h88 _).setCell (p := ⟨B8, 1, none⟩) h88 _).drew, by have := hB3.out.2.1; simpa using this, by have := hB3.out.2.2; simpa using this⟩), (show Aside _ from ?_), (show Aside _ from ?_)⟩
                          · rw [hup.out, if_pos HXE.out]
                            exact heap_setCell_at (heap_setCell_at hb8.out 0 _) 1 _
                          · exact (Below.heap_setCell _ _ _ B10 h10).trans ((Below.heap_setCell _ _ _ B10 h10).trans hb10.out)
                      · have HXE := Lib.hid hxe
                        by_cases h3 : x.ino.t = 0
                        · have h4 : (x.ino.r == cr) = false := beq_eq_false_iff_ne.2 (fun h => HXE.out (by rw [← h3, ← h]))
                          rw [h3] at y3
                          clear h3 hxe
                          go_wp2
                          go_region
                          go_wp2
                          go_roundg (e.length - (k + 1))
                          case measure => omega
                          case rel => exact ⟨k + 1, by omega, by omega, by first | rfl | go_num, (show Aside _ from ⟨hB3.out.1.drew, hB3.out.2.1, hB3.out.2.2⟩), (show Aside _ from (by rw [hup.out, if_neg HXE.out]; exact hb8.out : StBox wr.drew B8 (upTo e (k + 1) ⟨0, cr⟩))), hb10.out⟩
                        · have h4 : (x.ino.t == 0) = false := beq_eq_false_iff_ne.2 h3
                          clear h3 hxe
                          go_wp2
                          go_region
                          go_wp2
                          go_roundg (e.length - (k + 1))
                          case measure => omega
                          case rel => exact ⟨k + 1, by omega, by omega, by first | rfl | go_num, (show Aside _ from ⟨hB3.out.1.drew, hB3.out.2.1, hB3.out.2.2⟩), (show Aside _ from (by rw [hup.out, if_neg HXE.out]; exact hb8.out : StBox wr.drew B8 (upTo e (k + 1) ⟨0, cr⟩))), hb10.out⟩
                    · have hlki : ¬ (k : Int) < (e.length : Int) := by omega
                      have hke : k = e.length := by omega
                      subst hke
                      go_wp2
                      go_roundg (n.length - (s + 1) + 1)
                      case measure => omega
                      case rel => exact ⟨s + 1, by omega, by omega, by first | rfl | go_num, (show Aside _ from ⟨hB3.out.1, hB3.out.2.1⟩), (show Aside _ from (by rw [iterUp_last, HCUR.out, ← upTo_all]; exact hb8.out : StBox wr B8 (iterUp e (s + 1) X.id))), (show Aside _ from fun _ => HSM.out), (show Aside _ from fun h => absurd HK1.out h)⟩
                · have hr : (ct == 0) = false := beq_eq_false_iff_ne.2 ht
                  clear hcr ht
                  go_wp2
                  have hA := hB2.out.1.alloc hB2.out.1.size (.cells #[.int .i64 ct, .int .i64 cr] 29)
                  have hA1 : B8 < (wr.alloc (.cells #[.int .i64 ct, .int .i64 cr] 29)).heap.size ∧ wr.heap.size < (wr.alloc (.cells #[.int .i64 ct, .int .i64 cr] 29)).heap.size ∧ B8 < wr.heap.size ∧ w.heap.size ≤ wr.heap.size := ⟨by have := hB2.out.2; simp only [World.size_alloc]; omega, by simp, hB2.out.2, hB2.out.1.size⟩
                  have hA2 : StBox (wr.alloc (.cells #[.int .i64 ct, .int .i64 cr] 29)) wr.heap.size ⟨ct, cr⟩ := World.alloc_heap_new wr _
                  have hA3 : StBox (wr.alloc (.cells #[.int .i64 ct, .int .i64 cr] 29)) B8 ⟨ct, cr⟩ := (Below.heap_alloc wr _ B8 hB2.out.2).trans hbox.out
                  obtain ⟨W10, hW10⟩ : ∃ W10, W10 = wr.alloc (.cells #[.int .i64 ct, .int .i64 cr] 29) := ⟨_, rfl⟩
                  rw [← hW10] at hA hA1 hA2 hA3 ⊢
                  clear hW10
                  obtain ⟨B10, hB10⟩ : ∃ B10, B10 = wr.heap.size := ⟨_, rfl⟩
                  rw [← hB10] at hA1 hA2 ⊢
                  clear hB10
                  have HB := Lib.hid hA
                  have HB1' := Lib.hid hA1
                  have HBA := Lib.hid hA2
                  have HBB := Lib.hid hA3
                  clear hA hA1 hA2 hA3 q0 q1 hbox hB2 hkind
                  go_loopg [11] e.length (fun gg s11 wr3 => ∃ k : Nat, k ≤ e.length ∧ e.length - k ≤ gg ∧ s11 = .int .i64 k ∧ Aside (Below w.heap.size w wr3 ∧ B8 < wr3.heap.size ∧ B10 < wr3.heap.size) ∧ Aside (StBox wr3 B8 (upTo e k ⟨ct, cr⟩)) ∧ Aside (StBox wr3 B10 ⟨ct, cr⟩))
                  case atStart => exact ⟨0, Nat.zero_le _, by omega, rfl, (show Aside _ from ⟨HB.out, HB1'.out.1, HB1'.out.2.1⟩), HBB.out, HBA.out⟩
                  case round =>
                    obtain ⟨k, hk, hgk, rfl, hB3, hb8, hb10⟩ := hrel
                    by_cases hlk : k < e.length
                    · have hlki : (k : Int) < (e.length : Int) := by omega
                      have hkk0 : (0 : Int) ≤ (k : Int) := by omega
                      have hwk : IntKind.i64.wrap ((k : Int) + 1) = (k : Int) + 1 := wrapNat (k + 1) (by have := HL.out.2; omega)
                      obtain ⟨be, oe, hea, hbel, hecells⟩ : ∃ be oe, ea = some ⟨be, oe, none⟩ ∧ be < w.heap.size ∧ ∀ j, j < e.length → ∀ i u, (Ent.cells e[j]!)[i]? = some u → wr.cell? ⟨be, oe + j * 5 + i, none⟩ = some u := by
                        rcases HE.out w (Below.refl _ _) with ⟨_, _, _, h0⟩ | ⟨be, oe, c', h0, _, _, h3, h4⟩
                        · rw [h0] at hlk; exact absurd hlk (Nat.not_lt_zero _)
                        · simp at h0; exact ⟨be, oe, h0.1, h3, fun j hj i u hu => (hB3.out.1.cell (p := ⟨be, _, none⟩) h3).trans (h4 j hj i u hu)⟩
                      subst hea
                      obtain ⟨y0, y1, y2, y3, y4⟩ := cellsEnt hecells k hlk
                      have hup := Lib.hid (upTo_succ hlk ⟨ct, cr⟩)
                      clear hecells
                      generalize e[k]! = x at *
                      have p0 := cell_at hb10.out 0 _ rfl
                      have p1 := cell_at hb10.out 1 _ rfl
                      have u0 := cell_at hb8.out 0 _ rfl
                      have u1 := cell_at hb8.out 1 _ rfl
                      have f0 := frozen_at hb8.out 0
                      have f1 := frozen_at hb8.out 1
                      have HBE := Lib.hid hbel
                      clear hbel
                      by_cases hxe : x.ino = ⟨ct, cr⟩
                      · have e3 : x.ino.t = ct := by rw [hxe]
                        have e4 : x.ino.r = cr := by rw [hxe]
                        rw [e3] at y3
                        rw [e4] at y4
                        have HXE := Lib.hid hxe
                        clear e3 e4 hxe
                        go_wp2
                        go_region
                        go_wp2
                        go_roundg (e.length - (k + 1))
                        case measure => omega
                        case rel =>
                          have h88 := HA3.out
                          have h10 : B10 ≠ B8 := by have := HB1'.out.2.2.1; omega
                          refine ⟨k + 1, by omega, by omega, by first | rfl | go_num, (show Aside _ from ⟨((hB3.out.1.setCell (p := ⟨B8, 0, none⟩) h88 _).setCell (p := ⟨B8, 1, none⟩) h88 _).drew, by have := hB3.out.2.1; simpa using this, by have := hB3.out.2.2; simpa using this⟩), (show Aside _ from ?_), (show Aside _ from ?_)⟩
                          · rw [hup.out, if_pos HXE.out]
                            exact heap_setCell_at (heap_setCell_at hb8.out 0 _) 1 _
                          · exact (Below.heap_setCell _ _ _ B10 h10).trans ((Below.heap_setCell _ _ _ B10 h10).trans hb10.out)
                      · have HXE := Lib.hid hxe
                        by_cases h3 : x.ino.t = ct
                        · have h4 : (x.ino.r == cr) = false := beq_eq_false_iff_ne.2 (fun h => HXE.out (by rw [← h3, ← h]))
                          rw [h3] at y3
                          clear h3 hxe
                          go_wp2
                          go_region
                          go_wp2
                          go_roundg (e.length - (k + 1))
                          case measure => omega
                          case rel => exact ⟨k + 1, by omega, by omega, by first | rfl | go_num, (show Aside _ from ⟨hB3.out.1.drew, hB3.out.2.1, hB3.out.2.2⟩), (show Aside _ from (by rw [hup.out, if_neg HXE.out]; exact hb8.out : StBox wr.drew B8 (upTo e (k + 1) ⟨ct, cr⟩))), hb10.out⟩
                        · have h4 : (x.ino.t == ct) = false := beq_eq_false_iff_ne.2 h3
                          clear h3 hxe
                          go_wp2
                          go_region
                          go_wp2
                          go_roundg (e.length - (k + 1))
                          case measure => omega
                          case rel => exact ⟨k + 1, by omega, by omega, by first | rfl | go_num, (show Aside _ from ⟨hB3.out.1.drew, hB3.out.2.1, hB3.out.2.2⟩), (show Aside _ from (by rw [hup.out, if_neg HXE.out]; exact hb8.out : StBox wr.drew B8 (upTo e (k + 1) ⟨ct, cr⟩))), hb10.out⟩
                    · have hlki : ¬ (k : Int) < (e.length : Int) := by omega
                      have hke : k = e.length := by omega
                      subst hke
                      go_wp2
                      go_roundg (n.length - (s + 1) + 1)
                      case measure => omega
                      case rel => exact ⟨s + 1, by omega, by omega, by first | rfl | go_num, (show Aside _ from ⟨hB3.out.1, hB3.out.2.1⟩), (show Aside _ from (by rw [iterUp_last, HCUR.out, ← upTo_all]; exact hb8.out : StBox wr B8 (iterUp e (s + 1) X.id))), (show Aside _ from fun _ => HSM.out), (show Aside _ from fun h => absurd HK1.out h)⟩
            · have hs00 := hs0.out hk1
              have hkk : (X.kind == 1) = false := beq_eq_false_iff_ne.2 hk1
              have hsn : (s : Int) < (n.length : Int) := by omega
              clear hs00 hk1
              go_wp2
              go_roundg (n.length - (i + 1))
              case measure => omega
              case rel => exact ⟨i + 1, by omega, by omega, by first | rfl | go_num, rfl, hB2.out.1⟩
        · have hie : i = n.length := by omega
          subst hie
          have hlti : ¬ (n.length : Int) < (n.length : Int) := by omega
          have hsum := linksSum_all HF.out
          have heq : ((linksSum n e n.length : Nat) : Int) = (e.length : Int) := by rw [hsum]
          have HEQ := Lib.hid heq
          rw [heq]
          clear hsum heq
          go_wp2_with (go_at_call 15; refine (HRL.out _ hB.out).mono ?_; rintro x w4 ⟨v, zs, rfl, hs, hm, hnd, _, _, hb⟩; obtain ⟨za, zc, rfl⟩ := hs.len; have hzl := HF.out.reach_len hnd hm; rw [hzl]; have HB4 := Lib.hid (hB.out.trans (hb.mono hB.out.size)); clear hs hm hnd hb hzl)
          go_ret
          exact ⟨rfl, HB4.out⟩

theorem auditTree_walk (v0 : Value) (z0 : List Ino) (v1 : Value) (z1 : List Ent) (W : World) (s0 : SlAt W 6 Ino.cells v0 z0) (_q0 : ∀ z ∈ z0, z.data.size ≤ maxLen) (s1 : SlAt W 5 Ent.cells v1 z1) (q1 : ∀ z ∈ z1, z.name.size ≤ maxLen) :
    Calls Try.prog 4 #[v0, v1] W fun x w' => x = .returned (.bool true) ∧ Below W.heap.size W w' := tree_walk v0 v1 z0 z1 W s0 s1 q1
end Go.Proofs.Ytmnkaohhjhjciaa
