/-
  thimblelaw14.OplogTwice: what is there isn't added again; no condition but the texts' reach.
-/
import Derived.Test.YtlokljaeknmdpaaGreatKZ46
import Derived.Test.YtlokljaeknmdpaaGreatKZ47
import Derived.Test.YtlokljaeknmdpaaGreatKZ48
/-! ## LTwice -/
namespace Go.Proofs.YtlokljaeknmdpaaGreat.L14
open Go.RowKit Go.Shelf Go.Proofs

set_option linter.unusedVariables false

theorem from_len (l : List Op) : (Lg.from Gr.new ⟨0, 0⟩ l).ops.length ≤ l.length := by rw [from_new]; exact sort_len l
theorem add_same {N : Lg} {o : Op} (h : N.addB o = false) : N.add o = N := by unfold Lg.add; rw [h]; rfl
theorem compact_len (L : Lg) (s : St) : (L.compact s).ops.length ≤ L.ops.length := by
  unfold Lg.compact
  split
  · show (L.ops.drop _).length ≤ _
    rw [List.length_drop]; omega
  · exact Nat.le_refl _
theorem but_below {a b c C : Nat} {w0 w w' : World} (hb : But3 a b c w w') (hw : Below C w0 w) (h1 : C ≤ w.heap.size) (h2 : C ≤ a) (h3 : C ≤ b) (h4 : C ≤ c) : Below C w0 w' := hw.trans (hb.below h1 h2 h3 h4)
theorem two_boxes {w W0 : World} {s : St} {o : Op} (h : W0 = (w.alloc (.cells #[.int .i64 s.t, .int .i64 s.r] 31)).alloc (.cells #[.int .i64 o.stamp.t, .int .i64 o.stamp.r, .int .i64 o.kind, .int .i64 o.at_.t, .int .i64 o.at_.r, .int .i64 o.ino.t, .int .i64 o.ino.r, .int .i64 o.to.t, .int .i64 o.to.r, .string o.name, .string o.new, .int .i64 o.off, .string o.data] 47)) : Below w.heap.size w W0 ∧ ∀ W, Below W0.heap.size W0 W → (W.cell? ⟨w.heap.size, 0, none⟩ = some (.int .i64 s.t) ∧ W.cell? ⟨w.heap.size, 1, none⟩ = some (.int .i64 s.r) ∧ w.heap.size < W.heap.size) ∧ (W.cell? ⟨w.heap.size + 1, 0, none⟩ = some (.int .i64 o.stamp.t) ∧ W.cell? ⟨w.heap.size + 1, 1, none⟩ = some (.int .i64 o.stamp.r) ∧ W.cell? ⟨w.heap.size + 1, 2, none⟩ = some (.int .i64 o.kind) ∧ W.cell? ⟨w.heap.size + 1, 3, none⟩ = some (.int .i64 o.at_.t) ∧ W.cell? ⟨w.heap.size + 1, 4, none⟩ = some (.int .i64 o.at_.r) ∧ W.cell? ⟨w.heap.size + 1, 5, none⟩ = some (.int .i64 o.ino.t) ∧ W.cell? ⟨w.heap.size + 1, 6, none⟩ = some (.int .i64 o.ino.r) ∧ W.cell? ⟨w.heap.size + 1, 7, none⟩ = some (.int .i64 o.to.t) ∧ W.cell? ⟨w.heap.size + 1, 8, none⟩ = some (.int .i64 o.to.r) ∧ W.cell? ⟨w.heap.size + 1, 9, none⟩ = some (.string o.name) ∧ W.cell? ⟨w.heap.size + 1, 10, none⟩ = some (.string o.new) ∧ W.cell? ⟨w.heap.size + 1, 11, none⟩ = some (.int .i64 o.off) ∧ W.cell? ⟨w.heap.size + 1, 12, none⟩ = some (.string o.data) ∧ w.heap.size + 1 < W.heap.size) := by
  subst h
  have hz : ((w.alloc (.cells #[.int .i64 s.t, .int .i64 s.r] 31)).alloc (.cells #[.int .i64 o.stamp.t, .int .i64 o.stamp.r, .int .i64 o.kind, .int .i64 o.at_.t, .int .i64 o.at_.r, .int .i64 o.ino.t, .int .i64 o.ino.r, .int .i64 o.to.t, .int .i64 o.to.r, .string o.name, .string o.new, .int .i64 o.off, .string o.data] 47)).heap.size = w.heap.size + 2 := by simp only [World.size_alloc]
  refine ⟨((Below.refl _ _).alloc (Nat.le_refl _) _).alloc (by simp) _, fun W hW => ?_⟩
  have h1 : W.heap[w.heap.size]? = some (.cells #[.int .i64 s.t, .int .i64 s.r] 31) := (hW.block _ (by omega)).trans ((Below.heap_alloc _ _ _ (by simp)).trans (World.alloc_heap_new w _))
  have h2 : W.heap[w.heap.size + 1]? = some (.cells #[.int .i64 o.stamp.t, .int .i64 o.stamp.r, .int .i64 o.kind, .int .i64 o.at_.t, .int .i64 o.at_.r, .int .i64 o.ino.t, .int .i64 o.ino.r, .int .i64 o.to.t, .int .i64 o.to.r, .string o.name, .string o.new, .int .i64 o.off, .string o.data] 47) := (hW.block _ (by omega)).trans (by have h := World.alloc_heap_new (w.alloc (.cells #[.int .i64 s.t, .int .i64 s.r] 31)) (.cells #[.int .i64 o.stamp.t, .int .i64 o.stamp.r, .int .i64 o.kind, .int .i64 o.at_.t, .int .i64 o.at_.r, .int .i64 o.ino.t, .int .i64 o.ino.r, .int .i64 o.to.t, .int .i64 o.to.r, .string o.name, .string o.new, .int .i64 o.off, .string o.data] 47); rw [World.size_alloc] at h; exact h)
  exact ⟨⟨cell_at h1 0 _ rfl, cell_at h1 1 _ rfl, (Array.getElem?_eq_some_iff.1 h1).1⟩, op_cells h2⟩

set_option maxRecDepth 100000 in
set_option maxHeartbeats 8000000 in
theorem twice_60 (v : Value) (l : List Op) (s : St) (o : Op) (w : World) (hs : SlAt w 13 Op.cells v l) (hn : ∀ x ∈ l, x.Small) (h_o : o.Small) (hl60 : l.length ≤ 60) :
    Calls Tryz.prog 14 #[v, s.v, o.v] w fun y w' => y = .returned (.bool true) ∧ Below w.heap.size w w' := by
  obtain ⟨W0, hW0⟩ : ∃ W0, W0 = (w.alloc (.cells #[.int .i64 s.t, .int .i64 s.r] 31)).alloc (.cells #[.int .i64 o.stamp.t, .int .i64 o.stamp.r, .int .i64 o.kind, .int .i64 o.at_.t, .int .i64 o.at_.r, .int .i64 o.ino.t, .int .i64 o.ino.r, .int .i64 o.to.t, .int .i64 o.to.r, .string o.name, .string o.new, .int .i64 o.off, .string o.data] 47) := ⟨_, rfl⟩
  have HBW : Hid (Below w.heap.size w W0) := Lib.hid (two_boxes hW0).1
  have HCE := Lib.hid (two_boxes hW0).2
  have HX0 : Hid (Below W0.heap.size W0 W0) := Lib.hid (Below.refl _ _)
  have HSL : Hid (∀ W, Below W0.heap.size W0 W → SlAt W 13 Op.cells v l) := Lib.hid fun W hW => (hs.below HBW.out).below hW
  have HNM := Lib.hid hn
  have HSO := Lib.hid h_o
  have HL6 := Lib.hid hl60
  obtain ⟨va, vc, rfl⟩ := hs.len
  clear hs hn h_o hl60
  unfold St.v Op.v
  go_enter Tryz.func14, Tryz.ntmps14
  go_wp2_with fail
  rw [← hW0]
  clear hW0
  go_wp2_with fail
  refine (shown_any W0).mono ?_
  rintro e x1 ⟨rfl, hb⟩
  have HX1 : Hid (Below W0.heap.size W0 x1) := Lib.hid (HX0.out.trans (hb.mono HX0.out.size))
  clear hb
  have hl6i : ¬ (60 : Int) < (l.length : Int) := by have := HL6.out; omega
  go_wp2_with fail
  refine (new_g x1).mono ?_
  rintro e x2 ⟨u, rfl, ⟨g1, i1, e1, rfl, hg, _, _, _⟩, hb⟩
  have HX2 : Hid (Below W0.heap.size W0 x2) := Lib.hid (HX1.out.trans (hb.mono HX1.out.size))
  have HG2 := Lib.hid hg
  clear hg hb
  go_wp2_with fail
  refine (from_any g1 i1 e1 Gr.new ⟨0, 0⟩ _ l x2 HG2.out Gr.Ok.new Gr.Thin.new rfl (HSL.out _ HX2.out) HNM.out (by have := HL6.out; omega)).mono ?_
  rintro e x3 ⟨la, ga, aI, aE, rfl, hL, hb⟩
  have HX3 : Hid (Below W0.heap.size W0 x3) := Lib.hid (HX2.out.trans (hb.mono HX2.out.size))
  have HA3 := Lib.hid (hL.mono HX2.out.size)
  have HG := Lib.hid HA3.out.ge
  clear hL hb
  obtain ⟨⟨_, _, _⟩, _, _, _, _, _, _, _, _, _, _, _, _, _, _⟩ := HCE.out _ HX3.out
  have HTW := Lib.hid (fun x (hx : x ∈ l) => twice_law l s hx)
  have HM60 : Hid (((Lg.from Gr.new ⟨0, 0⟩ l).compact s).ops.length ≤ 60) := Lib.hid (by have := compact_len (Lg.from Gr.new ⟨0, 0⟩ l) s; have := from_len l; have := HL6.out; omega)
  go_wp2_with fail
  refine (compact_any _ la ga aI aE _ s x3 HA3.out).mono ?_
  rintro e x4 ⟨rfl, hA, hb⟩
  have HX4 : Hid (Below W0.heap.size W0 x4) := Lib.hid (but_below hb HX3.out HX3.out.size HG.out.1 HG.out.2.2.1 HG.out.2.2.2)
  have HA4 := Lib.hid hA
  clear hA hb
  generalize (Lg.from Gr.new ⟨0, 0⟩ l).compact s = M at *
  go_wp2_with fail
  refine (ops_l _ la ga aI aE M x4 HA4.out).mono ?_
  rintro e x5 ⟨u, rfl, hr, hb⟩
  have HX5 : Hid (Below W0.heap.size W0 x5) := Lib.hid (HX4.out.trans (hb.mono HX4.out.size))
  obtain ⟨p5, q5, rfl⟩ := hr.shape
  have HA5 := Lib.hid (HA4.out.below hb)
  clear hr hb
  go_wp2
  go_loopg [10] l.length (fun gg s10 wr => ∃ i : Nat, s10 = .int .i64 i ∧ i ≤ l.length ∧ l.length - i ≤ gg ∧ Aside (LogAt W0.heap.size wr la ga aI aE M) ∧ Aside (Below W0.heap.size W0 wr))
  case atStart => exact ⟨0, rfl, Nat.zero_le _, by omega, (show Aside _ from HA5.out), (show Aside _ from HX5.out)⟩
  case round =>
    obtain ⟨i, rfl, hil, hgg, hL, hB⟩ := hrel
    have hi0 : (0 : Int) ≤ (i : Int) := by omega
    have hwi : IntKind.i64.wrap ((i : Int) + 1) = (i : Int) + 1 := wrapNat (i + 1) (by have := HL6.out; omega)
    by_cases hlt : i < l.length
    · have hlti : (i : Int) < (l.length : Int) := by omega
      obtain ⟨xb, xo, rfl, hxl, hxc⟩ := slAt_at (HSL.out wr hB.out) hlt
      obtain ⟨y0, y1, y2, y3, y4, y5, y6, y7, y8, y9, y10, y11, y12⟩ := cellsOpF hxc i hlt
      have hdo := add_any W0.heap.size la ga aI aE M l[i]! wr hL.out (HNM.out _ (getElem!_mem hlt)) (by have := HM60.out; omega)
      have hno := HTW.out _ (getElem!_mem hlt)
      have hsame : M.add l[i]! = M := by unfold Lg.add; rw [hno]; rfl
      rw [hno, hsame] at hdo
      unfold Op.v at hdo
      clear hxc hno hsame
      generalize l[i]! = x at y0 y1 y2 y3 y4 y5 y6 y7 y8 y9 y10 y11 y12 hdo
      have HDO := Lib.hid hdo
      clear hdo
      go_wp2_with (go_at_call 54; refine HDO.out.mono ?_; rintro e w5 ⟨rfl, hL5, hb5⟩; have HL5 := Lib.hid hL5; have HB5 := Lib.hid hb5; clear hL5 hb5)
      go_roundg (l.length - (i + 1))
      case measure => omega
      case rel => exact ⟨i + 1, by first | rfl | go_num, by omega, by omega, (show Aside _ from HL5.out), (show Aside _ from but_below HB5.out hB.out hB.out.size HG.out.1 HG.out.2.2.1 HG.out.2.2.2)⟩
    · have hlti : ¬ (i : Int) < (l.length : Int) := by omega
      have HX20 : Hid (Below W0.heap.size W0 wr) := Lib.hid hB.out
      have HA20 := Lib.hid hL.out
      clear hlt hL hB
      go_wp2_with fail
      refine (copy_l _ la ga aI aE M wr HA20.out).mono ?_
      rintro e x21 ⟨lc, gc, cI, cE, rfl, hC, hb⟩
      have HX21 : Hid (Below W0.heap.size W0 x21) := Lib.hid (HX20.out.trans (hb.mono HX20.out.size))
      have HC21 := Lib.hid hC
      have HA21 := Lib.hid (HA20.out.below hb)
      have HGC : Hid (la < wr.heap.size ∧ aI < wr.heap.size ∧ aE < wr.heap.size) := Lib.hid (by have := HA20.out.lt; omega)
      clear hC hb
      go_wp2_with fail
      refine (ops_l _ lc gc cI cE M x21 HC21.out.at).mono ?_
      rintro e x22 ⟨u, rfl, hr, hb⟩
      have HX22 : Hid (Below W0.heap.size W0 x22) := Lib.hid (HX21.out.trans (hb.mono HX21.out.size))
      obtain ⟨p7, q7, rfl⟩ := hr.shape
      have HA22 := Lib.hid (HA21.out.below hb)
      have HC22 := Lib.hid (HC21.out.below hb)
      clear hr hb
      obtain ⟨⟨_, _, _⟩, _, _, _, _, _, _, _, _, _, _, _, _, _, _⟩ := HCE.out _ HX22.out
      go_wp2_with fail
      refine (add_any _ la ga aI aE M o x22 HA22.out HSO.out (by have := HM60.out; omega)).mono ?_
      rintro e x23 ⟨rfl, hA, hb⟩
      have HX23 : Hid (Below W0.heap.size W0 x23) := Lib.hid (but_below hb HX22.out HX22.out.size HG.out.1 HG.out.2.2.1 HG.out.2.2.2)
      have HA23 := Lib.hid hA
      have HC23 := Lib.hid (HC22.out.but hb HA22.out.blocks HGC.out.1 HGC.out.2.1 HGC.out.2.2)
      clear hA hb
      have hml := add_len M o
      have hag := add_again M o
      have hha := has_added M o
      have hkk : (M.ops.length : Int) ≤ (M.ops.length : Int) := Int.le_refl _
      cases hadd : M.addB o with
      | false =>
        have hsame : M.add o = M := by unfold Lg.add; rw [hadd]; rfl
        rw [hsame] at HA23
        have HAG : Hid (M.addB o = false ∧ M.add o = M) := Lib.hid ⟨hadd, hsame⟩
        have HLN : Hid (M.ops.length < 500) := Lib.hid (by have := HM60.out; omega)
        clear hml hag hha hadd hsame
        have hw0 : IntKind.i64.wrap (M.ops.length : Int) = (M.ops.length : Int) := wrapNat M.ops.length (by have := HM60.out; omega)
        go_wp2_with fail
        refine (ops_l _ lc gc cI cE M x23 HC23.out.at).mono ?_
        rintro e x24 ⟨u, rfl, hr, hb⟩
        have HX24 : Hid (Below W0.heap.size W0 x24) := Lib.hid (HX23.out.trans (hb.mono HX23.out.size))
        obtain ⟨p9, q9, rfl⟩ := hr.shape
        have HA24 := Lib.hid (HA23.out.below hb)
        have HC24 := Lib.hid (HC23.out.below hb)
        clear hr hb
        go_wp2_with fail
        refine (ops_l _ la ga aI aE M x24 HA24.out).mono ?_
        rintro e x25 ⟨u, rfl, hr, hb⟩
        have HX25 : Hid (Below W0.heap.size W0 x25) := Lib.hid (HX24.out.trans (hb.mono HX24.out.size))
        obtain ⟨p10, q10, rfl⟩ := hr.shape
        have HA25 := Lib.hid (HA24.out.below hb)
        have HC25 := Lib.hid (HC24.out.below hb)
        clear hr hb
        obtain ⟨⟨_, _, _⟩, _, _, _, _, _, _, _, _, _, _, _, _, _, _⟩ := HCE.out _ HX25.out
        go_wp2_with fail
        refine (add_any _ la ga aI aE M o x25 HA25.out HSO.out HLN.out).mono ?_
        rintro e x26 ⟨rfl, hA, hb⟩
        have HX26 : Hid (Below W0.heap.size W0 x26) := Lib.hid (but_below hb HX25.out HX25.out.size HG.out.1 HG.out.2.2.1 HG.out.2.2.2)
        have HC26 := Lib.hid (HC25.out.but hb HA25.out.blocks HGC.out.1 HGC.out.2.1 HGC.out.2.2)
        rw [HAG.out.1]
        rw [HAG.out.2] at hA
        have HA26 := Lib.hid hA
        clear hA hb
        obtain ⟨⟨_, _, _⟩, _, _, _, _, _, _, _, _, _, _, _, _, _, _⟩ := HCE.out _ HX26.out
        go_wp2_with fail
        refine (has_l _ la ga aI aE M o.stamp x26 HA26.out).mono ?_
        rintro e x27 ⟨rfl, hb⟩
        have HX27 : Hid (Below W0.heap.size W0 x27) := Lib.hid (HX26.out.trans (hb.mono HX26.out.size))
        have HC27 := Lib.hid (HC26.out.below hb)
        clear hb
        obtain ⟨⟨_, _, _⟩, _, _, _, _, _, _, _, _, _, _, _, _, _, _⟩ := HCE.out _ HX27.out
        go_wp2_with fail
        refine (has_l _ lc gc cI cE M o.stamp x27 HC27.out.at).mono ?_
        rintro e x28 ⟨rfl, hb⟩
        have HX28 : Hid (Below W0.heap.size W0 x28) := Lib.hid (HX27.out.trans (hb.mono HX27.out.size))
        clear hb
        obtain ⟨hbv, hbe⟩ : ∃ b, M.hasB o.stamp = b := ⟨_, rfl⟩
        rw [hbe]
        have hbq : (hbv == hbv) = true := beq_self_eq_true _
        clear hbe
        obtain ⟨⟨_, _, _⟩, _, _, _, _, _, _, _, _, _, _, _, _, _, _⟩ := HCE.out _ HX28.out
        go_wp2_with fail
        refine (add_nil o x28).mono ?_
        rintro e x29 ⟨rfl, hb⟩
        have HX29 : Hid (Below W0.heap.size W0 x29) := Lib.hid (HX28.out.trans (hb.mono HX28.out.size))
        clear hb
        obtain ⟨⟨_, _, _⟩, _, _, _, _, _, _, _, _, _, _, _, _, _, _⟩ := HCE.out _ HX29.out
        go_wp2_with fail
        refine (compact_nil s x29).mono ?_
        rintro e x30 ⟨rfl, hb⟩
        have HX30 : Hid (Below W0.heap.size W0 x30) := Lib.hid (HX29.out.trans (hb.mono HX29.out.size))
        clear hb
        go_wp2_with fail
        refine (graph_nil_l x30).mono ?_
        rintro e x31 ⟨rfl, hb⟩
        have HX31 : Hid (Below W0.heap.size W0 x31) := Lib.hid (HX30.out.trans (hb.mono HX30.out.size))
        clear hb
        obtain ⟨⟨_, _, _⟩, _, _, _, _, _, _, _, _, _, _, _, _, _, _⟩ := HCE.out _ HX31.out
        go_wp2_with fail
        refine (has_nil s x31).mono ?_
        rintro e x32 ⟨rfl, hb⟩
        have HX32 : Hid (Below W0.heap.size W0 x32) := Lib.hid (HX31.out.trans (hb.mono HX31.out.size))
        clear hb
        obtain ⟨⟨_, _, _⟩, _, _, _, _, _, _, _, _, _, _, _, _, _, _⟩ := HCE.out _ HX32.out
        go_wp2_with fail
        refine (from_nil s _ x32).mono ?_
        rintro e x33 ⟨rfl, hb⟩
        have HX33 : Hid (Below W0.heap.size W0 x33) := Lib.hid (HX32.out.trans (hb.mono HX32.out.size))
        clear hb
        go_wp2
        go_ret
        exact ⟨rfl, HBW.out.trans (HX33.out.mono HBW.out.size)⟩
      | true =>
        rw [hadd, if_pos rfl] at hml
        rw [hadd, Bool.true_or] at hha
        have HHB := Lib.hid hha
        have HAG : Hid ((M.add o).addB o = false ∧ (M.add o).add o = M.add o) := Lib.hid ⟨hag, add_same hag⟩
        have HLN : Hid ((M.add o).ops.length < 500) := Lib.hid (by have := HM60.out; omega)
        clear hag hha hadd
        have hww : IntKind.i64.wrap ((M.ops.length : Int) + 1) = (M.ops.length : Int) + 1 := wrapNat (M.ops.length + 1) (by have := HM60.out; omega)
        go_wp2_with fail
        refine (ops_l _ lc gc cI cE M x23 HC23.out.at).mono ?_
        rintro e x24 ⟨u, rfl, hr, hb⟩
        have HX24 : Hid (Below W0.heap.size W0 x24) := Lib.hid (HX23.out.trans (hb.mono HX23.out.size))
        obtain ⟨p9, q9, rfl⟩ := hr.shape
        have HA24 := Lib.hid (HA23.out.below hb)
        have HC24 := Lib.hid (HC23.out.below hb)
        clear hr hb
        go_wp2_with fail
        refine (ops_l _ la ga aI aE (M.add o) x24 HA24.out).mono ?_
        rintro e x25 ⟨u, rfl, hr, hb⟩
        have HX25 : Hid (Below W0.heap.size W0 x25) := Lib.hid (HX24.out.trans (hb.mono HX24.out.size))
        obtain ⟨p10, q10, rfl⟩ := hr.shape
        have HA25 := Lib.hid (HA24.out.below hb)
        have HC25 := Lib.hid (HC24.out.below hb)
        clear hr hb
        obtain ⟨⟨_, _, _⟩, _, _, _, _, _, _, _, _, _, _, _, _, _, _⟩ := HCE.out _ HX25.out
        rw [hml]
        go_wp2_with fail
        refine (add_any _ la ga aI aE (M.add o) o x25 HA25.out HSO.out HLN.out).mono ?_
        rintro e x26 ⟨rfl, hA, hb⟩
        have HX26 : Hid (Below W0.heap.size W0 x26) := Lib.hid (but_below hb HX25.out HX25.out.size HG.out.1 HG.out.2.2.1 HG.out.2.2.2)
        have HC26 := Lib.hid (HC25.out.but hb HA25.out.blocks HGC.out.1 HGC.out.2.1 HGC.out.2.2)
        rw [HAG.out.1]
        rw [HAG.out.2] at hA
        have HA26 := Lib.hid hA
        clear hA hb
        obtain ⟨⟨_, _, _⟩, _, _, _, _, _, _, _, _, _, _, _, _, _, _⟩ := HCE.out _ HX26.out
        go_wp2_with fail
        refine (has_l _ la ga aI aE (M.add o) o.stamp x26 HA26.out).mono ?_
        rintro e x27 ⟨rfl, hb⟩
        have HX27 : Hid (Below W0.heap.size W0 x27) := Lib.hid (HX26.out.trans (hb.mono HX26.out.size))
        have HC27 := Lib.hid (HC26.out.below hb)
        clear hb
        obtain ⟨⟨_, _, _⟩, _, _, _, _, _, _, _, _, _, _, _, _, _, _⟩ := HCE.out _ HX27.out
        rw [HHB.out]
        go_wp2_with fail
        refine (add_nil o x27).mono ?_
        rintro e x28 ⟨rfl, hb⟩
        have HX28 : Hid (Below W0.heap.size W0 x28) := Lib.hid (HX27.out.trans (hb.mono HX27.out.size))
        clear hb
        obtain ⟨⟨_, _, _⟩, _, _, _, _, _, _, _, _, _, _, _, _, _, _⟩ := HCE.out _ HX28.out
        go_wp2_with fail
        refine (compact_nil s x28).mono ?_
        rintro e x29 ⟨rfl, hb⟩
        have HX29 : Hid (Below W0.heap.size W0 x29) := Lib.hid (HX28.out.trans (hb.mono HX28.out.size))
        clear hb
        go_wp2_with fail
        refine (graph_nil_l x29).mono ?_
        rintro e x30 ⟨rfl, hb⟩
        have HX30 : Hid (Below W0.heap.size W0 x30) := Lib.hid (HX29.out.trans (hb.mono HX29.out.size))
        clear hb
        obtain ⟨⟨_, _, _⟩, _, _, _, _, _, _, _, _, _, _, _, _, _, _⟩ := HCE.out _ HX30.out
        go_wp2_with fail
        refine (has_nil s x30).mono ?_
        rintro e x31 ⟨rfl, hb⟩
        have HX31 : Hid (Below W0.heap.size W0 x31) := Lib.hid (HX30.out.trans (hb.mono HX30.out.size))
        clear hb
        obtain ⟨⟨_, _, _⟩, _, _, _, _, _, _, _, _, _, _, _, _, _, _⟩ := HCE.out _ HX31.out
        go_wp2_with fail
        refine (from_nil s _ x31).mono ?_
        rintro e x32 ⟨rfl, hb⟩
        have HX32 : Hid (Below W0.heap.size W0 x32) := Lib.hid (HX31.out.trans (hb.mono HX31.out.size))
        clear hb
        go_wp2
        go_ret
        exact ⟨rfl, HBW.out.trans (HX32.out.mono HBW.out.size)⟩

set_option maxRecDepth 100000 in
set_option maxHeartbeats 8000000 in
theorem twice_big (v : Value) (l : List Op) (s : St) (o : Op) (w : World) (hs : SlAt w 13 Op.cells v l) (hn : ∀ x ∈ l, x.Small) (h_o : o.Small) (hl60 : ¬ l.length ≤ 60) :
    Calls Tryz.prog 14 #[v, s.v, o.v] w fun y w' => y = .returned (.bool true) ∧ Below w.heap.size w w' := by
  obtain ⟨W0, hW0⟩ : ∃ W0, W0 = (w.alloc (.cells #[.int .i64 s.t, .int .i64 s.r] 31)).alloc (.cells #[.int .i64 o.stamp.t, .int .i64 o.stamp.r, .int .i64 o.kind, .int .i64 o.at_.t, .int .i64 o.at_.r, .int .i64 o.ino.t, .int .i64 o.ino.r, .int .i64 o.to.t, .int .i64 o.to.r, .string o.name, .string o.new, .int .i64 o.off, .string o.data] 47) := ⟨_, rfl⟩
  have HBW : Hid (Below w.heap.size w W0) := Lib.hid (two_boxes hW0).1
  have HCE := Lib.hid (two_boxes hW0).2
  have HX0 : Hid (Below W0.heap.size W0 W0) := Lib.hid (Below.refl _ _)
  have HSL : Hid (∀ W, Below W0.heap.size W0 W → SlAt W 13 Op.cells v l) := Lib.hid fun W hW => (hs.below HBW.out).below hW
  have hli : (60 : Int) < (l.length : Int) := by omega
  obtain ⟨va, vc, rfl⟩ := hs.len
  clear hs hn h_o hl60
  unfold St.v Op.v
  go_enter Tryz.func14, Tryz.ntmps14
  go_wp2_with fail
  rw [← hW0]
  clear hW0
  go_wp2_with fail
  refine (shown_any W0).mono ?_
  rintro e x1 ⟨rfl, hb⟩
  have HX1 : Hid (Below W0.heap.size W0 x1) := Lib.hid (HX0.out.trans (hb.mono HX0.out.size))
  clear hb
  go_wp2
  go_ret
  exact ⟨rfl, HBW.out.trans (HX1.out.mono HBW.out.size)⟩

set_option maxRecDepth 100000 in
set_option maxHeartbeats 8000000 in
theorem twice_walk (v : Value) (l : List Op) (s : St) (o : Op) (w : World) (hs : SlAt w 13 Op.cells v l) (hn : ∀ x ∈ l, x.Small) (h_o : o.Small) :
    Calls Tryz.prog 14 #[v, s.v, o.v] w fun y w' => y = .returned (.bool true) ∧ Below w.heap.size w w' := by
  by_cases hl : l.length ≤ 60
  · exact twice_60 v l s o w hs hn h_o hl
  · exact twice_big v l s o w hs hn h_o hl
end Go.Proofs.YtlokljaeknmdpaaGreat.L14
