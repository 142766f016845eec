/-
  thimblelaw14.OplogCopies: what a log tells, and a copy of it, are apart from it; no condition but the texts' reach.
-/
import Derived.Test.YtlokljaeknmdpaaGreatKZ46
import Derived.Test.YtlokljaeknmdpaaGreatKZ47
import Derived.Test.YtlokljaeknmdpaaGreatKZ48
/-! ## LCopies -/
namespace Go.Proofs.YtlokljaeknmdpaaGreat.L14
open Go.RowKit Go.Shelf Go.Proofs

set_option linter.unusedVariables false

theorem two_boxes' {w W0 : World} {s : St} {o : Op} (h : W0 = (w.alloc (.cells #[.int .i64 o.stamp.t, .int .i64 o.stamp.r, .int .i64 o.kind, .int .i64 o.at_.t, .int .i64 o.at_.r, .int .i64 o.ino.t, .int .i64 o.ino.r, .int .i64 o.to.t, .int .i64 o.to.r, .string o.name, .string o.new, .int .i64 o.off, .string o.data] 47)).alloc (.cells #[.int .i64 s.t, .int .i64 s.r] 31)) : Below w.heap.size w W0 ∧ ∀ W, Below W0.heap.size W0 W → (W.cell? ⟨w.heap.size + 1, 0, none⟩ = some (.int .i64 s.t) ∧ W.cell? ⟨w.heap.size + 1, 1, none⟩ = some (.int .i64 s.r) ∧ w.heap.size + 1 < W.heap.size) ∧ (W.cell? ⟨w.heap.size, 0, none⟩ = some (.int .i64 o.stamp.t) ∧ W.cell? ⟨w.heap.size, 1, none⟩ = some (.int .i64 o.stamp.r) ∧ W.cell? ⟨w.heap.size, 2, none⟩ = some (.int .i64 o.kind) ∧ W.cell? ⟨w.heap.size, 3, none⟩ = some (.int .i64 o.at_.t) ∧ W.cell? ⟨w.heap.size, 4, none⟩ = some (.int .i64 o.at_.r) ∧ W.cell? ⟨w.heap.size, 5, none⟩ = some (.int .i64 o.ino.t) ∧ W.cell? ⟨w.heap.size, 6, none⟩ = some (.int .i64 o.ino.r) ∧ W.cell? ⟨w.heap.size, 7, none⟩ = some (.int .i64 o.to.t) ∧ W.cell? ⟨w.heap.size, 8, none⟩ = some (.int .i64 o.to.r) ∧ W.cell? ⟨w.heap.size, 9, none⟩ = some (.string o.name) ∧ W.cell? ⟨w.heap.size, 10, none⟩ = some (.string o.new) ∧ W.cell? ⟨w.heap.size, 11, none⟩ = some (.int .i64 o.off) ∧ W.cell? ⟨w.heap.size, 12, none⟩ = some (.string o.data) ∧ w.heap.size < W.heap.size) := by
  subst h
  have hz : ((w.alloc (.cells #[.int .i64 o.stamp.t, .int .i64 o.stamp.r, .int .i64 o.kind, .int .i64 o.at_.t, .int .i64 o.at_.r, .int .i64 o.ino.t, .int .i64 o.ino.r, .int .i64 o.to.t, .int .i64 o.to.r, .string o.name, .string o.new, .int .i64 o.off, .string o.data] 47)).alloc (.cells #[.int .i64 s.t, .int .i64 s.r] 31)).heap.size = w.heap.size + 2 := by simp only [World.size_alloc]
  refine ⟨((Below.refl _ _).alloc (Nat.le_refl _) _).alloc (by simp) _, fun W hW => ?_⟩
  have h1 : W.heap[w.heap.size]? = some (.cells #[.int .i64 o.stamp.t, .int .i64 o.stamp.r, .int .i64 o.kind, .int .i64 o.at_.t, .int .i64 o.at_.r, .int .i64 o.ino.t, .int .i64 o.ino.r, .int .i64 o.to.t, .int .i64 o.to.r, .string o.name, .string o.new, .int .i64 o.off, .string o.data] 47) := (hW.block _ (by omega)).trans ((Below.heap_alloc _ _ _ (by simp)).trans (World.alloc_heap_new w _))
  have h2 : W.heap[w.heap.size + 1]? = some (.cells #[.int .i64 s.t, .int .i64 s.r] 31) := (hW.block _ (by omega)).trans (by have h := World.alloc_heap_new (w.alloc (.cells #[.int .i64 o.stamp.t, .int .i64 o.stamp.r, .int .i64 o.kind, .int .i64 o.at_.t, .int .i64 o.at_.r, .int .i64 o.ino.t, .int .i64 o.ino.r, .int .i64 o.to.t, .int .i64 o.to.r, .string o.name, .string o.new, .int .i64 o.off, .string o.data] 47)) (.cells #[.int .i64 s.t, .int .i64 s.r] 31); rw [World.size_alloc] at h; exact h)
  exact ⟨⟨cell_at h2 0 _ rfl, cell_at h2 1 _ rfl, (Array.getElem?_eq_some_iff.1 h2).1⟩, op_cells h1⟩
theorem but_below' {a b c C : Nat} {w0 w w' : World} (hb : But3 a b c w w') (hw : Below C w0 w) (h1 : C ≤ w.heap.size) (h2 : C ≤ a) (h3 : C ≤ b) (h4 : C ≤ c) : Below C w0 w' := hw.trans (hb.below h1 h2 h3 h4)
/-- what is left of a row that is written to: its block and its size -/
def Room (w : World) (C n : Nat) (a : Option Addr) : Prop := 0 < n → ∃ g cs, a = some ⟨g, 0, none⟩ ∧ C ≤ g ∧ w.heap[g]? = some (.cells cs 47 (0, 0)) ∧ n * 13 ≤ cs.size
theorem Room.of_row {w : World} {C n c : Nat} {a : Option Addr} {l : List Op} (h : w.ownsRow C 47 13 (.slice a n c) n (l.flatMap Op.cells)) : Room w C n a := by
  intro hn
  rcases h.2 with ⟨h0, h1⟩ | ⟨g, cap, cur, h0, h1, h2, h3, _, h4, _⟩
  · omega
  · simp only [Value.slice.injEq] at h0
    exact ⟨g, cur, h0.1, h1, h2, by rw [h4]; exact Nat.mul_le_mul_right 13 h3⟩

set_option maxRecDepth 100000 in
set_option maxHeartbeats 8000000 in
theorem copies_60 (v : Value) (l : List Op) (o : Op) (s : St) (w : World) (hs : SlAt w 13 Op.cells v l) (hn : ∀ x ∈ l, x.Small) (h_o : o.Small) (hl60 : l.length ≤ 60) :
    Calls Tryz.prog 16 #[v, o.v, s.v] w fun y w' => y = .returned (.bool true) ∧ Below w.heap.size w w' := by
  obtain ⟨W0, hW0⟩ : ∃ W0, W0 = (w.alloc (.cells #[.int .i64 o.stamp.t, .int .i64 o.stamp.r, .int .i64 o.kind, .int .i64 o.at_.t, .int .i64 o.at_.r, .int .i64 o.ino.t, .int .i64 o.ino.r, .int .i64 o.to.t, .int .i64 o.to.r, .string o.name, .string o.new, .int .i64 o.off, .string o.data] 47)).alloc (.cells #[.int .i64 s.t, .int .i64 s.r] 31) := ⟨_, rfl⟩
  have HBW : Hid (Below w.heap.size w W0) := Lib.hid (two_boxes' hW0).1
  have HCE := Lib.hid (two_boxes' hW0).2
  have HX0 : Hid (Below W0.heap.size W0 W0) := Lib.hid (Below.refl _ _)
  have HSL : Hid (∀ W, Below W0.heap.size W0 W → SlAt W 13 Op.cells v l) := Lib.hid fun W hW => (hs.below HBW.out).below hW
  have HNM := Lib.hid hn
  have HSO := Lib.hid h_o
  have HL6 := Lib.hid hl60
  obtain ⟨va, vc, rfl⟩ := hs.len
  clear hs hn h_o hl60
  unfold St.v Op.v
  go_enter Tryz.func16, Tryz.ntmps16
  go_wp2_with fail
  rw [← hW0]
  clear hW0
  go_wp2_with fail
  refine (shown_any W0).mono ?_
  rintro e x1 ⟨rfl, hb⟩
  have HX1 : Hid (Below W0.heap.size W0 x1) := Lib.hid (HX0.out.trans (hb.mono HX0.out.size))
  clear hb
  have hl6i : ¬ (60 : Int) < (l.length : Int) := by have := HL6.out; omega
  go_wp2_with fail
  refine (new_g x1).mono ?_
  rintro e x2 ⟨u, rfl, ⟨g1, i1, e1, rfl, hg, _, _, _⟩, hb⟩
  have HX2 : Hid (Below W0.heap.size W0 x2) := Lib.hid (HX1.out.trans (hb.mono HX1.out.size))
  have HG2 := Lib.hid hg
  clear hg hb
  go_wp2_with fail
  refine (from_any g1 i1 e1 Gr.new ⟨0, 0⟩ _ l x2 HG2.out Gr.Ok.new Gr.Thin.new rfl (HSL.out _ HX2.out) HNM.out (by have := HL6.out; omega)).mono ?_
  rintro e x3 ⟨la, ga, aI, aE, rfl, hL, hb⟩
  have HX3 : Hid (Below W0.heap.size W0 x3) := Lib.hid (HX2.out.trans (hb.mono HX2.out.size))
  have HA3 := Lib.hid (hL.mono HX2.out.size)
  have HFA : Hid ((Lg.from Gr.new ⟨0, 0⟩ l).g = ofOps l ∧ (Lg.from Gr.new ⟨0, 0⟩ l).base = Gr.new ∧ (Lg.from Gr.new ⟨0, 0⟩ l).floor = ⟨0, 0⟩ ∧ (Lg.from Gr.new ⟨0, 0⟩ l).ops.length ≤ 60) := Lib.hid ⟨from_g l, by rw [from_new], by rw [from_new], by rw [from_new]; have := sort_len l; have := HL6.out; show (sortOps l).length ≤ 60; omega⟩
  clear hL hb
  generalize Lg.from Gr.new ⟨0, 0⟩ l = M at *
  have HOK : Hid ((ofOps l).Ok) := Lib.hid (ofOps_ok l)
  go_wp2_with fail
  refine (graph_l _ la ga aI aE M x3 HA3.out).mono ?_
  rintro e x4 ⟨u, rfl, ⟨gw, iw, ew, rfl, hg, _, _, _⟩, hb⟩
  have HX4 : Hid (Below W0.heap.size W0 x4) := Lib.hid (HX3.out.trans (hb.mono HX3.out.size))
  rw [HFA.out.1] at hg
  have HG4 := Lib.hid hg
  have HA4 := Lib.hid (HA3.out.below hb)
  clear hg hb
  go_wp2_with fail
  refine (ops_l _ la ga aI aE M x4 HA4.out).mono ?_
  rintro e x5 ⟨u, rfl, hr, hb⟩
  have HX5 : Hid (Below W0.heap.size W0 x5) := Lib.hid (HX4.out.trans (hb.mono HX4.out.size))
  have HR5 := Lib.hid hr
  obtain ⟨p5, q5, rfl⟩ := hr.shape
  have HA5 := Lib.hid (HA4.out.below hb)
  have HG5 := Lib.hid ((HG4.out.below hb).reads HOK.out (by have := HOK.out.few; omega))
  clear hr hb
  have HY0 : Hid (Below x5.heap.size x5 x5) := Lib.hid (Below.refl _ _)
  go_wp2_with fail
  refine (copy_l _ la ga aI aE M x5 HA5.out).mono ?_
  rintro e y1 ⟨lc, gc, cI, cE, rfl, hC, hb⟩
  have HY1 : Hid (Below x5.heap.size x5 y1) := Lib.hid (hb)
  have HGC : Hid (x5.heap.size ≤ lc ∧ x5.heap.size ≤ cI ∧ x5.heap.size ≤ cE) := Lib.hid (by obtain ⟨_, _, _, _, _, h, _⟩ := hC; omega)
  have HC1 := Lib.hid hC.at
  clear hC hb
  obtain ⟨⟨_, _, _⟩, _, _, _, _, _, _, _, _, _, _, _, _, _, _⟩ := HCE.out _ (HX5.out.trans (HY1.out.mono HX5.out.size))
  go_wp2_with fail
  refine (add_any _ lc gc cI cE M o y1 HC1.out HSO.out (by have := HFA.out.2.2.2; omega)).mono ?_
  rintro e y2 ⟨rfl, hC, hb⟩
  have HY2 : Hid (Below x5.heap.size x5 y2) := Lib.hid (but_below' hb HY1.out HY1.out.size HGC.out.1 HGC.out.2.1 HGC.out.2.2)
  have HC2 := Lib.hid hC
  clear hC hb
  obtain ⟨⟨_, _, _⟩, _, _, _, _, _, _, _, _, _, _, _, _, _, _⟩ := HCE.out _ (HX5.out.trans (HY2.out.mono HX5.out.size))
  go_wp2_with fail
  refine (compact_any _ lc gc cI cE (M.add o) s y2 HC2.out).mono ?_
  rintro e y3 ⟨rfl, _, hb⟩
  have HY3 : Hid (Below x5.heap.size x5 y3) := Lib.hid (but_below' hb HY2.out HY2.out.size HGC.out.1 HGC.out.2.1 HGC.out.2.2)
  clear hb
  go_wp2_with fail
  refine (graph_l _ la ga aI aE M y3 (HA5.out.below HY3.out)).mono ?_
  rintro e y4 ⟨u, rfl, ⟨g4, i4, e4, rfl, hg, k1, k2, k3⟩, hb⟩
  have HY4 : Hid (Below x5.heap.size x5 y4) := Lib.hid (HY3.out.trans (hb.mono HY3.out.size))
  rw [HFA.out.1] at hg
  have HGg := Lib.hid hg
  have HM4 : Hid (x5.heap.size ≤ i4 ∧ x5.heap.size ≤ e4) := Lib.hid ⟨Nat.le_trans HY3.out.size k2, Nat.le_trans HY3.out.size k3⟩
  clear hg k1 k2 k3 hb
  go_wp2_with fail
  refine (make_g g4 i4 e4 (ofOps l) ⟨77, 0⟩ 2 y4 HGg.out HOK.out).mono ?_
  rintro e y5 ⟨rfl, _, hT⟩
  have HY5 : Hid (Below x5.heap.size x5 y5) := Lib.hid (HY4.out.trans (own_below hT HM4.out.1 HM4.out.2 HY4.out.size))
  clear hT
  go_wp2_with fail
  refine (base_l _ la ga aI aE M y5 (HA5.out.below HY5.out)).mono ?_
  rintro e y6 ⟨u, rfl, ⟨g6, i6, e6, rfl, hg, k1, k2, k3⟩, hb⟩
  have HY6 : Hid (Below x5.heap.size x5 y6) := Lib.hid (HY5.out.trans (hb.mono HY5.out.size))
  rw [HFA.out.2.1] at hg
  have HGb := Lib.hid hg
  have HM6 : Hid (x5.heap.size ≤ i6 ∧ x5.heap.size ≤ e6) := Lib.hid ⟨Nat.le_trans HY5.out.size k2, Nat.le_trans HY5.out.size k3⟩
  clear hg k1 k2 k3 hb
  go_wp2_with fail
  refine (make_g g6 i6 e6 Gr.new ⟨78, 0⟩ 2 y6 HGb.out Gr.Ok.new).mono ?_
  rintro e y7 ⟨rfl, _, hT⟩
  have HY7 : Hid (Below x5.heap.size x5 y7) := Lib.hid (HY6.out.trans (own_below hT HM6.out.1 HM6.out.2 HY6.out.size))
  clear hT
  go_wp2_with fail
  refine (ops_l _ la ga aI aE M y7 (HA5.out.below HY7.out)).mono ?_
  rintro e y8 ⟨u, rfl, hr, hb⟩
  have HY8 : Hid (Below x5.heap.size x5 y8) := Lib.hid (HY7.out.trans (hb.mono HY7.out.size))
  obtain ⟨pa, pc, rfl⟩ := hr.shape
  have HRM : Hid (Room y8 x5.heap.size M.ops.length pa) := Lib.hid (Room.of_row (hr.mono HY7.out.size))
  clear hr hb
  go_wp2
  go_loopg [15] M.ops.length (fun gg s15 wr => ∃ i : Nat, s15 = .int .i64 i ∧ i ≤ M.ops.length ∧ M.ops.length - i ≤ gg ∧ Aside (Room wr x5.heap.size M.ops.length pa) ∧ Aside (Below x5.heap.size x5 wr))
  case atStart => exact ⟨0, rfl, Nat.zero_le _, by omega, (show Aside _ from HRM.out), (show Aside _ from HY8.out)⟩
  case round =>
    obtain ⟨i, rfl, hil, hgg, hR, hB⟩ := hrel
    have hi0 : (0 : Int) ≤ (i : Int) := by omega
    have hwi : IntKind.i64.wrap ((i : Int) + 1) = (i : Int) + 1 := wrapNat (i + 1) (by have := HFA.out.2.2.2; omega)
    by_cases hlt : i < M.ops.length
    · have hlti : (i : Int) < (M.ops.length : Int) := by omega
      obtain ⟨g, cs, rfl, hge, hcs, hsz⟩ := hR.out (by omega)
      have hin : i * 13 + 9 < cs.size := by omega
      have d0 : wr.cell? ⟨g, i * 13 + 9, none⟩ = some cs[i * 13 + 9] := cell_at hcs _ _ (Array.getElem?_eq_getElem hin)
      have f0 := frozen_at hcs (i * 13 + 9)
      have HN : Hid (Room (wr.setCell ⟨g, i * 13 + 9, none⟩ (.string { data := #[122, 122] })) x5.heap.size M.ops.length (some ⟨g, 0, none⟩)) := Lib.hid fun _ => ⟨g, _, rfl, hge, heap_setCell_at hcs _ _, by rw [Array.size_setIfInBounds]; exact hsz⟩
      have HBN : Hid (Below x5.heap.size x5 (wr.setCell ⟨g, i * 13 + 9, none⟩ (.string { data := #[122, 122] }))) := Lib.hid (hB.out.setCell hge _)
      clear hcs hsz hR hB
      generalize cs[i * 13 + 9] = cv at d0
      clear hin
      go_wp2
      go_roundg (M.ops.length - (i + 1))
      case measure => omega
      case rel => exact ⟨i + 1, by first | rfl | go_num, by omega, by omega, (show Aside _ from HN.out), (show Aside _ from HBN.out)⟩
    · have hlti : ¬ (i : Int) < (M.ops.length : Int) := by omega
      have HZ20 : Hid (Below x5.heap.size x5 wr) := Lib.hid hB.out
      clear hlt hR hB
      have hz20 : wr.heap.size = wr.heap.size := rfl
      clear hz20
      obtain ⟨z20, hz20⟩ : ∃ z, z = wr := ⟨_, rfl⟩
      rw [← hz20] at HZ20 ⊢
      clear hz20
      go_wp2_with fail
      refine (graph_l _ la ga aI aE M z20 (HA5.out.below HZ20.out)).mono ?_
      rintro e z21 ⟨u, rfl, ⟨gz, iz, ez, rfl, hg, _, _, _⟩, hb⟩
      have HZ21 : Hid (Below x5.heap.size x5 z21) := Lib.hid (HZ20.out.trans (hb.mono HZ20.out.size))
      rw [HFA.out.1] at hg
      have HGz := Lib.hid (hg.reads HOK.out (by have := HOK.out.few; omega))
      clear hg hb
      go_wp2_with fail
      refine (same_any gz gw _ z21 HOK.out HGz.out (HG5.out.below HZ21.out)).mono ?_
      rintro e z22 ⟨rfl, hb⟩
      have HZ22 : Hid (Below x5.heap.size x5 z22) := Lib.hid (HZ21.out.trans (hb.mono HZ21.out.size))
      clear hb
      go_wp2_with fail
      refine (ops_l _ la ga aI aE M z22 (HA5.out.below HZ22.out)).mono ?_
      rintro e z23 ⟨u, rfl, hr, hb⟩
      have HZ23 : Hid (Below x5.heap.size x5 z23) := Lib.hid (HZ22.out.trans (hb.mono HZ22.out.size))
      have HRz := Lib.hid hr
      obtain ⟨pz, qz, rfl⟩ := hr.shape
      clear hr hb
      go_wp2_with fail
      refine (L13.ops_same _ _ _ z23 HRz.out.sl (HR5.out.kept HZ23.out).sl (by have := HFA.out.2.2.2; omega)).mono ?_
      rintro e z24 ⟨rfl, hb⟩
      have HZ24 : Hid (Below x5.heap.size x5 z24) := Lib.hid (HZ23.out.trans (hb.mono HZ23.out.size))
      clear hb
      go_wp2_with fail
      refine (floor_l _ la ga aI aE M z24 (HA5.out.below HZ24.out)).mono ?_
      rintro e z25 ⟨rfl, hb⟩
      have HZ25 : Hid (Below x5.heap.size x5 z25) := Lib.hid (HZ24.out.trans (hb.mono HZ24.out.size))
      rw [HFA.out.2.2.1]
      unfold St.v
      clear hb
      go_wp2_with fail
      refine (base_l _ la ga aI aE M z25 (HA5.out.below HZ25.out)).mono ?_
      rintro e z26 ⟨u, rfl, ⟨gx, ix, ex, rfl, hg, _, _, _⟩, hb⟩
      have HZ26 : Hid (Below x5.heap.size x5 z26) := Lib.hid (HZ25.out.trans (hb.mono HZ25.out.size))
      rw [HFA.out.2.1] at hg
      have HGx := Lib.hid hg
      clear hg hb
      go_wp2_with fail
      refine (inodes_any gx ix ex Gr.new z26 HGx.out Gr.Ok.new.sn (by decide)).mono ?_
      rintro e z27 ⟨u, rfl, hr, hb⟩
      have HZ27 : Hid (Below x5.heap.size x5 z27) := Lib.hid (HZ26.out.trans (hb.mono HZ26.out.size))
      obtain ⟨pn, qn, rfl⟩ := row_len5 hr
      clear hr hb
      go_wp2
      go_ret
      exact ⟨rfl, HBW.out.trans ((HX5.out.trans (HZ27.out.mono HX5.out.size)).mono HBW.out.size)⟩

set_option maxRecDepth 100000 in
set_option maxHeartbeats 8000000 in
theorem copies_big (v : Value) (l : List Op) (o : Op) (s : St) (w : World) (hs : SlAt w 13 Op.cells v l) (hn : ∀ x ∈ l, x.Small) (h_o : o.Small) (hl60 : ¬ l.length ≤ 60) :
    Calls Tryz.prog 16 #[v, o.v, s.v] w fun y w' => y = .returned (.bool true) ∧ Below w.heap.size w w' := by
  obtain ⟨W0, hW0⟩ : ∃ W0, W0 = (w.alloc (.cells #[.int .i64 o.stamp.t, .int .i64 o.stamp.r, .int .i64 o.kind, .int .i64 o.at_.t, .int .i64 o.at_.r, .int .i64 o.ino.t, .int .i64 o.ino.r, .int .i64 o.to.t, .int .i64 o.to.r, .string o.name, .string o.new, .int .i64 o.off, .string o.data] 47)).alloc (.cells #[.int .i64 s.t, .int .i64 s.r] 31) := ⟨_, rfl⟩
  have HBW : Hid (Below w.heap.size w W0) := Lib.hid (two_boxes' hW0).1
  have HCE := Lib.hid (two_boxes' hW0).2
  have HX0 : Hid (Below W0.heap.size W0 W0) := Lib.hid (Below.refl _ _)
  have HSL : Hid (∀ W, Below W0.heap.size W0 W → SlAt W 13 Op.cells v l) := Lib.hid fun W hW => (hs.below HBW.out).below hW
  have hli : (60 : Int) < (l.length : Int) := by omega
  obtain ⟨va, vc, rfl⟩ := hs.len
  clear hs hn h_o hl60
  unfold St.v Op.v
  go_enter Tryz.func16, Tryz.ntmps16
  go_wp2_with fail
  rw [← hW0]
  clear hW0
  go_wp2_with fail
  refine (shown_any W0).mono ?_
  rintro e x1 ⟨rfl, hb⟩
  have HX1 : Hid (Below W0.heap.size W0 x1) := Lib.hid (HX0.out.trans (hb.mono HX0.out.size))
  clear hb
  go_wp2
  go_ret
  exact ⟨rfl, HBW.out.trans (HX1.out.mono HBW.out.size)⟩

set_option maxRecDepth 100000 in
set_option maxHeartbeats 8000000 in
theorem copies_walk (v : Value) (l : List Op) (o : Op) (s : St) (w : World) (hs : SlAt w 13 Op.cells v l) (hn : ∀ x ∈ l, x.Small) (h_o : o.Small) :
    Calls Tryz.prog 16 #[v, o.v, s.v] w fun y w' => y = .returned (.bool true) ∧ Below w.heap.size w w' := by
  by_cases hl : l.length ≤ 60
  · exact copies_60 v l o s w hs hn h_o hl
  · exact copies_big v l o s w hs hn h_o hl
end Go.Proofs.YtlokljaeknmdpaaGreat.L14
