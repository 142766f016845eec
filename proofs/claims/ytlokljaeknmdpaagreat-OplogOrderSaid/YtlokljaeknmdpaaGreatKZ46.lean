/-
  thimblelaw14.OplogOrder: the same operations in two orders make the same log; no condition but the texts' reach.
-/
import Derived.Test.YtlokljaeknmdpaaGreatKZ32
import Derived.Test.YtlokljaeknmdpaaGreatKZ45
/-! ## LOrder -/
namespace Go.Proofs.YtlokljaeknmdpaaGreat.L14
open Go.RowKit Go.Shelf Go.Proofs

theorem u8_bounds {n : Int} (h : (Lit.int .u8 n).wf = true) : 0 ≤ n ∧ n ≤ 255 := by
  unfold Lit.wf at h
  simp only [Bool.and_eq_true, decide_eq_true_eq] at h
  exact h
theorem rem_less {n : Nat} {j : Int} (hj : 0 ≤ j) (hn : 0 < n) : ∃ m : Nat, j.tmod (n : Int) = (m : Int) ∧ m < n := by
  have h1 : 0 ≤ j.tmod (n : Int) := Int.tmod_nonneg _ hj
  have h2 : j.tmod (n : Int) < (n : Int) := Int.tmod_lt_of_pos _ (by omega)
  exact ⟨(j.tmod (n : Int)).toNat, by omega, by omega⟩
theorem xbox {w W1 : World} {x : Op} {r : Option Nat} (hg : (w.alloc (.cells #[.int .i64 x.stamp.t, .int .i64 x.stamp.r, .int .i64 x.kind, .int .i64 x.at_.t, .int .i64 x.at_.r, .int .i64 x.ino.t, .int .i64 x.ino.r, .int .i64 x.to.t, .int .i64 x.to.r, .string x.name, .string x.new, .int .i64 x.off, .string x.data] 47)).grownBy W1 r) (hr : some w.heap.size ≠ r) : ∀ W, Below W1.heap.size W1 W → (W.cell? ⟨w.heap.size, 0, none⟩ = some (.int .i64 x.stamp.t) ∧ W.cell? ⟨w.heap.size, 1, none⟩ = some (.int .i64 x.stamp.r) ∧ W.cell? ⟨w.heap.size, 2, none⟩ = some (.int .i64 x.kind) ∧ W.cell? ⟨w.heap.size, 3, none⟩ = some (.int .i64 x.at_.t) ∧ W.cell? ⟨w.heap.size, 4, none⟩ = some (.int .i64 x.at_.r) ∧ W.cell? ⟨w.heap.size, 5, none⟩ = some (.int .i64 x.ino.t) ∧ W.cell? ⟨w.heap.size, 6, none⟩ = some (.int .i64 x.ino.r) ∧ W.cell? ⟨w.heap.size, 7, none⟩ = some (.int .i64 x.to.t) ∧ W.cell? ⟨w.heap.size, 8, none⟩ = some (.int .i64 x.to.r) ∧ W.cell? ⟨w.heap.size, 9, none⟩ = some (.string x.name) ∧ W.cell? ⟨w.heap.size, 10, none⟩ = some (.string x.new) ∧ W.cell? ⟨w.heap.size, 11, none⟩ = some (.int .i64 x.off) ∧ W.cell? ⟨w.heap.size, 12, none⟩ = some (.string x.data) ∧ w.heap.size < W.heap.size) := by
  have hb : W1.heap[w.heap.size]? = some (.cells #[.int .i64 x.stamp.t, .int .i64 x.stamp.r, .int .i64 x.kind, .int .i64 x.at_.t, .int .i64 x.at_.r, .int .i64 x.ino.t, .int .i64 x.ino.r, .int .i64 x.to.t, .int .i64 x.to.r, .string x.name, .string x.new, .int .i64 x.off, .string x.data] 47) := (hg.block w.heap.size (by simp) hr).trans (World.alloc_heap_new w _)
  intro W hW
  have hw : W.heap[w.heap.size]? = some (.cells #[.int .i64 x.stamp.t, .int .i64 x.stamp.r, .int .i64 x.kind, .int .i64 x.at_.t, .int .i64 x.at_.r, .int .i64 x.ino.t, .int .i64 x.ino.r, .int .i64 x.to.t, .int .i64 x.to.r, .string x.name, .string x.new, .int .i64 x.off, .string x.data] 47) := (hW.block _ (Array.getElem?_eq_some_iff.1 hb).1).trans hb
  refine ⟨?_, ?_, ?_, ?_, ?_, ?_, ?_, ?_, ?_, ?_, ?_, ?_, ?_, (Array.getElem?_eq_some_iff.1 hw).1⟩ <;> (simp only [World.cell?, hw]; rfl)

set_option maxRecDepth 100000 in
set_option maxHeartbeats 8000000 in
theorem order_M (v1 : Value) (l : List Op) (v2 : Value) (tu : List Int) (w : World) (hs1 : SlAt w 13 Op.cells v1 l) (hn1 : ∀ o ∈ l, o.Small) (hs2 : SlAt w 1 U8.cells v2 tu) (hn2 : ∀ z ∈ tu, (Lit.int .u8 z).wf = true) (hl60 : l.length ≤ 60) (M : Nat) (hM : M = tu.length ∧ tu.length ≤ 100 ∨ M = 100 ∧ 100 < tu.length) (hN : 0 < (sortOps l).length ∨ M = 0) :
    Calls Tryz.prog 12 #[v1, v2] w fun y w' => y = .returned (.bool true) ∧ Below w.heap.size w w' := by
  have HS1 := Lib.hid (fun W (hW : Below w.heap.size w W) => hs1.below hW)
  have HS2 : Hid (∀ W, Below w.heap.size w W → SlAt W 1 U8.cells v2 tu) := Lib.hid fun W hW => hs2.below hW
  have HWF := Lib.hid hn2
  have HSML := Lib.hid hn1
  have HB0 : Hid (Below w.heap.size w w) := Lib.hid (Below.refl _ _)
  have HNS : Hid (∀ o ∈ sortOps l, o.Small) := Lib.hid fun o ho => hn1 o (sort_sub ho)
  have HLW := Lib.hid (fun k => order_law l k)
  have hal : (sortOps l).length ≤ 60 := Nat.le_trans (sort_len l) hl60
  have HL6 := Lib.hid hl60
  have hl6i : ¬ (60 : Int) < (l.length : Int) := by omega
  obtain ⟨a1, c1_, rfl⟩ := hs1.len
  obtain ⟨a2, c2_, rfl⟩ := hs2.len
  clear hs1 hs2 hn1 hn2 hl60
  obtain ⟨A, hA⟩ : ∃ A, A = sortOps l := ⟨_, rfl⟩
  rw [← hA] at hal HNS HLW hN
  have HA := Lib.hid hA
  clear hA
  go_enter Tryz.func12, Tryz.ntmps12
  go_wp2_with fail
  refine (shown_any _).mono ?_
  rintro e w1 ⟨rfl, hb1⟩
  obtain ⟨hc1, hf1⟩ := bcell hb1
  have hs1 := hb1.size
  try simp only [World.size_alloc] at hs1
  try simp only [size_setCell'] at hs1
  try have le1_0 : w.heap.size ≤ w1.heap.size := (by omega)
  try have lt1_0 : w.heap.size < w1.heap.size := (by omega)
  have HB1 : Hid (Below w.heap.size w w1) := Lib.hid (Below.trans (by first | exact HB0.out | exact HB0.out.alloc HB0.out.size _ | exact (HB0.out.alloc HB0.out.size _).alloc (le_al HB0.out.size) _ | exact ((HB0.out.alloc HB0.out.size _).alloc (le_al HB0.out.size) _).alloc (le_al (le_al HB0.out.size)) _) (hb1.mono (by (try simp only [World.size_alloc]); (try simp only [size_setCell']); omega)))
  have HN1 := Lib.hid hb1
  clear hb1 hs1
  go_wp2_with fail
  refine (sort_any _ l _ (HS1.out _ (by first | exact HB1.out | exact HB1.out.alloc HB1.out.size _ | exact (HB1.out.alloc HB1.out.size _).alloc (le_al HB1.out.size) _ | exact ((HB1.out.alloc HB1.out.size _).alloc (le_al HB1.out.size) _).alloc (le_al (le_al HB1.out.size)) _ | exact HB0.out | exact HB0.out.alloc HB0.out.size _ | exact (HB0.out.alloc HB0.out.size _).alloc (le_al HB0.out.size) _ | exact ((HB0.out.alloc HB0.out.size _).alloc (le_al HB0.out.size) _).alloc (le_al (le_al HB0.out.size)) _)) HSML.out (by have := HL6.out; omega)).mono ?_
  rintro e w2 ⟨va, rfl, hra, hb2⟩
  obtain ⟨hc2, hf2⟩ := bcell hb2
  have hs2 := hb2.size
  try simp only [World.size_alloc] at hs2
  try simp only [size_setCell'] at hs2
  try have le2_0 : w.heap.size ≤ w2.heap.size := (by omega)
  try have lt2_0 : w.heap.size < w2.heap.size := (by omega)
  try have le2_1 : w1.heap.size ≤ w2.heap.size := (by omega)
  try have lt2_1 : w1.heap.size < w2.heap.size := (by omega)
  have HB2 : Hid (Below w.heap.size w w2) := Lib.hid (Below.trans (by first | exact HB1.out | exact HB1.out.alloc HB1.out.size _ | exact (HB1.out.alloc HB1.out.size _).alloc (le_al HB1.out.size) _ | exact ((HB1.out.alloc HB1.out.size _).alloc (le_al HB1.out.size) _).alloc (le_al (le_al HB1.out.size)) _ | exact HB0.out | exact HB0.out.alloc HB0.out.size _ | exact (HB0.out.alloc HB0.out.size _).alloc (le_al HB0.out.size) _ | exact ((HB0.out.alloc HB0.out.size _).alloc (le_al HB0.out.size) _).alloc (le_al (le_al HB0.out.size)) _) (hb2.mono (by (try simp only [World.size_alloc]); (try simp only [size_setCell']); omega)))
  have HN2 := Lib.hid hb2
  clear hb2 hs2
  rw [← HA.out] at hra
  have HRA := Lib.hid hra
  obtain ⟨pa, pc, rfl⟩ := hra.shape
  clear hra
  go_wp2
  go_loopg [7] M (fun gg s7 wr => ∃ (i : Nat) (bl : List Op), s7 = .int .i64 i ∧ i ≤ M ∧ M - i ≤ gg ∧ bl.length = A.length ∧ Aside (OpsRow w1.heap.size (.slice pa bl.length pc) bl wr) ∧ Aside (bl.Perm A) ∧ Aside (Below w1.heap.size w1 wr))
  case atStart => exact ⟨0, A, rfl, Nat.zero_le _, by omega, rfl, (show Aside _ from HRA.out), (show Aside _ from List.Perm.refl _), (show Aside _ from HN2.out)⟩
  case round =>
    obtain ⟨i, bl, rfl, hil, hgg, hbl, hRW, hMB, hB⟩ := hrel
    have hi0 : (0 : Int) ≤ (i : Int) := by omega
    have hwi : IntKind.i64.wrap ((i : Int) + 1) = (i : Int) + 1 := wrapNat (i + 1) (by omega)
    by_cases hlt : i < M
    · have d1 : decide (i < tu.length) = true := decide_eq_true (by omega)
      have c1 : (i : Int) < (tu.length : Int) := by omega
      have d2 : decide (i < 100) = true := decide_eq_true (by omega)
      have c2 : (i : Int) < 100 := by omega
      have hn0 : 0 < A.length := by omega
      have d3 : decide (0 < A.length) = true := decide_eq_true hn0
      have c3 : (0 : Int) < (A.length : Int) := by omega
      have hsx := HS2.out wr (HB1.out.trans (hB.out.mono HB1.out.size))
      obtain ⟨tb, tq, rfl, _, htc⟩ := slAt_at hsx (show i < tu.length by omega)
      have t0 := htc i (by omega) 0 _ rfl
      rw [Nat.add_zero, Nat.mul_one] at t0
      obtain ⟨ht0, ht1⟩ := u8_bounds (HWF.out _ (getElem!_mem (show i < tu.length by omega)))
      generalize tu[i]! = t at *
      have hwt : IntKind.i64.wrap t = t := by rw [IntKind.wrap_i64]; omega
      obtain ⟨X, hX, hXl⟩ := rem_less (j := t) ht0 hn0
      obtain ⟨Y, hY, hYl⟩ := rem_less (j := (i : Int)) (by omega) hn0
      have hne : ¬ ((A.length : Int) = 0) := by omega
      have hX0 : (0 : Int) ≤ (X : Int) := by omega
      have hY0 : (0 : Int) ≤ (Y : Int) := by omega
      have hXc : (X : Int) < (A.length : Int) := by omega
      have hYc : (Y : Int) < (A.length : Int) := by omega
      have hnil : ¬ A = [] := fun e => by rw [e] at hn0; exact absurd hn0 (by decide)
      have HXY : Hid (X < bl.length ∧ Y < bl.length) := Lib.hid ⟨by omega, by omega⟩
      have hsl := hRW.out.sl
      obtain ⟨g, go', hge, hgl, hgc⟩ := slAt_at hsl HXY.out.1
      obtain rfl : go' = 0 := by
        rcases hRW.out.two with ⟨h0, _⟩ | ⟨g', c', h0, _⟩
        · rw [hge] at h0; simp at h0
        · rw [hge] at h0; simp at h0; exact h0.1.2
      subst hge
      obtain ⟨x0, x1, x2, x3, x4, x5, x6, x7, x8, x9, x10, x11, x12⟩ := cellsOpF hgc X HXY.out.1
      obtain ⟨y0, y1, y2, y3, y4, y5, y6, y7, y8, y9, y10, y11, y12⟩ := cellsOpF hgc Y HXY.out.2
      simp only [Nat.zero_add] at x0 x1 x2 x3 x4 x5 x6 x7 x8 x9 x10 x11 x12 y0 y1 y2 y3 y4 y5 y6 y7 y8 y9 y10 y11 y12
      have HSW : Hid (((bl.set X bl[Y]!).set Y bl[X]!).Perm A) := Lib.hid ((swap_perm HXY.out.1 HXY.out.2).trans hMB.out)
      have HGE : Hid (w1.heap.size ≤ g) := Lib.hid (rowGe hRW.out rfl)
      clear hsx htc hsl hgc
      generalize bl[X]! = bx at *
      generalize bl[Y]! = bq at *
      go_wp2_with (((with_reducible refine wpList_store_op rfl _ _ rfl w1.heap.size g pc X bl bq (OpsRow.kept hRW.out ((Below.refl _ wr).alloc (Nat.le_refl _) _)) HXY.out.1 rfl rfl ?_); intro W1 hr1 hgr; have HR1 := Lib.hid hr1; have HG1 := Lib.hid hgr; have HXB : Hid (∀ W, Below W1.heap.size W1 W → (W.cell? ⟨wr.heap.size, 0, none⟩ = some (.int .i64 bx.stamp.t) ∧ W.cell? ⟨wr.heap.size, 1, none⟩ = some (.int .i64 bx.stamp.r) ∧ W.cell? ⟨wr.heap.size, 2, none⟩ = some (.int .i64 bx.kind) ∧ W.cell? ⟨wr.heap.size, 3, none⟩ = some (.int .i64 bx.at_.t) ∧ W.cell? ⟨wr.heap.size, 4, none⟩ = some (.int .i64 bx.at_.r) ∧ W.cell? ⟨wr.heap.size, 5, none⟩ = some (.int .i64 bx.ino.t) ∧ W.cell? ⟨wr.heap.size, 6, none⟩ = some (.int .i64 bx.ino.r) ∧ W.cell? ⟨wr.heap.size, 7, none⟩ = some (.int .i64 bx.to.t) ∧ W.cell? ⟨wr.heap.size, 8, none⟩ = some (.int .i64 bx.to.r) ∧ W.cell? ⟨wr.heap.size, 9, none⟩ = some (.string bx.name) ∧ W.cell? ⟨wr.heap.size, 10, none⟩ = some (.string bx.new) ∧ W.cell? ⟨wr.heap.size, 11, none⟩ = some (.int .i64 bx.off) ∧ W.cell? ⟨wr.heap.size, 12, none⟩ = some (.string bx.data) ∧ wr.heap.size < W.heap.size)) := Lib.hid (xbox hgr (fun e => by simp at e; omega)); clear hr1 hgr))
      refine region_tail 7 (by kernel_rfl) (by kernel_rfl) ?_
      simp only [List.take_succ_cons, List.take_zero, List.drop_succ_cons, List.drop_zero]
      intro W hcW hhW hNW
      have HNW := Lib.hid hNW.below
      obtain ⟨z0, z1, z2, z3, z4, z5, z6, z7, z8, z9, z10, z11, z12, _⟩ := HXB.out W HNW.out
      clear hcW hhW hNW
      repeat still_step
      refine wpStill_nil ?_
      go_wp2_with (((with_reducible refine wpList_store_op rfl _ _ rfl w1.heap.size g pc Y (bl.set X bq) bx (OpsRow.kept (by have h := HR1.out; unfold OpsRow at h ⊢; rw [List.length_set] at h ⊢; exact h) HNW.out) (by rw [List.length_set]; exact HXY.out.2) rfl rfl ?_); intro W2 hr2 hgr2; have HR2 := Lib.hid hr2; have HG2 := Lib.hid hgr2; clear hr2 hgr2))
      go_roundg (M - (i + 1))
      case measure => omega
      case rel => exact ⟨i + 1, (bl.set X bq).set Y bx, by first | rfl | go_num, by omega, by omega, by rw [List.length_set, List.length_set]; exact hbl, (show Aside _ from (id (α := OpsRow w1.heap.size (.slice (some ⟨g, 0, none⟩) ((bl.set X bq).set Y bx).length pc) ((bl.set X bq).set Y bx) W2) (by have h := HR2.out; simp only [List.length_set] at h ⊢; exact h))), (show Aside _ from HSW.out), (show Aside _ from ((hB.out.alloc hB.out.size _).trans (grownBy_below HG1.out (by have := hB.out.size; simp only [World.size_alloc]; omega) (fun k e => by cases e; exact HGE.out))).trans ((HNW.out.mono (by have := hB.out.size; have := HG1.out.size; simp only [World.size_alloc] at this; omega)).trans (grownBy_below HG2.out (by have := hB.out.size; have := HG1.out.size; have := HNW.out.size; simp only [World.size_alloc] at *; omega) (fun k e => by cases e; exact HGE.out))))⟩
    · have hex : (decide (i < tu.length) = false ∧ ¬ (i : Int) < (tu.length : Int)) ∨ (decide (i < tu.length) = true ∧ (i : Int) < (tu.length : Int) ∧ decide (i < 100) = false ∧ ¬ (i : Int) < 100) := by
        rcases hM with ⟨hM, hT⟩ | ⟨hM, hT⟩
        · exact .inl ⟨decide_eq_false (by omega), by omega⟩
        · exact .inr ⟨decide_eq_true (by omega), by omega, decide_eq_false (by omega), by omega⟩
      obtain ⟨ho, hg1, hg2⟩ := HLW.out bl hMB.out
      have HOPS := Lib.hid ho
      have HGB := Lib.hid hg1
      have HGA := Lib.hid hg2
      have HRB : Hid (OpsRow w1.heap.size (.slice pa A.length pc) bl wr) := Lib.hid (by rw [← hbl]; exact hRW.out)
      have HNB : Hid (∀ o ∈ bl, o.Small) := Lib.hid fun o ho => HNS.out o (hMB.out.mem_iff.1 ho)
      have HLB : Hid (bl.length ≤ 500) := Lib.hid (by first | omega | decide)
      have HLA : Hid (A.length ≤ 500) := Lib.hid (by first | omega | decide)
      have HBW : Hid (Below w.heap.size w wr) := Lib.hid (HB1.out.trans (hB.out.mono HB1.out.size))
      have HBx0 : Hid (Below wr.heap.size wr wr) := Lib.hid (Below.refl _ _)
      have HOK : Hid ((ofOps l).Ok) := Lib.hid (ofOps_ok l)
      have HSLr := Lib.hid (HS1.out wr HBW.out)
      have HSOL : Hid ((Lg.from Gr.new ⟨0, 0⟩ A).ops.length ≤ 1000) := Lib.hid (by rw [from_new]; have := sort_len A; show (sortOps A).length ≤ 1000; omega)
      have HMZ : Hid (mayB 0 0 = true) := Lib.hid rfl
      clear ho hg1 hg2 hRW hMB hB hlt
      rcases hex with ⟨d1, c1⟩ | ⟨d1, c1, d2, c2⟩
      all_goals
        go_wp2_with fail
        refine (new_g _).mono ?_
        rintro e x1 ⟨u1, rfl, ⟨g1, i1, e1, rfl, hG1, _, _, _⟩, hbx1⟩
        obtain ⟨hcx1, hfx1⟩ := bcell hbx1
        have hsx1 := hbx1.size
        try simp only [World.size_alloc] at hsx1
        try simp only [size_setCell'] at hsx1
        try have lex1_0 : wr.heap.size ≤ x1.heap.size := (by omega)
        try have ltx1_0 : wr.heap.size < x1.heap.size := (by omega)
        have HBx1 : Hid (Below wr.heap.size wr x1) := Lib.hid (Below.trans (by first | exact HBx0.out | exact HBx0.out.alloc HBx0.out.size _ | exact (HBx0.out.alloc HBx0.out.size _).alloc (le_al HBx0.out.size) _ | exact ((HBx0.out.alloc HBx0.out.size _).alloc (le_al HBx0.out.size) _).alloc (le_al (le_al HBx0.out.size)) _) (hbx1.mono (by (try simp only [World.size_alloc]); (try simp only [size_setCell']); omega)))
        have HNx1 := Lib.hid hbx1
        clear hbx1 hsx1
        have HG1 := Lib.hid hG1
        clear hG1
        go_wp2_with fail
        refine (sort_any _ l _ (HSLr.out.below HBx1.out) HSML.out (by have := HL6.out; omega)).mono ?_
        rintro e x2 ⟨u2, rfl, hr2, hbx2⟩
        obtain ⟨hcx2, hfx2⟩ := bcell hbx2
        have hsx2 := hbx2.size
        try simp only [World.size_alloc] at hsx2
        try simp only [size_setCell'] at hsx2
        try have lex2_0 : wr.heap.size ≤ x2.heap.size := (by omega)
        try have ltx2_0 : wr.heap.size < x2.heap.size := (by omega)
        try have lex2_1 : x1.heap.size ≤ x2.heap.size := (by omega)
        try have ltx2_1 : x1.heap.size < x2.heap.size := (by omega)
        have HBx2 : Hid (Below wr.heap.size wr x2) := Lib.hid (Below.trans (by first | exact HBx1.out | exact HBx1.out.alloc HBx1.out.size _ | exact (HBx1.out.alloc HBx1.out.size _).alloc (le_al HBx1.out.size) _ | exact ((HBx1.out.alloc HBx1.out.size _).alloc (le_al HBx1.out.size) _).alloc (le_al (le_al HBx1.out.size)) _ | exact HBx0.out | exact HBx0.out.alloc HBx0.out.size _ | exact (HBx0.out.alloc HBx0.out.size _).alloc (le_al HBx0.out.size) _ | exact ((HBx0.out.alloc HBx0.out.size _).alloc (le_al HBx0.out.size) _).alloc (le_al (le_al HBx0.out.size)) _) (hbx2.mono (by (try simp only [World.size_alloc]); (try simp only [size_setCell']); omega)))
        have HNx2 := Lib.hid hbx2
        clear hbx2 hsx2
        rw [← HA.out] at hr2
        have HS2r := Lib.hid hr2
        have HG1s := Lib.hid (HG1.out.below HNx2.out)
        obtain ⟨s2, z2, rfl⟩ := hr2.shape
        clear hr2
        go_wp2_with fail
        refine (from_any g1 i1 e1 Gr.new ⟨0, 0⟩ _ A x2 HG1s.out Gr.Ok.new Gr.Thin.new HMZ.out HS2r.out.sl HNS.out HLA.out).mono ?_
        rintro e x3 ⟨la, ga, aI, aE, rfl, hL3, hbx3⟩
        obtain ⟨hcx3, hfx3⟩ := bcell hbx3
        have hsx3 := hbx3.size
        try simp only [World.size_alloc] at hsx3
        try simp only [size_setCell'] at hsx3
        try have lex3_0 : wr.heap.size ≤ x3.heap.size := (by omega)
        try have ltx3_0 : wr.heap.size < x3.heap.size := (by omega)
        try have lex3_1 : x1.heap.size ≤ x3.heap.size := (by omega)
        try have ltx3_1 : x1.heap.size < x3.heap.size := (by omega)
        try have lex3_2 : x2.heap.size ≤ x3.heap.size := (by omega)
        try have ltx3_2 : x2.heap.size < x3.heap.size := (by omega)
        have HBx3 : Hid (Below wr.heap.size wr x3) := Lib.hid (Below.trans (by first | exact HBx2.out | exact HBx2.out.alloc HBx2.out.size _ | exact (HBx2.out.alloc HBx2.out.size _).alloc (le_al HBx2.out.size) _ | exact ((HBx2.out.alloc HBx2.out.size _).alloc (le_al HBx2.out.size) _).alloc (le_al (le_al HBx2.out.size)) _ | exact HBx1.out | exact HBx1.out.alloc HBx1.out.size _ | exact (HBx1.out.alloc HBx1.out.size _).alloc (le_al HBx1.out.size) _ | exact ((HBx1.out.alloc HBx1.out.size _).alloc (le_al HBx1.out.size) _).alloc (le_al (le_al HBx1.out.size)) _ | exact HBx0.out | exact HBx0.out.alloc HBx0.out.size _ | exact (HBx0.out.alloc HBx0.out.size _).alloc (le_al HBx0.out.size) _ | exact ((HBx0.out.alloc HBx0.out.size _).alloc (le_al HBx0.out.size) _).alloc (le_al (le_al HBx0.out.size)) _) (hbx3.mono (by (try simp only [World.size_alloc]); (try simp only [size_setCell']); omega)))
        have HNx3 := Lib.hid hbx3
        clear hbx3 hsx3
        have HLa := Lib.hid hL3
        clear hL3
        go_wp2_with fail
        refine (new_g _).mono ?_
        rintro e x4 ⟨u4, rfl, ⟨g4, i4, e4, rfl, hG4, _, _, _⟩, hbx4⟩
        obtain ⟨hcx4, hfx4⟩ := bcell hbx4
        have hsx4 := hbx4.size
        try simp only [World.size_alloc] at hsx4
        try simp only [size_setCell'] at hsx4
        try have lex4_0 : wr.heap.size ≤ x4.heap.size := (by omega)
        try have ltx4_0 : wr.heap.size < x4.heap.size := (by omega)
        try have lex4_1 : x1.heap.size ≤ x4.heap.size := (by omega)
        try have ltx4_1 : x1.heap.size < x4.heap.size := (by omega)
        try have lex4_2 : x2.heap.size ≤ x4.heap.size := (by omega)
        try have ltx4_2 : x2.heap.size < x4.heap.size := (by omega)
        try have lex4_3 : x3.heap.size ≤ x4.heap.size := (by omega)
        try have ltx4_3 : x3.heap.size < x4.heap.size := (by omega)
        have HBx4 : Hid (Below wr.heap.size wr x4) := Lib.hid (Below.trans (by first | exact HBx3.out | exact HBx3.out.alloc HBx3.out.size _ | exact (HBx3.out.alloc HBx3.out.size _).alloc (le_al HBx3.out.size) _ | exact ((HBx3.out.alloc HBx3.out.size _).alloc (le_al HBx3.out.size) _).alloc (le_al (le_al HBx3.out.size)) _ | exact HBx2.out | exact HBx2.out.alloc HBx2.out.size _ | exact (HBx2.out.alloc HBx2.out.size _).alloc (le_al HBx2.out.size) _ | exact ((HBx2.out.alloc HBx2.out.size _).alloc (le_al HBx2.out.size) _).alloc (le_al (le_al HBx2.out.size)) _ | exact HBx1.out | exact HBx1.out.alloc HBx1.out.size _ | exact (HBx1.out.alloc HBx1.out.size _).alloc (le_al HBx1.out.size) _ | exact ((HBx1.out.alloc HBx1.out.size _).alloc (le_al HBx1.out.size) _).alloc (le_al (le_al HBx1.out.size)) _ | exact HBx0.out | exact HBx0.out.alloc HBx0.out.size _ | exact (HBx0.out.alloc HBx0.out.size _).alloc (le_al HBx0.out.size) _ | exact ((HBx0.out.alloc HBx0.out.size _).alloc (le_al HBx0.out.size) _).alloc (le_al (le_al HBx0.out.size)) _) (hbx4.mono (by (try simp only [World.size_alloc]); (try simp only [size_setCell']); omega)))
        have HNx4 := Lib.hid hbx4
        clear hbx4 hsx4
        have HG4 := Lib.hid hG4
        have HLa4 := Lib.hid (HLa.out.below HNx4.out)
        clear hG4
        go_wp2_with fail
        refine (from_any g4 i4 e4 Gr.new ⟨0, 0⟩ _ bl x4 HG4.out Gr.Ok.new Gr.Thin.new HMZ.out (HRB.out.kept HBx4.out).sl HNB.out HLB.out).mono ?_
        rintro e x5 ⟨lb, gb, bI, bE, rfl, hL5, hbx5⟩
        obtain ⟨hcx5, hfx5⟩ := bcell hbx5
        have hsx5 := hbx5.size
        try simp only [World.size_alloc] at hsx5
        try simp only [size_setCell'] at hsx5
        try have lex5_0 : wr.heap.size ≤ x5.heap.size := (by omega)
        try have ltx5_0 : wr.heap.size < x5.heap.size := (by omega)
        try have lex5_1 : x1.heap.size ≤ x5.heap.size := (by omega)
        try have ltx5_1 : x1.heap.size < x5.heap.size := (by omega)
        try have lex5_2 : x2.heap.size ≤ x5.heap.size := (by omega)
        try have ltx5_2 : x2.heap.size < x5.heap.size := (by omega)
        try have lex5_3 : x3.heap.size ≤ x5.heap.size := (by omega)
        try have ltx5_3 : x3.heap.size < x5.heap.size := (by omega)
        try have lex5_4 : x4.heap.size ≤ x5.heap.size := (by omega)
        try have ltx5_4 : x4.heap.size < x5.heap.size := (by omega)
        have HBx5 : Hid (Below wr.heap.size wr x5) := Lib.hid (Below.trans (by first | exact HBx4.out | exact HBx4.out.alloc HBx4.out.size _ | exact (HBx4.out.alloc HBx4.out.size _).alloc (le_al HBx4.out.size) _ | exact ((HBx4.out.alloc HBx4.out.size _).alloc (le_al HBx4.out.size) _).alloc (le_al (le_al HBx4.out.size)) _ | exact HBx3.out | exact HBx3.out.alloc HBx3.out.size _ | exact (HBx3.out.alloc HBx3.out.size _).alloc (le_al HBx3.out.size) _ | exact ((HBx3.out.alloc HBx3.out.size _).alloc (le_al HBx3.out.size) _).alloc (le_al (le_al HBx3.out.size)) _ | exact HBx2.out | exact HBx2.out.alloc HBx2.out.size _ | exact (HBx2.out.alloc HBx2.out.size _).alloc (le_al HBx2.out.size) _ | exact ((HBx2.out.alloc HBx2.out.size _).alloc (le_al HBx2.out.size) _).alloc (le_al (le_al HBx2.out.size)) _ | exact HBx1.out | exact HBx1.out.alloc HBx1.out.size _ | exact (HBx1.out.alloc HBx1.out.size _).alloc (le_al HBx1.out.size) _ | exact ((HBx1.out.alloc HBx1.out.size _).alloc (le_al HBx1.out.size) _).alloc (le_al (le_al HBx1.out.size)) _ | exact HBx0.out | exact HBx0.out.alloc HBx0.out.size _ | exact (HBx0.out.alloc HBx0.out.size _).alloc (le_al HBx0.out.size) _ | exact ((HBx0.out.alloc HBx0.out.size _).alloc (le_al HBx0.out.size) _).alloc (le_al (le_al HBx0.out.size)) _) (hbx5.mono (by (try simp only [World.size_alloc]); (try simp only [size_setCell']); omega)))
        have HNx5 := Lib.hid hbx5
        clear hbx5 hsx5
        have HLb := Lib.hid hL5
        have HLa5 := Lib.hid (HLa4.out.below HNx5.out)
        clear hL5
        go_wp2_with fail
        refine (graph_l _ la ga aI aE _ x5 HLa5.out).mono ?_
        rintro e x6 ⟨u6, rfl, ⟨g6, i6, e6, rfl, hG6, _, _, _⟩, hbx6⟩
        obtain ⟨hcx6, hfx6⟩ := bcell hbx6
        have hsx6 := hbx6.size
        try simp only [World.size_alloc] at hsx6
        try simp only [size_setCell'] at hsx6
        try have lex6_0 : wr.heap.size ≤ x6.heap.size := (by omega)
        try have ltx6_0 : wr.heap.size < x6.heap.size := (by omega)
        try have lex6_1 : x1.heap.size ≤ x6.heap.size := (by omega)
        try have ltx6_1 : x1.heap.size < x6.heap.size := (by omega)
        try have lex6_2 : x2.heap.size ≤ x6.heap.size := (by omega)
        try have ltx6_2 : x2.heap.size < x6.heap.size := (by omega)
        try have lex6_3 : x3.heap.size ≤ x6.heap.size := (by omega)
        try have ltx6_3 : x3.heap.size < x6.heap.size := (by omega)
        try have lex6_4 : x4.heap.size ≤ x6.heap.size := (by omega)
        try have ltx6_4 : x4.heap.size < x6.heap.size := (by omega)
        try have lex6_5 : x5.heap.size ≤ x6.heap.size := (by omega)
        try have ltx6_5 : x5.heap.size < x6.heap.size := (by omega)
        have HBx6 : Hid (Below wr.heap.size wr x6) := Lib.hid (Below.trans (by first | exact HBx5.out | exact HBx5.out.alloc HBx5.out.size _ | exact (HBx5.out.alloc HBx5.out.size _).alloc (le_al HBx5.out.size) _ | exact ((HBx5.out.alloc HBx5.out.size _).alloc (le_al HBx5.out.size) _).alloc (le_al (le_al HBx5.out.size)) _ | exact HBx4.out | exact HBx4.out.alloc HBx4.out.size _ | exact (HBx4.out.alloc HBx4.out.size _).alloc (le_al HBx4.out.size) _ | exact ((HBx4.out.alloc HBx4.out.size _).alloc (le_al HBx4.out.size) _).alloc (le_al (le_al HBx4.out.size)) _ | exact HBx3.out | exact HBx3.out.alloc HBx3.out.size _ | exact (HBx3.out.alloc HBx3.out.size _).alloc (le_al HBx3.out.size) _ | exact ((HBx3.out.alloc HBx3.out.size _).alloc (le_al HBx3.out.size) _).alloc (le_al (le_al HBx3.out.size)) _ | exact HBx2.out | exact HBx2.out.alloc HBx2.out.size _ | exact (HBx2.out.alloc HBx2.out.size _).alloc (le_al HBx2.out.size) _ | exact ((HBx2.out.alloc HBx2.out.size _).alloc (le_al HBx2.out.size) _).alloc (le_al (le_al HBx2.out.size)) _ | exact HBx1.out | exact HBx1.out.alloc HBx1.out.size _ | exact (HBx1.out.alloc HBx1.out.size _).alloc (le_al HBx1.out.size) _ | exact ((HBx1.out.alloc HBx1.out.size _).alloc (le_al HBx1.out.size) _).alloc (le_al (le_al HBx1.out.size)) _ | exact HBx0.out | exact HBx0.out.alloc HBx0.out.size _ | exact (HBx0.out.alloc HBx0.out.size _).alloc (le_al HBx0.out.size) _ | exact ((HBx0.out.alloc HBx0.out.size _).alloc (le_al HBx0.out.size) _).alloc (le_al (le_al HBx0.out.size)) _) (hbx6.mono (by (try simp only [World.size_alloc]); (try simp only [size_setCell']); omega)))
        have HNx6 := Lib.hid hbx6
        clear hbx6 hsx6
        rw [HGA.out] at hG6
        have HG6 := Lib.hid (hG6.reads HOK.out (by have := HOK.out.few; omega))
        have HLb6 := Lib.hid (HLb.out.below HNx6.out)
        have HLa6 := Lib.hid (HLa5.out.below HNx6.out)
        clear hG6
        go_wp2_with fail
        refine (graph_l _ lb gb bI bE _ x6 HLb6.out).mono ?_
        rintro e x7 ⟨u7, rfl, ⟨g7, i7, e7, rfl, hG7, _, _, _⟩, hbx7⟩
        obtain ⟨hcx7, hfx7⟩ := bcell hbx7
        have hsx7 := hbx7.size
        try simp only [World.size_alloc] at hsx7
        try simp only [size_setCell'] at hsx7
        try have lex7_0 : wr.heap.size ≤ x7.heap.size := (by omega)
        try have ltx7_0 : wr.heap.size < x7.heap.size := (by omega)
        try have lex7_1 : x1.heap.size ≤ x7.heap.size := (by omega)
        try have ltx7_1 : x1.heap.size < x7.heap.size := (by omega)
        try have lex7_2 : x2.heap.size ≤ x7.heap.size := (by omega)
        try have ltx7_2 : x2.heap.size < x7.heap.size := (by omega)
        try have lex7_3 : x3.heap.size ≤ x7.heap.size := (by omega)
        try have ltx7_3 : x3.heap.size < x7.heap.size := (by omega)
        try have lex7_4 : x4.heap.size ≤ x7.heap.size := (by omega)
        try have ltx7_4 : x4.heap.size < x7.heap.size := (by omega)
        try have lex7_5 : x5.heap.size ≤ x7.heap.size := (by omega)
        try have ltx7_5 : x5.heap.size < x7.heap.size := (by omega)
        try have lex7_6 : x6.heap.size ≤ x7.heap.size := (by omega)
        try have ltx7_6 : x6.heap.size < x7.heap.size := (by omega)
        have HBx7 : Hid (Below wr.heap.size wr x7) := Lib.hid (Below.trans (by first | exact HBx6.out | exact HBx6.out.alloc HBx6.out.size _ | exact (HBx6.out.alloc HBx6.out.size _).alloc (le_al HBx6.out.size) _ | exact ((HBx6.out.alloc HBx6.out.size _).alloc (le_al HBx6.out.size) _).alloc (le_al (le_al HBx6.out.size)) _ | exact HBx5.out | exact HBx5.out.alloc HBx5.out.size _ | exact (HBx5.out.alloc HBx5.out.size _).alloc (le_al HBx5.out.size) _ | exact ((HBx5.out.alloc HBx5.out.size _).alloc (le_al HBx5.out.size) _).alloc (le_al (le_al HBx5.out.size)) _ | exact HBx4.out | exact HBx4.out.alloc HBx4.out.size _ | exact (HBx4.out.alloc HBx4.out.size _).alloc (le_al HBx4.out.size) _ | exact ((HBx4.out.alloc HBx4.out.size _).alloc (le_al HBx4.out.size) _).alloc (le_al (le_al HBx4.out.size)) _ | exact HBx3.out | exact HBx3.out.alloc HBx3.out.size _ | exact (HBx3.out.alloc HBx3.out.size _).alloc (le_al HBx3.out.size) _ | exact ((HBx3.out.alloc HBx3.out.size _).alloc (le_al HBx3.out.size) _).alloc (le_al (le_al HBx3.out.size)) _ | exact HBx2.out | exact HBx2.out.alloc HBx2.out.size _ | exact (HBx2.out.alloc HBx2.out.size _).alloc (le_al HBx2.out.size) _ | exact ((HBx2.out.alloc HBx2.out.size _).alloc (le_al HBx2.out.size) _).alloc (le_al (le_al HBx2.out.size)) _ | exact HBx1.out | exact HBx1.out.alloc HBx1.out.size _ | exact (HBx1.out.alloc HBx1.out.size _).alloc (le_al HBx1.out.size) _ | exact ((HBx1.out.alloc HBx1.out.size _).alloc (le_al HBx1.out.size) _).alloc (le_al (le_al HBx1.out.size)) _ | exact HBx0.out | exact HBx0.out.alloc HBx0.out.size _ | exact (HBx0.out.alloc HBx0.out.size _).alloc (le_al HBx0.out.size) _ | exact ((HBx0.out.alloc HBx0.out.size _).alloc (le_al HBx0.out.size) _).alloc (le_al (le_al HBx0.out.size)) _) (hbx7.mono (by (try simp only [World.size_alloc]); (try simp only [size_setCell']); omega)))
        have HNx7 := Lib.hid hbx7
        clear hbx7 hsx7
        rw [HGB.out] at hG7
        have HG7 := Lib.hid (hG7.reads HOK.out (by have := HOK.out.few; omega))
        have HLb7 := Lib.hid (HLb6.out.below HNx7.out)
        have HLa7 := Lib.hid (HLa6.out.below HNx7.out)
        have HG6s := Lib.hid (HG6.out.below HNx7.out)
        clear hG7
        go_wp2_with fail
        refine (same_any g6 g7 _ x7 HOK.out HG6s.out HG7.out).mono ?_
        rintro e x8 ⟨rfl, hbx8⟩
        obtain ⟨hcx8, hfx8⟩ := bcell hbx8
        have hsx8 := hbx8.size
        try simp only [World.size_alloc] at hsx8
        try simp only [size_setCell'] at hsx8
        try have lex8_0 : wr.heap.size ≤ x8.heap.size := (by omega)
        try have ltx8_0 : wr.heap.size < x8.heap.size := (by omega)
        try have lex8_1 : x1.heap.size ≤ x8.heap.size := (by omega)
        try have ltx8_1 : x1.heap.size < x8.heap.size := (by omega)
        try have lex8_2 : x2.heap.size ≤ x8.heap.size := (by omega)
        try have ltx8_2 : x2.heap.size < x8.heap.size := (by omega)
        try have lex8_3 : x3.heap.size ≤ x8.heap.size := (by omega)
        try have ltx8_3 : x3.heap.size < x8.heap.size := (by omega)
        try have lex8_4 : x4.heap.size ≤ x8.heap.size := (by omega)
        try have ltx8_4 : x4.heap.size < x8.heap.size := (by omega)
        try have lex8_5 : x5.heap.size ≤ x8.heap.size := (by omega)
        try have ltx8_5 : x5.heap.size < x8.heap.size := (by omega)
        try have lex8_6 : x6.heap.size ≤ x8.heap.size := (by omega)
        try have ltx8_6 : x6.heap.size < x8.heap.size := (by omega)
        try have lex8_7 : x7.heap.size ≤ x8.heap.size := (by omega)
        try have ltx8_7 : x7.heap.size < x8.heap.size := (by omega)
        have HBx8 : Hid (Below wr.heap.size wr x8) := Lib.hid (Below.trans (by first | exact HBx7.out | exact HBx7.out.alloc HBx7.out.size _ | exact (HBx7.out.alloc HBx7.out.size _).alloc (le_al HBx7.out.size) _ | exact ((HBx7.out.alloc HBx7.out.size _).alloc (le_al HBx7.out.size) _).alloc (le_al (le_al HBx7.out.size)) _ | exact HBx6.out | exact HBx6.out.alloc HBx6.out.size _ | exact (HBx6.out.alloc HBx6.out.size _).alloc (le_al HBx6.out.size) _ | exact ((HBx6.out.alloc HBx6.out.size _).alloc (le_al HBx6.out.size) _).alloc (le_al (le_al HBx6.out.size)) _ | exact HBx5.out | exact HBx5.out.alloc HBx5.out.size _ | exact (HBx5.out.alloc HBx5.out.size _).alloc (le_al HBx5.out.size) _ | exact ((HBx5.out.alloc HBx5.out.size _).alloc (le_al HBx5.out.size) _).alloc (le_al (le_al HBx5.out.size)) _ | exact HBx4.out | exact HBx4.out.alloc HBx4.out.size _ | exact (HBx4.out.alloc HBx4.out.size _).alloc (le_al HBx4.out.size) _ | exact ((HBx4.out.alloc HBx4.out.size _).alloc (le_al HBx4.out.size) _).alloc (le_al (le_al HBx4.out.size)) _ | exact HBx3.out | exact HBx3.out.alloc HBx3.out.size _ | exact (HBx3.out.alloc HBx3.out.size _).alloc (le_al HBx3.out.size) _ | exact ((HBx3.out.alloc HBx3.out.size _).alloc (le_al HBx3.out.size) _).alloc (le_al (le_al HBx3.out.size)) _ | exact HBx2.out | exact HBx2.out.alloc HBx2.out.size _ | exact (HBx2.out.alloc HBx2.out.size _).alloc (le_al HBx2.out.size) _ | exact ((HBx2.out.alloc HBx2.out.size _).alloc (le_al HBx2.out.size) _).alloc (le_al (le_al HBx2.out.size)) _ | exact HBx1.out | exact HBx1.out.alloc HBx1.out.size _ | exact (HBx1.out.alloc HBx1.out.size _).alloc (le_al HBx1.out.size) _ | exact ((HBx1.out.alloc HBx1.out.size _).alloc (le_al HBx1.out.size) _).alloc (le_al (le_al HBx1.out.size)) _ | exact HBx0.out | exact HBx0.out.alloc HBx0.out.size _ | exact (HBx0.out.alloc HBx0.out.size _).alloc (le_al HBx0.out.size) _ | exact ((HBx0.out.alloc HBx0.out.size _).alloc (le_al HBx0.out.size) _).alloc (le_al (le_al HBx0.out.size)) _) (hbx8.mono (by (try simp only [World.size_alloc]); (try simp only [size_setCell']); omega)))
        have HNx8 := Lib.hid hbx8
        clear hbx8 hsx8
        have HLb8 := Lib.hid (HLb7.out.below HNx8.out)
        have HLa8 := Lib.hid (HLa7.out.below HNx8.out)
        go_wp2_with fail
        refine (ops_l _ la ga aI aE _ x8 HLa8.out).mono ?_
        rintro e x9 ⟨u9, rfl, hr9, hbx9⟩
        obtain ⟨hcx9, hfx9⟩ := bcell hbx9
        have hsx9 := hbx9.size
        try simp only [World.size_alloc] at hsx9
        try simp only [size_setCell'] at hsx9
        try have lex9_0 : wr.heap.size ≤ x9.heap.size := (by omega)
        try have ltx9_0 : wr.heap.size < x9.heap.size := (by omega)
        try have lex9_1 : x1.heap.size ≤ x9.heap.size := (by omega)
        try have ltx9_1 : x1.heap.size < x9.heap.size := (by omega)
        try have lex9_2 : x2.heap.size ≤ x9.heap.size := (by omega)
        try have ltx9_2 : x2.heap.size < x9.heap.size := (by omega)
        try have lex9_3 : x3.heap.size ≤ x9.heap.size := (by omega)
        try have ltx9_3 : x3.heap.size < x9.heap.size := (by omega)
        try have lex9_4 : x4.heap.size ≤ x9.heap.size := (by omega)
        try have ltx9_4 : x4.heap.size < x9.heap.size := (by omega)
        try have lex9_5 : x5.heap.size ≤ x9.heap.size := (by omega)
        try have ltx9_5 : x5.heap.size < x9.heap.size := (by omega)
        try have lex9_6 : x6.heap.size ≤ x9.heap.size := (by omega)
        try have ltx9_6 : x6.heap.size < x9.heap.size := (by omega)
        try have lex9_7 : x7.heap.size ≤ x9.heap.size := (by omega)
        try have ltx9_7 : x7.heap.size < x9.heap.size := (by omega)
        try have lex9_8 : x8.heap.size ≤ x9.heap.size := (by omega)
        try have ltx9_8 : x8.heap.size < x9.heap.size := (by omega)
        have HBx9 : Hid (Below wr.heap.size wr x9) := Lib.hid (Below.trans (by first | exact HBx8.out | exact HBx8.out.alloc HBx8.out.size _ | exact (HBx8.out.alloc HBx8.out.size _).alloc (le_al HBx8.out.size) _ | exact ((HBx8.out.alloc HBx8.out.size _).alloc (le_al HBx8.out.size) _).alloc (le_al (le_al HBx8.out.size)) _ | exact HBx7.out | exact HBx7.out.alloc HBx7.out.size _ | exact (HBx7.out.alloc HBx7.out.size _).alloc (le_al HBx7.out.size) _ | exact ((HBx7.out.alloc HBx7.out.size _).alloc (le_al HBx7.out.size) _).alloc (le_al (le_al HBx7.out.size)) _ | exact HBx6.out | exact HBx6.out.alloc HBx6.out.size _ | exact (HBx6.out.alloc HBx6.out.size _).alloc (le_al HBx6.out.size) _ | exact ((HBx6.out.alloc HBx6.out.size _).alloc (le_al HBx6.out.size) _).alloc (le_al (le_al HBx6.out.size)) _ | exact HBx5.out | exact HBx5.out.alloc HBx5.out.size _ | exact (HBx5.out.alloc HBx5.out.size _).alloc (le_al HBx5.out.size) _ | exact ((HBx5.out.alloc HBx5.out.size _).alloc (le_al HBx5.out.size) _).alloc (le_al (le_al HBx5.out.size)) _ | exact HBx4.out | exact HBx4.out.alloc HBx4.out.size _ | exact (HBx4.out.alloc HBx4.out.size _).alloc (le_al HBx4.out.size) _ | exact ((HBx4.out.alloc HBx4.out.size _).alloc (le_al HBx4.out.size) _).alloc (le_al (le_al HBx4.out.size)) _ | exact HBx3.out | exact HBx3.out.alloc HBx3.out.size _ | exact (HBx3.out.alloc HBx3.out.size _).alloc (le_al HBx3.out.size) _ | exact ((HBx3.out.alloc HBx3.out.size _).alloc (le_al HBx3.out.size) _).alloc (le_al (le_al HBx3.out.size)) _ | exact HBx2.out | exact HBx2.out.alloc HBx2.out.size _ | exact (HBx2.out.alloc HBx2.out.size _).alloc (le_al HBx2.out.size) _ | exact ((HBx2.out.alloc HBx2.out.size _).alloc (le_al HBx2.out.size) _).alloc (le_al (le_al HBx2.out.size)) _ | exact HBx1.out | exact HBx1.out.alloc HBx1.out.size _ | exact (HBx1.out.alloc HBx1.out.size _).alloc (le_al HBx1.out.size) _ | exact ((HBx1.out.alloc HBx1.out.size _).alloc (le_al HBx1.out.size) _).alloc (le_al (le_al HBx1.out.size)) _ | exact HBx0.out | exact HBx0.out.alloc HBx0.out.size _ | exact (HBx0.out.alloc HBx0.out.size _).alloc (le_al HBx0.out.size) _ | exact ((HBx0.out.alloc HBx0.out.size _).alloc (le_al HBx0.out.size) _).alloc (le_al (le_al HBx0.out.size)) _) (hbx9.mono (by (try simp only [World.size_alloc]); (try simp only [size_setCell']); omega)))
        have HNx9 := Lib.hid hbx9
        clear hbx9 hsx9
        have HR9 := Lib.hid hr9
        obtain ⟨s9, z9, rfl⟩ := hr9.shape
        have HLb9 := Lib.hid (HLb8.out.below HNx9.out)
        have HLa9 := Lib.hid (HLa8.out.below HNx9.out)
        clear hr9
        go_wp2_with fail
        refine (ops_l _ lb gb bI bE _ x9 HLb9.out).mono ?_
        rintro e x10 ⟨u10, rfl, hr10, hbx10⟩
        obtain ⟨hcx10, hfx10⟩ := bcell hbx10
        have hsx10 := hbx10.size
        try simp only [World.size_alloc] at hsx10
        try simp only [size_setCell'] at hsx10
        try have lex10_0 : wr.heap.size ≤ x10.heap.size := (by omega)
        try have ltx10_0 : wr.heap.size < x10.heap.size := (by omega)
        try have lex10_1 : x1.heap.size ≤ x10.heap.size := (by omega)
        try have ltx10_1 : x1.heap.size < x10.heap.size := (by omega)
        try have lex10_2 : x2.heap.size ≤ x10.heap.size := (by omega)
        try have ltx10_2 : x2.heap.size < x10.heap.size := (by omega)
        try have lex10_3 : x3.heap.size ≤ x10.heap.size := (by omega)
        try have ltx10_3 : x3.heap.size < x10.heap.size := (by omega)
        try have lex10_4 : x4.heap.size ≤ x10.heap.size := (by omega)
        try have ltx10_4 : x4.heap.size < x10.heap.size := (by omega)
        try have lex10_5 : x5.heap.size ≤ x10.heap.size := (by omega)
        try have ltx10_5 : x5.heap.size < x10.heap.size := (by omega)
        try have lex10_6 : x6.heap.size ≤ x10.heap.size := (by omega)
        try have ltx10_6 : x6.heap.size < x10.heap.size := (by omega)
        try have lex10_7 : x7.heap.size ≤ x10.heap.size := (by omega)
        try have ltx10_7 : x7.heap.size < x10.heap.size := (by omega)
        try have lex10_8 : x8.heap.size ≤ x10.heap.size := (by omega)
        try have ltx10_8 : x8.heap.size < x10.heap.size := (by omega)
        try have lex10_9 : x9.heap.size ≤ x10.heap.size := (by omega)
        try have ltx10_9 : x9.heap.size < x10.heap.size := (by omega)
        have HBx10 : Hid (Below wr.heap.size wr x10) := Lib.hid (Below.trans (by first | exact HBx9.out | exact HBx9.out.alloc HBx9.out.size _ | exact (HBx9.out.alloc HBx9.out.size _).alloc (le_al HBx9.out.size) _ | exact ((HBx9.out.alloc HBx9.out.size _).alloc (le_al HBx9.out.size) _).alloc (le_al (le_al HBx9.out.size)) _ | exact HBx8.out | exact HBx8.out.alloc HBx8.out.size _ | exact (HBx8.out.alloc HBx8.out.size _).alloc (le_al HBx8.out.size) _ | exact ((HBx8.out.alloc HBx8.out.size _).alloc (le_al HBx8.out.size) _).alloc (le_al (le_al HBx8.out.size)) _ | exact HBx7.out | exact HBx7.out.alloc HBx7.out.size _ | exact (HBx7.out.alloc HBx7.out.size _).alloc (le_al HBx7.out.size) _ | exact ((HBx7.out.alloc HBx7.out.size _).alloc (le_al HBx7.out.size) _).alloc (le_al (le_al HBx7.out.size)) _ | exact HBx6.out | exact HBx6.out.alloc HBx6.out.size _ | exact (HBx6.out.alloc HBx6.out.size _).alloc (le_al HBx6.out.size) _ | exact ((HBx6.out.alloc HBx6.out.size _).alloc (le_al HBx6.out.size) _).alloc (le_al (le_al HBx6.out.size)) _ | exact HBx5.out | exact HBx5.out.alloc HBx5.out.size _ | exact (HBx5.out.alloc HBx5.out.size _).alloc (le_al HBx5.out.size) _ | exact ((HBx5.out.alloc HBx5.out.size _).alloc (le_al HBx5.out.size) _).alloc (le_al (le_al HBx5.out.size)) _ | exact HBx4.out | exact HBx4.out.alloc HBx4.out.size _ | exact (HBx4.out.alloc HBx4.out.size _).alloc (le_al HBx4.out.size) _ | exact ((HBx4.out.alloc HBx4.out.size _).alloc (le_al HBx4.out.size) _).alloc (le_al (le_al HBx4.out.size)) _ | exact HBx3.out | exact HBx3.out.alloc HBx3.out.size _ | exact (HBx3.out.alloc HBx3.out.size _).alloc (le_al HBx3.out.size) _ | exact ((HBx3.out.alloc HBx3.out.size _).alloc (le_al HBx3.out.size) _).alloc (le_al (le_al HBx3.out.size)) _ | exact HBx2.out | exact HBx2.out.alloc HBx2.out.size _ | exact (HBx2.out.alloc HBx2.out.size _).alloc (le_al HBx2.out.size) _ | exact ((HBx2.out.alloc HBx2.out.size _).alloc (le_al HBx2.out.size) _).alloc (le_al (le_al HBx2.out.size)) _ | exact HBx1.out | exact HBx1.out.alloc HBx1.out.size _ | exact (HBx1.out.alloc HBx1.out.size _).alloc (le_al HBx1.out.size) _ | exact ((HBx1.out.alloc HBx1.out.size _).alloc (le_al HBx1.out.size) _).alloc (le_al (le_al HBx1.out.size)) _) (hbx10.mono (by (try simp only [World.size_alloc]); (try simp only [size_setCell']); omega)))
        have HNx10 := Lib.hid hbx10
        clear hbx10 hsx10
        rw [HOPS.out] at hr10
        have HR10 := Lib.hid hr10
        obtain ⟨s10, z10, rfl⟩ := hr10.shape
        have HR9s := Lib.hid (HR9.out.kept HNx10.out)
        have HLa10 := Lib.hid (HLa9.out.below HNx10.out)
        clear hr10
        go_wp2_with fail
        refine (L13.ops_same _ _ _ x10 HR9s.out.sl HR10.out.sl HSOL.out).mono ?_
        rintro e x11 ⟨rfl, hbx11⟩
        obtain ⟨hcx11, hfx11⟩ := bcell hbx11
        have hsx11 := hbx11.size
        try simp only [World.size_alloc] at hsx11
        try simp only [size_setCell'] at hsx11
        try have lex11_0 : wr.heap.size ≤ x11.heap.size := (by omega)
        try have ltx11_0 : wr.heap.size < x11.heap.size := (by omega)
        try have lex11_1 : x1.heap.size ≤ x11.heap.size := (by omega)
        try have ltx11_1 : x1.heap.size < x11.heap.size := (by omega)
        try have lex11_2 : x2.heap.size ≤ x11.heap.size := (by omega)
        try have ltx11_2 : x2.heap.size < x11.heap.size := (by omega)
        try have lex11_3 : x3.heap.size ≤ x11.heap.size := (by omega)
        try have ltx11_3 : x3.heap.size < x11.heap.size := (by omega)
        try have lex11_4 : x4.heap.size ≤ x11.heap.size := (by omega)
        try have ltx11_4 : x4.heap.size < x11.heap.size := (by omega)
        try have lex11_5 : x5.heap.size ≤ x11.heap.size := (by omega)
        try have ltx11_5 : x5.heap.size < x11.heap.size := (by omega)
        try have lex11_6 : x6.heap.size ≤ x11.heap.size := (by omega)
        try have ltx11_6 : x6.heap.size < x11.heap.size := (by omega)
        try have lex11_7 : x7.heap.size ≤ x11.heap.size := (by omega)
        try have ltx11_7 : x7.heap.size < x11.heap.size := (by omega)
        try have lex11_8 : x8.heap.size ≤ x11.heap.size := (by omega)
        try have ltx11_8 : x8.heap.size < x11.heap.size := (by omega)
        try have lex11_9 : x9.heap.size ≤ x11.heap.size := (by omega)
        try have ltx11_9 : x9.heap.size < x11.heap.size := (by omega)
        try have lex11_10 : x10.heap.size ≤ x11.heap.size := (by omega)
        try have ltx11_10 : x10.heap.size < x11.heap.size := (by omega)
        have HBx11 : Hid (Below wr.heap.size wr x11) := Lib.hid (Below.trans (by first | exact HBx10.out | exact HBx10.out.alloc HBx10.out.size _ | exact (HBx10.out.alloc HBx10.out.size _).alloc (le_al HBx10.out.size) _ | exact ((HBx10.out.alloc HBx10.out.size _).alloc (le_al HBx10.out.size) _).alloc (le_al (le_al HBx10.out.size)) _ | exact HBx9.out | exact HBx9.out.alloc HBx9.out.size _ | exact (HBx9.out.alloc HBx9.out.size _).alloc (le_al HBx9.out.size) _ | exact ((HBx9.out.alloc HBx9.out.size _).alloc (le_al HBx9.out.size) _).alloc (le_al (le_al HBx9.out.size)) _ | exact HBx8.out | exact HBx8.out.alloc HBx8.out.size _ | exact (HBx8.out.alloc HBx8.out.size _).alloc (le_al HBx8.out.size) _ | exact ((HBx8.out.alloc HBx8.out.size _).alloc (le_al HBx8.out.size) _).alloc (le_al (le_al HBx8.out.size)) _ | exact HBx7.out | exact HBx7.out.alloc HBx7.out.size _ | exact (HBx7.out.alloc HBx7.out.size _).alloc (le_al HBx7.out.size) _ | exact ((HBx7.out.alloc HBx7.out.size _).alloc (le_al HBx7.out.size) _).alloc (le_al (le_al HBx7.out.size)) _ | exact HBx6.out | exact HBx6.out.alloc HBx6.out.size _ | exact (HBx6.out.alloc HBx6.out.size _).alloc (le_al HBx6.out.size) _ | exact ((HBx6.out.alloc HBx6.out.size _).alloc (le_al HBx6.out.size) _).alloc (le_al (le_al HBx6.out.size)) _ | exact HBx5.out | exact HBx5.out.alloc HBx5.out.size _ | exact (HBx5.out.alloc HBx5.out.size _).alloc (le_al HBx5.out.size) _ | exact ((HBx5.out.alloc HBx5.out.size _).alloc (le_al HBx5.out.size) _).alloc (le_al (le_al HBx5.out.size)) _ | exact HBx4.out | exact HBx4.out.alloc HBx4.out.size _ | exact (HBx4.out.alloc HBx4.out.size _).alloc (le_al HBx4.out.size) _ | exact ((HBx4.out.alloc HBx4.out.size _).alloc (le_al HBx4.out.size) _).alloc (le_al (le_al HBx4.out.size)) _ | exact HBx3.out | exact HBx3.out.alloc HBx3.out.size _ | exact (HBx3.out.alloc HBx3.out.size _).alloc (le_al HBx3.out.size) _ | exact ((HBx3.out.alloc HBx3.out.size _).alloc (le_al HBx3.out.size) _).alloc (le_al (le_al HBx3.out.size)) _ | exact HBx2.out | exact HBx2.out.alloc HBx2.out.size _ | exact (HBx2.out.alloc HBx2.out.size _).alloc (le_al HBx2.out.size) _ | exact ((HBx2.out.alloc HBx2.out.size _).alloc (le_al HBx2.out.size) _).alloc (le_al (le_al HBx2.out.size)) _) (hbx11.mono (by (try simp only [World.size_alloc]); (try simp only [size_setCell']); omega)))
        have HNx11 := Lib.hid hbx11
        clear hbx11 hsx11
        have HLa11 := Lib.hid (HLa10.out.below HNx11.out)
        go_wp2_with fail
        refine (graph_l _ la ga aI aE _ x11 HLa11.out).mono ?_
        rintro e x12 ⟨u12, rfl, ⟨g12, i12, e12, rfl, hG12, _, _, _⟩, hbx12⟩
        obtain ⟨hcx12, hfx12⟩ := bcell hbx12
        have hsx12 := hbx12.size
        try simp only [World.size_alloc] at hsx12
        try simp only [size_setCell'] at hsx12
        try have lex12_0 : wr.heap.size ≤ x12.heap.size := (by omega)
        try have ltx12_0 : wr.heap.size < x12.heap.size := (by omega)
        try have lex12_1 : x1.heap.size ≤ x12.heap.size := (by omega)
        try have ltx12_1 : x1.heap.size < x12.heap.size := (by omega)
        try have lex12_2 : x2.heap.size ≤ x12.heap.size := (by omega)
        try have ltx12_2 : x2.heap.size < x12.heap.size := (by omega)
        try have lex12_3 : x3.heap.size ≤ x12.heap.size := (by omega)
        try have ltx12_3 : x3.heap.size < x12.heap.size := (by omega)
        try have lex12_4 : x4.heap.size ≤ x12.heap.size := (by omega)
        try have ltx12_4 : x4.heap.size < x12.heap.size := (by omega)
        try have lex12_5 : x5.heap.size ≤ x12.heap.size := (by omega)
        try have ltx12_5 : x5.heap.size < x12.heap.size := (by omega)
        try have lex12_6 : x6.heap.size ≤ x12.heap.size := (by omega)
        try have ltx12_6 : x6.heap.size < x12.heap.size := (by omega)
        try have lex12_7 : x7.heap.size ≤ x12.heap.size := (by omega)
        try have ltx12_7 : x7.heap.size < x12.heap.size := (by omega)
        try have lex12_8 : x8.heap.size ≤ x12.heap.size := (by omega)
        try have ltx12_8 : x8.heap.size < x12.heap.size := (by omega)
        try have lex12_9 : x9.heap.size ≤ x12.heap.size := (by omega)
        try have ltx12_9 : x9.heap.size < x12.heap.size := (by omega)
        try have lex12_10 : x10.heap.size ≤ x12.heap.size := (by omega)
        try have ltx12_10 : x10.heap.size < x12.heap.size := (by omega)
        try have lex12_11 : x11.heap.size ≤ x12.heap.size := (by omega)
        try have ltx12_11 : x11.heap.size < x12.heap.size := (by omega)
        have HBx12 : Hid (Below wr.heap.size wr x12) := Lib.hid (Below.trans (by first | exact HBx11.out | exact HBx11.out.alloc HBx11.out.size _ | exact (HBx11.out.alloc HBx11.out.size _).alloc (le_al HBx11.out.size) _ | exact ((HBx11.out.alloc HBx11.out.size _).alloc (le_al HBx11.out.size) _).alloc (le_al (le_al HBx11.out.size)) _ | exact HBx10.out | exact HBx10.out.alloc HBx10.out.size _ | exact (HBx10.out.alloc HBx10.out.size _).alloc (le_al HBx10.out.size) _ | exact ((HBx10.out.alloc HBx10.out.size _).alloc (le_al HBx10.out.size) _).alloc (le_al (le_al HBx10.out.size)) _ | exact HBx9.out | exact HBx9.out.alloc HBx9.out.size _ | exact (HBx9.out.alloc HBx9.out.size _).alloc (le_al HBx9.out.size) _ | exact ((HBx9.out.alloc HBx9.out.size _).alloc (le_al HBx9.out.size) _).alloc (le_al (le_al HBx9.out.size)) _ | exact HBx8.out | exact HBx8.out.alloc HBx8.out.size _ | exact (HBx8.out.alloc HBx8.out.size _).alloc (le_al HBx8.out.size) _ | exact ((HBx8.out.alloc HBx8.out.size _).alloc (le_al HBx8.out.size) _).alloc (le_al (le_al HBx8.out.size)) _ | exact HBx7.out | exact HBx7.out.alloc HBx7.out.size _ | exact (HBx7.out.alloc HBx7.out.size _).alloc (le_al HBx7.out.size) _ | exact ((HBx7.out.alloc HBx7.out.size _).alloc (le_al HBx7.out.size) _).alloc (le_al (le_al HBx7.out.size)) _ | exact HBx6.out | exact HBx6.out.alloc HBx6.out.size _ | exact (HBx6.out.alloc HBx6.out.size _).alloc (le_al HBx6.out.size) _ | exact ((HBx6.out.alloc HBx6.out.size _).alloc (le_al HBx6.out.size) _).alloc (le_al (le_al HBx6.out.size)) _ | exact HBx5.out | exact HBx5.out.alloc HBx5.out.size _ | exact (HBx5.out.alloc HBx5.out.size _).alloc (le_al HBx5.out.size) _ | exact ((HBx5.out.alloc HBx5.out.size _).alloc (le_al HBx5.out.size) _).alloc (le_al (le_al HBx5.out.size)) _ | exact HBx4.out | exact HBx4.out.alloc HBx4.out.size _ | exact (HBx4.out.alloc HBx4.out.size _).alloc (le_al HBx4.out.size) _ | exact ((HBx4.out.alloc HBx4.out.size _).alloc (le_al HBx4.out.size) _).alloc (le_al (le_al HBx4.out.size)) _ | exact HBx3.out | exact HBx3.out.alloc HBx3.out.size _ | exact (HBx3.out.alloc HBx3.out.size _).alloc (le_al HBx3.out.size) _ | exact ((HBx3.out.alloc HBx3.out.size _).alloc (le_al HBx3.out.size) _).alloc (le_al (le_al HBx3.out.size)) _) (hbx12.mono (by (try simp only [World.size_alloc]); (try simp only [size_setCell']); omega)))
        have HNx12 := Lib.hid hbx12
        clear hbx12 hsx12
        rw [HGA.out] at hG12
        have HG12 := Lib.hid (hG12.reads HOK.out (by have := HOK.out.few; omega))
        clear hG12
        go_wp2_with fail
        refine (of_any _ l x12 (HSLr.out.below HBx12.out) HSML.out (by have := HL6.out; omega)).mono ?_
        rintro e x13 ⟨u13, rfl, ⟨g13, i13, e13, rfl, hG13, _, _, _⟩, hbx13⟩
        obtain ⟨hcx13, hfx13⟩ := bcell hbx13
        have hsx13 := hbx13.size
        try simp only [World.size_alloc] at hsx13
        try simp only [size_setCell'] at hsx13
        try have lex13_0 : wr.heap.size ≤ x13.heap.size := (by omega)
        try have ltx13_0 : wr.heap.size < x13.heap.size := (by omega)
        try have lex13_1 : x1.heap.size ≤ x13.heap.size := (by omega)
        try have ltx13_1 : x1.heap.size < x13.heap.size := (by omega)
        try have lex13_2 : x2.heap.size ≤ x13.heap.size := (by omega)
        try have ltx13_2 : x2.heap.size < x13.heap.size := (by omega)
        try have lex13_3 : x3.heap.size ≤ x13.heap.size := (by omega)
        try have ltx13_3 : x3.heap.size < x13.heap.size := (by omega)
        try have lex13_4 : x4.heap.size ≤ x13.heap.size := (by omega)
        try have ltx13_4 : x4.heap.size < x13.heap.size := (by omega)
        try have lex13_5 : x5.heap.size ≤ x13.heap.size := (by omega)
        try have ltx13_5 : x5.heap.size < x13.heap.size := (by omega)
        try have lex13_6 : x6.heap.size ≤ x13.heap.size := (by omega)
        try have ltx13_6 : x6.heap.size < x13.heap.size := (by omega)
        try have lex13_7 : x7.heap.size ≤ x13.heap.size := (by omega)
        try have ltx13_7 : x7.heap.size < x13.heap.size := (by omega)
        try have lex13_8 : x8.heap.size ≤ x13.heap.size := (by omega)
        try have ltx13_8 : x8.heap.size < x13.heap.size := (by omega)
        try have lex13_9 : x9.heap.size ≤ x13.heap.size := (by omega)
        try have ltx13_9 : x9.heap.size < x13.heap.size := (by omega)
        try have lex13_10 : x10.heap.size ≤ x13.heap.size := (by omega)
        try have ltx13_10 : x10.heap.size < x13.heap.size := (by omega)
        try have lex13_11 : x11.heap.size ≤ x13.heap.size := (by omega)
        try have ltx13_11 : x11.heap.size < x13.heap.size := (by omega)
        try have lex13_12 : x12.heap.size ≤ x13.heap.size := (by omega)
        try have ltx13_12 : x12.heap.size < x13.heap.size := (by omega)
        have HBx13 : Hid (Below wr.heap.size wr x13) := Lib.hid (Below.trans (by first | exact HBx12.out | exact HBx12.out.alloc HBx12.out.size _ | exact (HBx12.out.alloc HBx12.out.size _).alloc (le_al HBx12.out.size) _ | exact ((HBx12.out.alloc HBx12.out.size _).alloc (le_al HBx12.out.size) _).alloc (le_al (le_al HBx12.out.size)) _ | exact HBx11.out | exact HBx11.out.alloc HBx11.out.size _ | exact (HBx11.out.alloc HBx11.out.size _).alloc (le_al HBx11.out.size) _ | exact ((HBx11.out.alloc HBx11.out.size _).alloc (le_al HBx11.out.size) _).alloc (le_al (le_al HBx11.out.size)) _ | exact HBx10.out | exact HBx10.out.alloc HBx10.out.size _ | exact (HBx10.out.alloc HBx10.out.size _).alloc (le_al HBx10.out.size) _ | exact ((HBx10.out.alloc HBx10.out.size _).alloc (le_al HBx10.out.size) _).alloc (le_al (le_al HBx10.out.size)) _ | exact HBx9.out | exact HBx9.out.alloc HBx9.out.size _ | exact (HBx9.out.alloc HBx9.out.size _).alloc (le_al HBx9.out.size) _ | exact ((HBx9.out.alloc HBx9.out.size _).alloc (le_al HBx9.out.size) _).alloc (le_al (le_al HBx9.out.size)) _ | exact HBx8.out | exact HBx8.out.alloc HBx8.out.size _ | exact (HBx8.out.alloc HBx8.out.size _).alloc (le_al HBx8.out.size) _ | exact ((HBx8.out.alloc HBx8.out.size _).alloc (le_al HBx8.out.size) _).alloc (le_al (le_al HBx8.out.size)) _ | exact HBx7.out | exact HBx7.out.alloc HBx7.out.size _ | exact (HBx7.out.alloc HBx7.out.size _).alloc (le_al HBx7.out.size) _ | exact ((HBx7.out.alloc HBx7.out.size _).alloc (le_al HBx7.out.size) _).alloc (le_al (le_al HBx7.out.size)) _ | exact HBx6.out | exact HBx6.out.alloc HBx6.out.size _ | exact (HBx6.out.alloc HBx6.out.size _).alloc (le_al HBx6.out.size) _ | exact ((HBx6.out.alloc HBx6.out.size _).alloc (le_al HBx6.out.size) _).alloc (le_al (le_al HBx6.out.size)) _ | exact HBx5.out | exact HBx5.out.alloc HBx5.out.size _ | exact (HBx5.out.alloc HBx5.out.size _).alloc (le_al HBx5.out.size) _ | exact ((HBx5.out.alloc HBx5.out.size _).alloc (le_al HBx5.out.size) _).alloc (le_al (le_al HBx5.out.size)) _ | exact HBx4.out | exact HBx4.out.alloc HBx4.out.size _ | exact (HBx4.out.alloc HBx4.out.size _).alloc (le_al HBx4.out.size) _ | exact ((HBx4.out.alloc HBx4.out.size _).alloc (le_al HBx4.out.size) _).alloc (le_al (le_al HBx4.out.size)) _) (hbx13.mono (by (try simp only [World.size_alloc]); (try simp only [size_setCell']); omega)))
        have HNx13 := Lib.hid hbx13
        clear hbx13 hsx13
        have HG13 := Lib.hid (hG13.reads HOK.out (by have := HOK.out.few; omega))
        have HG12s := Lib.hid (HG12.out.below HNx13.out)
        clear hG13
        go_wp2_with fail
        refine (same_any g12 g13 _ x13 HOK.out HG12s.out HG13.out).mono ?_
        rintro e x14 ⟨rfl, hbx14⟩
        obtain ⟨hcx14, hfx14⟩ := bcell hbx14
        have hsx14 := hbx14.size
        try simp only [World.size_alloc] at hsx14
        try simp only [size_setCell'] at hsx14
        try have lex14_0 : wr.heap.size ≤ x14.heap.size := (by omega)
        try have ltx14_0 : wr.heap.size < x14.heap.size := (by omega)
        try have lex14_1 : x1.heap.size ≤ x14.heap.size := (by omega)
        try have ltx14_1 : x1.heap.size < x14.heap.size := (by omega)
        try have lex14_2 : x2.heap.size ≤ x14.heap.size := (by omega)
        try have ltx14_2 : x2.heap.size < x14.heap.size := (by omega)
        try have lex14_3 : x3.heap.size ≤ x14.heap.size := (by omega)
        try have ltx14_3 : x3.heap.size < x14.heap.size := (by omega)
        try have lex14_4 : x4.heap.size ≤ x14.heap.size := (by omega)
        try have ltx14_4 : x4.heap.size < x14.heap.size := (by omega)
        try have lex14_5 : x5.heap.size ≤ x14.heap.size := (by omega)
        try have ltx14_5 : x5.heap.size < x14.heap.size := (by omega)
        try have lex14_6 : x6.heap.size ≤ x14.heap.size := (by omega)
        try have ltx14_6 : x6.heap.size < x14.heap.size := (by omega)
        try have lex14_7 : x7.heap.size ≤ x14.heap.size := (by omega)
        try have ltx14_7 : x7.heap.size < x14.heap.size := (by omega)
        try have lex14_8 : x8.heap.size ≤ x14.heap.size := (by omega)
        try have ltx14_8 : x8.heap.size < x14.heap.size := (by omega)
        try have lex14_9 : x9.heap.size ≤ x14.heap.size := (by omega)
        try have ltx14_9 : x9.heap.size < x14.heap.size := (by omega)
        try have lex14_10 : x10.heap.size ≤ x14.heap.size := (by omega)
        try have ltx14_10 : x10.heap.size < x14.heap.size := (by omega)
        try have lex14_11 : x11.heap.size ≤ x14.heap.size := (by omega)
        try have ltx14_11 : x11.heap.size < x14.heap.size := (by omega)
        try have lex14_12 : x12.heap.size ≤ x14.heap.size := (by omega)
        try have ltx14_12 : x12.heap.size < x14.heap.size := (by omega)
        try have lex14_13 : x13.heap.size ≤ x14.heap.size := (by omega)
        try have ltx14_13 : x13.heap.size < x14.heap.size := (by omega)
        have HBx14 : Hid (Below wr.heap.size wr x14) := Lib.hid (Below.trans (by first | exact HBx13.out | exact HBx13.out.alloc HBx13.out.size _ | exact (HBx13.out.alloc HBx13.out.size _).alloc (le_al HBx13.out.size) _ | exact ((HBx13.out.alloc HBx13.out.size _).alloc (le_al HBx13.out.size) _).alloc (le_al (le_al HBx13.out.size)) _ | exact HBx12.out | exact HBx12.out.alloc HBx12.out.size _ | exact (HBx12.out.alloc HBx12.out.size _).alloc (le_al HBx12.out.size) _ | exact ((HBx12.out.alloc HBx12.out.size _).alloc (le_al HBx12.out.size) _).alloc (le_al (le_al HBx12.out.size)) _ | exact HBx11.out | exact HBx11.out.alloc HBx11.out.size _ | exact (HBx11.out.alloc HBx11.out.size _).alloc (le_al HBx11.out.size) _ | exact ((HBx11.out.alloc HBx11.out.size _).alloc (le_al HBx11.out.size) _).alloc (le_al (le_al HBx11.out.size)) _ | exact HBx10.out | exact HBx10.out.alloc HBx10.out.size _ | exact (HBx10.out.alloc HBx10.out.size _).alloc (le_al HBx10.out.size) _ | exact ((HBx10.out.alloc HBx10.out.size _).alloc (le_al HBx10.out.size) _).alloc (le_al (le_al HBx10.out.size)) _ | exact HBx9.out | exact HBx9.out.alloc HBx9.out.size _ | exact (HBx9.out.alloc HBx9.out.size _).alloc (le_al HBx9.out.size) _ | exact ((HBx9.out.alloc HBx9.out.size _).alloc (le_al HBx9.out.size) _).alloc (le_al (le_al HBx9.out.size)) _ | exact HBx8.out | exact HBx8.out.alloc HBx8.out.size _ | exact (HBx8.out.alloc HBx8.out.size _).alloc (le_al HBx8.out.size) _ | exact ((HBx8.out.alloc HBx8.out.size _).alloc (le_al HBx8.out.size) _).alloc (le_al (le_al HBx8.out.size)) _ | exact HBx7.out | exact HBx7.out.alloc HBx7.out.size _ | exact (HBx7.out.alloc HBx7.out.size _).alloc (le_al HBx7.out.size) _ | exact ((HBx7.out.alloc HBx7.out.size _).alloc (le_al HBx7.out.size) _).alloc (le_al (le_al HBx7.out.size)) _ | exact HBx6.out | exact HBx6.out.alloc HBx6.out.size _ | exact (HBx6.out.alloc HBx6.out.size _).alloc (le_al HBx6.out.size) _ | exact ((HBx6.out.alloc HBx6.out.size _).alloc (le_al HBx6.out.size) _).alloc (le_al (le_al HBx6.out.size)) _ | exact HBx5.out | exact HBx5.out.alloc HBx5.out.size _ | exact (HBx5.out.alloc HBx5.out.size _).alloc (le_al HBx5.out.size) _ | exact ((HBx5.out.alloc HBx5.out.size _).alloc (le_al HBx5.out.size) _).alloc (le_al (le_al HBx5.out.size)) _) (hbx14.mono (by (try simp only [World.size_alloc]); (try simp only [size_setCell']); omega)))
        have HNx14 := Lib.hid hbx14
        clear hbx14 hsx14
        go_wp2
        go_ret
        exact ⟨rfl, HBW.out.trans (HBx14.out.mono HBW.out.size)⟩

set_option maxRecDepth 100000 in
set_option maxHeartbeats 8000000 in
theorem order_n0 (v1 : Value) (l : List Op) (v2 : Value) (tu : List Int) (w : World) (hs1 : SlAt w 13 Op.cells v1 l) (hn1 : ∀ o ∈ l, o.Small) (hs2 : SlAt w 1 U8.cells v2 tu) (hn2 : ∀ z ∈ tu, (Lit.int .u8 z).wf = true) (hl60 : l.length ≤ 60) (hT : 0 < tu.length) (hN : (sortOps l).length = 0) :
    Calls Tryz.prog 12 #[v1, v2] w fun y w' => y = .returned (.bool true) ∧ Below w.heap.size w w' := by
  have HS1 := Lib.hid (fun W (hW : Below w.heap.size w W) => hs1.below hW)
  have HS2 : Hid (∀ W, Below w.heap.size w W → SlAt W 1 U8.cells v2 tu) := Lib.hid fun W hW => hs2.below hW
  have HWF := Lib.hid hn2
  have HSML := Lib.hid hn1
  have HB0 : Hid (Below w.heap.size w w) := Lib.hid (Below.refl _ _)
  have HNS : Hid (∀ o ∈ sortOps l, o.Small) := Lib.hid fun o ho => hn1 o (sort_sub ho)
  have HLW := Lib.hid (fun k => order_law l k)
  have hal : (sortOps l).length ≤ 60 := Nat.le_trans (sort_len l) hl60
  have HL6 := Lib.hid hl60
  have hl6i : ¬ (60 : Int) < (l.length : Int) := by omega
  obtain ⟨a1, c1_, rfl⟩ := hs1.len
  obtain ⟨a2, c2_, rfl⟩ := hs2.len
  clear hs1 hs2 hn1 hn2 hl60
  obtain ⟨A, hA⟩ : ∃ A, A = sortOps l := ⟨_, rfl⟩
  rw [← hA] at hal HNS HLW hN
  have HA := Lib.hid hA
  clear hA
  obtain rfl := List.eq_nil_of_length_eq_zero hN
  clear hN
  go_enter Tryz.func12, Tryz.ntmps12
  go_wp2_with fail
  refine (shown_any _).mono ?_
  rintro e w1 ⟨rfl, hb1⟩
  obtain ⟨hc1, hf1⟩ := bcell hb1
  have hs1 := hb1.size
  try simp only [World.size_alloc] at hs1
  try simp only [size_setCell'] at hs1
  try have le1_0 : w.heap.size ≤ w1.heap.size := (by omega)
  try have lt1_0 : w.heap.size < w1.heap.size := (by omega)
  have HB1 : Hid (Below w.heap.size w w1) := Lib.hid (Below.trans (by first | exact HB0.out | exact HB0.out.alloc HB0.out.size _ | exact (HB0.out.alloc HB0.out.size _).alloc (le_al HB0.out.size) _ | exact ((HB0.out.alloc HB0.out.size _).alloc (le_al HB0.out.size) _).alloc (le_al (le_al HB0.out.size)) _) (hb1.mono (by (try simp only [World.size_alloc]); (try simp only [size_setCell']); omega)))
  have HN1 := Lib.hid hb1
  clear hb1 hs1
  go_wp2_with fail
  refine (sort_any _ l _ (HS1.out _ (by first | exact HB1.out | exact HB1.out.alloc HB1.out.size _ | exact (HB1.out.alloc HB1.out.size _).alloc (le_al HB1.out.size) _ | exact ((HB1.out.alloc HB1.out.size _).alloc (le_al HB1.out.size) _).alloc (le_al (le_al HB1.out.size)) _ | exact HB0.out | exact HB0.out.alloc HB0.out.size _ | exact (HB0.out.alloc HB0.out.size _).alloc (le_al HB0.out.size) _ | exact ((HB0.out.alloc HB0.out.size _).alloc (le_al HB0.out.size) _).alloc (le_al (le_al HB0.out.size)) _)) HSML.out (by have := HL6.out; omega)).mono ?_
  rintro e w2 ⟨va, rfl, hra, hb2⟩
  obtain ⟨hc2, hf2⟩ := bcell hb2
  have hs2 := hb2.size
  try simp only [World.size_alloc] at hs2
  try simp only [size_setCell'] at hs2
  try have le2_0 : w.heap.size ≤ w2.heap.size := (by omega)
  try have lt2_0 : w.heap.size < w2.heap.size := (by omega)
  try have le2_1 : w1.heap.size ≤ w2.heap.size := (by omega)
  try have lt2_1 : w1.heap.size < w2.heap.size := (by omega)
  have HB2 : Hid (Below w.heap.size w w2) := Lib.hid (Below.trans (by first | exact HB1.out | exact HB1.out.alloc HB1.out.size _ | exact (HB1.out.alloc HB1.out.size _).alloc (le_al HB1.out.size) _ | exact ((HB1.out.alloc HB1.out.size _).alloc (le_al HB1.out.size) _).alloc (le_al (le_al HB1.out.size)) _ | exact HB0.out | exact HB0.out.alloc HB0.out.size _ | exact (HB0.out.alloc HB0.out.size _).alloc (le_al HB0.out.size) _ | exact ((HB0.out.alloc HB0.out.size _).alloc (le_al HB0.out.size) _).alloc (le_al (le_al HB0.out.size)) _) (hb2.mono (by (try simp only [World.size_alloc]); (try simp only [size_setCell']); omega)))
  have HN2 := Lib.hid hb2
  clear hb2 hs2
  rw [← HA.out] at hra
  have HRA := Lib.hid hra
  obtain ⟨pa, pc, rfl⟩ := hra.shape
  clear hra
  go_wp2
  go_loopg [7] 0 (fun gg s7 wr => ∃ (i : Nat) (bl : List Op), s7 = .int .i64 i ∧ i ≤ 0 ∧ 0 - i ≤ gg ∧ bl.length = ([] : List Op).length ∧ Aside (OpsRow w1.heap.size (.slice pa bl.length pc) bl wr) ∧ Aside (bl.Perm ([] : List Op)) ∧ Aside (Below w1.heap.size w1 wr))
  case atStart => exact ⟨0, ([] : List Op), rfl, Nat.zero_le _, by omega, rfl, (show Aside _ from HRA.out), (show Aside _ from List.Perm.refl _), (show Aside _ from HN2.out)⟩
  case round =>
    obtain ⟨i, bl, rfl, hil, hgg, hbl, hRW, hMB, hB⟩ := hrel
    have hi0 : (0 : Int) ≤ (i : Int) := by omega
    have hwi : IntKind.i64.wrap ((i : Int) + 1) = (i : Int) + 1 := wrapNat (i + 1) (by omega)
    by_cases hlt : i < 0
    · exact absurd hlt (Nat.not_lt_zero _)
    · have d1 : decide (i < tu.length) = true := decide_eq_true (by omega)
      have c1 : (i : Int) < (tu.length : Int) := by omega
      have d2 : decide (i < 100) = true := decide_eq_true (by omega)
      have c2 : (i : Int) < 100 := by omega
      obtain rfl : bl = [] := List.eq_nil_of_length_eq_zero (by simpa using hbl)
      obtain ⟨ho, hg1, hg2⟩ := HLW.out ([] : List Op) hMB.out
      have HOPS := Lib.hid ho
      have HGB := Lib.hid hg1
      have HGA := Lib.hid hg2
      have HRB : Hid (OpsRow w1.heap.size (.slice pa ([] : List Op).length pc) ([] : List Op) wr) := Lib.hid hRW.out
      have HNB : Hid (∀ o ∈ ([] : List Op), o.Small) := Lib.hid fun o ho => HNS.out o (hMB.out.mem_iff.1 ho)
      have HLB : Hid (([] : List Op).length ≤ 500) := Lib.hid (by first | omega | decide)
      have HLA : Hid (([] : List Op).length ≤ 500) := Lib.hid (by first | omega | decide)
      have HBW : Hid (Below w.heap.size w wr) := Lib.hid (HB1.out.trans (hB.out.mono HB1.out.size))
      have HBx0 : Hid (Below wr.heap.size wr wr) := Lib.hid (Below.refl _ _)
      have HOK : Hid ((ofOps l).Ok) := Lib.hid (ofOps_ok l)
      have HSLr := Lib.hid (HS1.out wr HBW.out)
      have HSOL : Hid ((Lg.from Gr.new ⟨0, 0⟩ ([] : List Op)).ops.length ≤ 1000) := Lib.hid (by rw [from_new]; have := sort_len ([] : List Op); show (sortOps ([] : List Op)).length ≤ 1000; omega)
      have HMZ : Hid (mayB 0 0 = true) := Lib.hid rfl
      clear ho hg1 hg2 hRW hMB hB hlt
      go_wp2_with fail
      refine (new_g _).mono ?_
      rintro e x1 ⟨u1, rfl, ⟨g1, i1, e1, rfl, hG1, _, _, _⟩, hbx1⟩
      obtain ⟨hcx1, hfx1⟩ := bcell hbx1
      have hsx1 := hbx1.size
      try simp only [World.size_alloc] at hsx1
      try simp only [size_setCell'] at hsx1
      try have lex1_0 : wr.heap.size ≤ x1.heap.size := (by omega)
      try have ltx1_0 : wr.heap.size < x1.heap.size := (by omega)
      have HBx1 : Hid (Below wr.heap.size wr x1) := Lib.hid (Below.trans (by first | exact HBx0.out | exact HBx0.out.alloc HBx0.out.size _ | exact (HBx0.out.alloc HBx0.out.size _).alloc (le_al HBx0.out.size) _ | exact ((HBx0.out.alloc HBx0.out.size _).alloc (le_al HBx0.out.size) _).alloc (le_al (le_al HBx0.out.size)) _) (hbx1.mono (by (try simp only [World.size_alloc]); (try simp only [size_setCell']); omega)))
      have HNx1 := Lib.hid hbx1
      clear hbx1 hsx1
      have HG1 := Lib.hid hG1
      clear hG1
      go_wp2_with fail
      refine (sort_any _ l _ (HSLr.out.below HBx1.out) HSML.out (by have := HL6.out; omega)).mono ?_
      rintro e x2 ⟨u2, rfl, hr2, hbx2⟩
      obtain ⟨hcx2, hfx2⟩ := bcell hbx2
      have hsx2 := hbx2.size
      try simp only [World.size_alloc] at hsx2
      try simp only [size_setCell'] at hsx2
      try have lex2_0 : wr.heap.size ≤ x2.heap.size := (by omega)
      try have ltx2_0 : wr.heap.size < x2.heap.size := (by omega)
      try have lex2_1 : x1.heap.size ≤ x2.heap.size := (by omega)
      try have ltx2_1 : x1.heap.size < x2.heap.size := (by omega)
      have HBx2 : Hid (Below wr.heap.size wr x2) := Lib.hid (Below.trans (by first | exact HBx1.out | exact HBx1.out.alloc HBx1.out.size _ | exact (HBx1.out.alloc HBx1.out.size _).alloc (le_al HBx1.out.size) _ | exact ((HBx1.out.alloc HBx1.out.size _).alloc (le_al HBx1.out.size) _).alloc (le_al (le_al HBx1.out.size)) _ | exact HBx0.out | exact HBx0.out.alloc HBx0.out.size _ | exact (HBx0.out.alloc HBx0.out.size _).alloc (le_al HBx0.out.size) _ | exact ((HBx0.out.alloc HBx0.out.size _).alloc (le_al HBx0.out.size) _).alloc (le_al (le_al HBx0.out.size)) _) (hbx2.mono (by (try simp only [World.size_alloc]); (try simp only [size_setCell']); omega)))
      have HNx2 := Lib.hid hbx2
      clear hbx2 hsx2
      rw [← HA.out] at hr2
      have HS2r := Lib.hid hr2
      have HG1s := Lib.hid (HG1.out.below HNx2.out)
      obtain ⟨s2, z2, rfl⟩ := hr2.shape
      clear hr2
      go_wp2_with fail
      refine (from_any g1 i1 e1 Gr.new ⟨0, 0⟩ _ ([] : List Op) x2 HG1s.out Gr.Ok.new Gr.Thin.new HMZ.out HS2r.out.sl HNS.out HLA.out).mono ?_
      rintro e x3 ⟨la, ga, aI, aE, rfl, hL3, hbx3⟩
      obtain ⟨hcx3, hfx3⟩ := bcell hbx3
      have hsx3 := hbx3.size
      try simp only [World.size_alloc] at hsx3
      try simp only [size_setCell'] at hsx3
      try have lex3_0 : wr.heap.size ≤ x3.heap.size := (by omega)
      try have ltx3_0 : wr.heap.size < x3.heap.size := (by omega)
      try have lex3_1 : x1.heap.size ≤ x3.heap.size := (by omega)
      try have ltx3_1 : x1.heap.size < x3.heap.size := (by omega)
      try have lex3_2 : x2.heap.size ≤ x3.heap.size := (by omega)
      try have ltx3_2 : x2.heap.size < x3.heap.size := (by omega)
      have HBx3 : Hid (Below wr.heap.size wr x3) := Lib.hid (Below.trans (by first | exact HBx2.out | exact HBx2.out.alloc HBx2.out.size _ | exact (HBx2.out.alloc HBx2.out.size _).alloc (le_al HBx2.out.size) _ | exact ((HBx2.out.alloc HBx2.out.size _).alloc (le_al HBx2.out.size) _).alloc (le_al (le_al HBx2.out.size)) _ | exact HBx1.out | exact HBx1.out.alloc HBx1.out.size _ | exact (HBx1.out.alloc HBx1.out.size _).alloc (le_al HBx1.out.size) _ | exact ((HBx1.out.alloc HBx1.out.size _).alloc (le_al HBx1.out.size) _).alloc (le_al (le_al HBx1.out.size)) _ | exact HBx0.out | exact HBx0.out.alloc HBx0.out.size _ | exact (HBx0.out.alloc HBx0.out.size _).alloc (le_al HBx0.out.size) _ | exact ((HBx0.out.alloc HBx0.out.size _).alloc (le_al HBx0.out.size) _).alloc (le_al (le_al HBx0.out.size)) _) (hbx3.mono (by (try simp only [World.size_alloc]); (try simp only [size_setCell']); omega)))
      have HNx3 := Lib.hid hbx3
      clear hbx3 hsx3
      have HLa := Lib.hid hL3
      clear hL3
      go_wp2_with fail
      refine (new_g _).mono ?_
      rintro e x4 ⟨u4, rfl, ⟨g4, i4, e4, rfl, hG4, _, _, _⟩, hbx4⟩
      obtain ⟨hcx4, hfx4⟩ := bcell hbx4
      have hsx4 := hbx4.size
      try simp only [World.size_alloc] at hsx4
      try simp only [size_setCell'] at hsx4
      try have lex4_0 : wr.heap.size ≤ x4.heap.size := (by omega)
      try have ltx4_0 : wr.heap.size < x4.heap.size := (by omega)
      try have lex4_1 : x1.heap.size ≤ x4.heap.size := (by omega)
      try have ltx4_1 : x1.heap.size < x4.heap.size := (by omega)
      try have lex4_2 : x2.heap.size ≤ x4.heap.size := (by omega)
      try have ltx4_2 : x2.heap.size < x4.heap.size := (by omega)
      try have lex4_3 : x3.heap.size ≤ x4.heap.size := (by omega)
      try have ltx4_3 : x3.heap.size < x4.heap.size := (by omega)
      have HBx4 : Hid (Below wr.heap.size wr x4) := Lib.hid (Below.trans (by first | exact HBx3.out | exact HBx3.out.alloc HBx3.out.size _ | exact (HBx3.out.alloc HBx3.out.size _).alloc (le_al HBx3.out.size) _ | exact ((HBx3.out.alloc HBx3.out.size _).alloc (le_al HBx3.out.size) _).alloc (le_al (le_al HBx3.out.size)) _ | exact HBx2.out | exact HBx2.out.alloc HBx2.out.size _ | exact (HBx2.out.alloc HBx2.out.size _).alloc (le_al HBx2.out.size) _ | exact ((HBx2.out.alloc HBx2.out.size _).alloc (le_al HBx2.out.size) _).alloc (le_al (le_al HBx2.out.size)) _ | exact HBx1.out | exact HBx1.out.alloc HBx1.out.size _ | exact (HBx1.out.alloc HBx1.out.size _).alloc (le_al HBx1.out.size) _ | exact ((HBx1.out.alloc HBx1.out.size _).alloc (le_al HBx1.out.size) _).alloc (le_al (le_al HBx1.out.size)) _ | exact HBx0.out | exact HBx0.out.alloc HBx0.out.size _ | exact (HBx0.out.alloc HBx0.out.size _).alloc (le_al HBx0.out.size) _ | exact ((HBx0.out.alloc HBx0.out.size _).alloc (le_al HBx0.out.size) _).alloc (le_al (le_al HBx0.out.size)) _) (hbx4.mono (by (try simp only [World.size_alloc]); (try simp only [size_setCell']); omega)))
      have HNx4 := Lib.hid hbx4
      clear hbx4 hsx4
      have HG4 := Lib.hid hG4
      have HLa4 := Lib.hid (HLa.out.below HNx4.out)
      clear hG4
      go_wp2_with fail
      refine (from_any g4 i4 e4 Gr.new ⟨0, 0⟩ _ ([] : List Op) x4 HG4.out Gr.Ok.new Gr.Thin.new HMZ.out (HRB.out.kept HBx4.out).sl HNB.out HLB.out).mono ?_
      rintro e x5 ⟨lb, gb, bI, bE, rfl, hL5, hbx5⟩
      obtain ⟨hcx5, hfx5⟩ := bcell hbx5
      have hsx5 := hbx5.size
      try simp only [World.size_alloc] at hsx5
      try simp only [size_setCell'] at hsx5
      try have lex5_0 : wr.heap.size ≤ x5.heap.size := (by omega)
      try have ltx5_0 : wr.heap.size < x5.heap.size := (by omega)
      try have lex5_1 : x1.heap.size ≤ x5.heap.size := (by omega)
      try have ltx5_1 : x1.heap.size < x5.heap.size := (by omega)
      try have lex5_2 : x2.heap.size ≤ x5.heap.size := (by omega)
      try have ltx5_2 : x2.heap.size < x5.heap.size := (by omega)
      try have lex5_3 : x3.heap.size ≤ x5.heap.size := (by omega)
      try have ltx5_3 : x3.heap.size < x5.heap.size := (by omega)
      try have lex5_4 : x4.heap.size ≤ x5.heap.size := (by omega)
      try have ltx5_4 : x4.heap.size < x5.heap.size := (by omega)
      have HBx5 : Hid (Below wr.heap.size wr x5) := Lib.hid (Below.trans (by first | exact HBx4.out | exact HBx4.out.alloc HBx4.out.size _ | exact (HBx4.out.alloc HBx4.out.size _).alloc (le_al HBx4.out.size) _ | exact ((HBx4.out.alloc HBx4.out.size _).alloc (le_al HBx4.out.size) _).alloc (le_al (le_al HBx4.out.size)) _ | exact HBx3.out | exact HBx3.out.alloc HBx3.out.size _ | exact (HBx3.out.alloc HBx3.out.size _).alloc (le_al HBx3.out.size) _ | exact ((HBx3.out.alloc HBx3.out.size _).alloc (le_al HBx3.out.size) _).alloc (le_al (le_al HBx3.out.size)) _ | exact HBx2.out | exact HBx2.out.alloc HBx2.out.size _ | exact (HBx2.out.alloc HBx2.out.size _).alloc (le_al HBx2.out.size) _ | exact ((HBx2.out.alloc HBx2.out.size _).alloc (le_al HBx2.out.size) _).alloc (le_al (le_al HBx2.out.size)) _ | exact HBx1.out | exact HBx1.out.alloc HBx1.out.size _ | exact (HBx1.out.alloc HBx1.out.size _).alloc (le_al HBx1.out.size) _ | exact ((HBx1.out.alloc HBx1.out.size _).alloc (le_al HBx1.out.size) _).alloc (le_al (le_al HBx1.out.size)) _ | exact HBx0.out | exact HBx0.out.alloc HBx0.out.size _ | exact (HBx0.out.alloc HBx0.out.size _).alloc (le_al HBx0.out.size) _ | exact ((HBx0.out.alloc HBx0.out.size _).alloc (le_al HBx0.out.size) _).alloc (le_al (le_al HBx0.out.size)) _) (hbx5.mono (by (try simp only [World.size_alloc]); (try simp only [size_setCell']); omega)))
      have HNx5 := Lib.hid hbx5
      clear hbx5 hsx5
      have HLb := Lib.hid hL5
      have HLa5 := Lib.hid (HLa4.out.below HNx5.out)
      clear hL5
      go_wp2_with fail
      refine (graph_l _ la ga aI aE _ x5 HLa5.out).mono ?_
      rintro e x6 ⟨u6, rfl, ⟨g6, i6, e6, rfl, hG6, _, _, _⟩, hbx6⟩
      obtain ⟨hcx6, hfx6⟩ := bcell hbx6
      have hsx6 := hbx6.size
      try simp only [World.size_alloc] at hsx6
      try simp only [size_setCell'] at hsx6
      try have lex6_0 : wr.heap.size ≤ x6.heap.size := (by omega)
      try have ltx6_0 : wr.heap.size < x6.heap.size := (by omega)
      try have lex6_1 : x1.heap.size ≤ x6.heap.size := (by omega)
      try have ltx6_1 : x1.heap.size < x6.heap.size := (by omega)
      try have lex6_2 : x2.heap.size ≤ x6.heap.size := (by omega)
      try have ltx6_2 : x2.heap.size < x6.heap.size := (by omega)
      try have lex6_3 : x3.heap.size ≤ x6.heap.size := (by omega)
      try have ltx6_3 : x3.heap.size < x6.heap.size := (by omega)
      try have lex6_4 : x4.heap.size ≤ x6.heap.size := (by omega)
      try have ltx6_4 : x4.heap.size < x6.heap.size := (by omega)
      try have lex6_5 : x5.heap.size ≤ x6.heap.size := (by omega)
      try have ltx6_5 : x5.heap.size < x6.heap.size := (by omega)
      have HBx6 : Hid (Below wr.heap.size wr x6) := Lib.hid (Below.trans (by first | exact HBx5.out | exact HBx5.out.alloc HBx5.out.size _ | exact (HBx5.out.alloc HBx5.out.size _).alloc (le_al HBx5.out.size) _ | exact ((HBx5.out.alloc HBx5.out.size _).alloc (le_al HBx5.out.size) _).alloc (le_al (le_al HBx5.out.size)) _ | exact HBx4.out | exact HBx4.out.alloc HBx4.out.size _ | exact (HBx4.out.alloc HBx4.out.size _).alloc (le_al HBx4.out.size) _ | exact ((HBx4.out.alloc HBx4.out.size _).alloc (le_al HBx4.out.size) _).alloc (le_al (le_al HBx4.out.size)) _ | exact HBx3.out | exact HBx3.out.alloc HBx3.out.size _ | exact (HBx3.out.alloc HBx3.out.size _).alloc (le_al HBx3.out.size) _ | exact ((HBx3.out.alloc HBx3.out.size _).alloc (le_al HBx3.out.size) _).alloc (le_al (le_al HBx3.out.size)) _ | exact HBx2.out | exact HBx2.out.alloc HBx2.out.size _ | exact (HBx2.out.alloc HBx2.out.size _).alloc (le_al HBx2.out.size) _ | exact ((HBx2.out.alloc HBx2.out.size _).alloc (le_al HBx2.out.size) _).alloc (le_al (le_al HBx2.out.size)) _ | exact HBx1.out | exact HBx1.out.alloc HBx1.out.size _ | exact (HBx1.out.alloc HBx1.out.size _).alloc (le_al HBx1.out.size) _ | exact ((HBx1.out.alloc HBx1.out.size _).alloc (le_al HBx1.out.size) _).alloc (le_al (le_al HBx1.out.size)) _ | exact HBx0.out | exact HBx0.out.alloc HBx0.out.size _ | exact (HBx0.out.alloc HBx0.out.size _).alloc (le_al HBx0.out.size) _ | exact ((HBx0.out.alloc HBx0.out.size _).alloc (le_al HBx0.out.size) _).alloc (le_al (le_al HBx0.out.size)) _) (hbx6.mono (by (try simp only [World.size_alloc]); (try simp only [size_setCell']); omega)))
      have HNx6 := Lib.hid hbx6
      clear hbx6 hsx6
      rw [HGA.out] at hG6
      have HG6 := Lib.hid (hG6.reads HOK.out (by have := HOK.out.few; omega))
      have HLb6 := Lib.hid (HLb.out.below HNx6.out)
      have HLa6 := Lib.hid (HLa5.out.below HNx6.out)
      clear hG6
      go_wp2_with fail
      refine (graph_l _ lb gb bI bE _ x6 HLb6.out).mono ?_
      rintro e x7 ⟨u7, rfl, ⟨g7, i7, e7, rfl, hG7, _, _, _⟩, hbx7⟩
      obtain ⟨hcx7, hfx7⟩ := bcell hbx7
      have hsx7 := hbx7.size
      try simp only [World.size_alloc] at hsx7
      try simp only [size_setCell'] at hsx7
      try have lex7_0 : wr.heap.size ≤ x7.heap.size := (by omega)
      try have ltx7_0 : wr.heap.size < x7.heap.size := (by omega)
      try have lex7_1 : x1.heap.size ≤ x7.heap.size := (by omega)
      try have ltx7_1 : x1.heap.size < x7.heap.size := (by omega)
      try have lex7_2 : x2.heap.size ≤ x7.heap.size := (by omega)
      try have ltx7_2 : x2.heap.size < x7.heap.size := (by omega)
      try have lex7_3 : x3.heap.size ≤ x7.heap.size := (by omega)
      try have ltx7_3 : x3.heap.size < x7.heap.size := (by omega)
      try have lex7_4 : x4.heap.size ≤ x7.heap.size := (by omega)
      try have ltx7_4 : x4.heap.size < x7.heap.size := (by omega)
      try have lex7_5 : x5.heap.size ≤ x7.heap.size := (by omega)
      try have ltx7_5 : x5.heap.size < x7.heap.size := (by omega)
      try have lex7_6 : x6.heap.size ≤ x7.heap.size := (by omega)
      try have ltx7_6 : x6.heap.size < x7.heap.size := (by omega)
      have HBx7 : Hid (Below wr.heap.size wr x7) := Lib.hid (Below.trans (by first | exact HBx6.out | exact HBx6.out.alloc HBx6.out.size _ | exact (HBx6.out.alloc HBx6.out.size _).alloc (le_al HBx6.out.size) _ | exact ((HBx6.out.alloc HBx6.out.size _).alloc (le_al HBx6.out.size) _).alloc (le_al (le_al HBx6.out.size)) _ | exact HBx5.out | exact HBx5.out.alloc HBx5.out.size _ | exact (HBx5.out.alloc HBx5.out.size _).alloc (le_al HBx5.out.size) _ | exact ((HBx5.out.alloc HBx5.out.size _).alloc (le_al HBx5.out.size) _).alloc (le_al (le_al HBx5.out.size)) _ | exact HBx4.out | exact HBx4.out.alloc HBx4.out.size _ | exact (HBx4.out.alloc HBx4.out.size _).alloc (le_al HBx4.out.size) _ | exact ((HBx4.out.alloc HBx4.out.size _).alloc (le_al HBx4.out.size) _).alloc (le_al (le_al HBx4.out.size)) _ | exact HBx3.out | exact HBx3.out.alloc HBx3.out.size _ | exact (HBx3.out.alloc HBx3.out.size _).alloc (le_al HBx3.out.size) _ | exact ((HBx3.out.alloc HBx3.out.size _).alloc (le_al HBx3.out.size) _).alloc (le_al (le_al HBx3.out.size)) _ | exact HBx2.out | exact HBx2.out.alloc HBx2.out.size _ | exact (HBx2.out.alloc HBx2.out.size _).alloc (le_al HBx2.out.size) _ | exact ((HBx2.out.alloc HBx2.out.size _).alloc (le_al HBx2.out.size) _).alloc (le_al (le_al HBx2.out.size)) _ | exact HBx1.out | exact HBx1.out.alloc HBx1.out.size _ | exact (HBx1.out.alloc HBx1.out.size _).alloc (le_al HBx1.out.size) _ | exact ((HBx1.out.alloc HBx1.out.size _).alloc (le_al HBx1.out.size) _).alloc (le_al (le_al HBx1.out.size)) _ | exact HBx0.out | exact HBx0.out.alloc HBx0.out.size _ | exact (HBx0.out.alloc HBx0.out.size _).alloc (le_al HBx0.out.size) _ | exact ((HBx0.out.alloc HBx0.out.size _).alloc (le_al HBx0.out.size) _).alloc (le_al (le_al HBx0.out.size)) _) (hbx7.mono (by (try simp only [World.size_alloc]); (try simp only [size_setCell']); omega)))
      have HNx7 := Lib.hid hbx7
      clear hbx7 hsx7
      rw [HGB.out] at hG7
      have HG7 := Lib.hid (hG7.reads HOK.out (by have := HOK.out.few; omega))
      have HLb7 := Lib.hid (HLb6.out.below HNx7.out)
      have HLa7 := Lib.hid (HLa6.out.below HNx7.out)
      have HG6s := Lib.hid (HG6.out.below HNx7.out)
      clear hG7
      go_wp2_with fail
      refine (same_any g6 g7 _ x7 HOK.out HG6s.out HG7.out).mono ?_
      rintro e x8 ⟨rfl, hbx8⟩
      obtain ⟨hcx8, hfx8⟩ := bcell hbx8
      have hsx8 := hbx8.size
      try simp only [World.size_alloc] at hsx8
      try simp only [size_setCell'] at hsx8
      try have lex8_0 : wr.heap.size ≤ x8.heap.size := (by omega)
      try have ltx8_0 : wr.heap.size < x8.heap.size := (by omega)
      try have lex8_1 : x1.heap.size ≤ x8.heap.size := (by omega)
      try have ltx8_1 : x1.heap.size < x8.heap.size := (by omega)
      try have lex8_2 : x2.heap.size ≤ x8.heap.size := (by omega)
      try have ltx8_2 : x2.heap.size < x8.heap.size := (by omega)
      try have lex8_3 : x3.heap.size ≤ x8.heap.size := (by omega)
      try have ltx8_3 : x3.heap.size < x8.heap.size := (by omega)
      try have lex8_4 : x4.heap.size ≤ x8.heap.size := (by omega)
      try have ltx8_4 : x4.heap.size < x8.heap.size := (by omega)
      try have lex8_5 : x5.heap.size ≤ x8.heap.size := (by omega)
      try have ltx8_5 : x5.heap.size < x8.heap.size := (by omega)
      try have lex8_6 : x6.heap.size ≤ x8.heap.size := (by omega)
      try have ltx8_6 : x6.heap.size < x8.heap.size := (by omega)
      try have lex8_7 : x7.heap.size ≤ x8.heap.size := (by omega)
      try have ltx8_7 : x7.heap.size < x8.heap.size := (by omega)
      have HBx8 : Hid (Below wr.heap.size wr x8) := Lib.hid (Below.trans (by first | exact HBx7.out | exact HBx7.out.alloc HBx7.out.size _ | exact (HBx7.out.alloc HBx7.out.size _).alloc (le_al HBx7.out.size) _ | exact ((HBx7.out.alloc HBx7.out.size _).alloc (le_al HBx7.out.size) _).alloc (le_al (le_al HBx7.out.size)) _ | exact HBx6.out | exact HBx6.out.alloc HBx6.out.size _ | exact (HBx6.out.alloc HBx6.out.size _).alloc (le_al HBx6.out.size) _ | exact ((HBx6.out.alloc HBx6.out.size _).alloc (le_al HBx6.out.size) _).alloc (le_al (le_al HBx6.out.size)) _ | exact HBx5.out | exact HBx5.out.alloc HBx5.out.size _ | exact (HBx5.out.alloc HBx5.out.size _).alloc (le_al HBx5.out.size) _ | exact ((HBx5.out.alloc HBx5.out.size _).alloc (le_al HBx5.out.size) _).alloc (le_al (le_al HBx5.out.size)) _ | exact HBx4.out | exact HBx4.out.alloc HBx4.out.size _ | exact (HBx4.out.alloc HBx4.out.size _).alloc (le_al HBx4.out.size) _ | exact ((HBx4.out.alloc HBx4.out.size _).alloc (le_al HBx4.out.size) _).alloc (le_al (le_al HBx4.out.size)) _ | exact HBx3.out | exact HBx3.out.alloc HBx3.out.size _ | exact (HBx3.out.alloc HBx3.out.size _).alloc (le_al HBx3.out.size) _ | exact ((HBx3.out.alloc HBx3.out.size _).alloc (le_al HBx3.out.size) _).alloc (le_al (le_al HBx3.out.size)) _ | exact HBx2.out | exact HBx2.out.alloc HBx2.out.size _ | exact (HBx2.out.alloc HBx2.out.size _).alloc (le_al HBx2.out.size) _ | exact ((HBx2.out.alloc HBx2.out.size _).alloc (le_al HBx2.out.size) _).alloc (le_al (le_al HBx2.out.size)) _ | exact HBx1.out | exact HBx1.out.alloc HBx1.out.size _ | exact (HBx1.out.alloc HBx1.out.size _).alloc (le_al HBx1.out.size) _ | exact ((HBx1.out.alloc HBx1.out.size _).alloc (le_al HBx1.out.size) _).alloc (le_al (le_al HBx1.out.size)) _ | exact HBx0.out | exact HBx0.out.alloc HBx0.out.size _ | exact (HBx0.out.alloc HBx0.out.size _).alloc (le_al HBx0.out.size) _ | exact ((HBx0.out.alloc HBx0.out.size _).alloc (le_al HBx0.out.size) _).alloc (le_al (le_al HBx0.out.size)) _) (hbx8.mono (by (try simp only [World.size_alloc]); (try simp only [size_setCell']); omega)))
      have HNx8 := Lib.hid hbx8
      clear hbx8 hsx8
      have HLb8 := Lib.hid (HLb7.out.below HNx8.out)
      have HLa8 := Lib.hid (HLa7.out.below HNx8.out)
      go_wp2_with fail
      refine (ops_l _ la ga aI aE _ x8 HLa8.out).mono ?_
      rintro e x9 ⟨u9, rfl, hr9, hbx9⟩
      obtain ⟨hcx9, hfx9⟩ := bcell hbx9
      have hsx9 := hbx9.size
      try simp only [World.size_alloc] at hsx9
      try simp only [size_setCell'] at hsx9
      try have lex9_0 : wr.heap.size ≤ x9.heap.size := (by omega)
      try have ltx9_0 : wr.heap.size < x9.heap.size := (by omega)
      try have lex9_1 : x1.heap.size ≤ x9.heap.size := (by omega)
      try have ltx9_1 : x1.heap.size < x9.heap.size := (by omega)
      try have lex9_2 : x2.heap.size ≤ x9.heap.size := (by omega)
      try have ltx9_2 : x2.heap.size < x9.heap.size := (by omega)
      try have lex9_3 : x3.heap.size ≤ x9.heap.size := (by omega)
      try have ltx9_3 : x3.heap.size < x9.heap.size := (by omega)
      try have lex9_4 : x4.heap.size ≤ x9.heap.size := (by omega)
      try have ltx9_4 : x4.heap.size < x9.heap.size := (by omega)
      try have lex9_5 : x5.heap.size ≤ x9.heap.size := (by omega)
      try have ltx9_5 : x5.heap.size < x9.heap.size := (by omega)
      try have lex9_6 : x6.heap.size ≤ x9.heap.size := (by omega)
      try have ltx9_6 : x6.heap.size < x9.heap.size := (by omega)
      try have lex9_7 : x7.heap.size ≤ x9.heap.size := (by omega)
      try have ltx9_7 : x7.heap.size < x9.heap.size := (by omega)
      try have lex9_8 : x8.heap.size ≤ x9.heap.size := (by omega)
      try have ltx9_8 : x8.heap.size < x9.heap.size := (by omega)
      have HBx9 : Hid (Below wr.heap.size wr x9) := Lib.hid (Below.trans (by first | exact HBx8.out | exact HBx8.out.alloc HBx8.out.size _ | exact (HBx8.out.alloc HBx8.out.size _).alloc (le_al HBx8.out.size) _ | exact ((HBx8.out.alloc HBx8.out.size _).alloc (le_al HBx8.out.size) _).alloc (le_al (le_al HBx8.out.size)) _ | exact HBx7.out | exact HBx7.out.alloc HBx7.out.size _ | exact (HBx7.out.alloc HBx7.out.size _).alloc (le_al HBx7.out.size) _ | exact ((HBx7.out.alloc HBx7.out.size _).alloc (le_al HBx7.out.size) _).alloc (le_al (le_al HBx7.out.size)) _ | exact HBx6.out | exact HBx6.out.alloc HBx6.out.size _ | exact (HBx6.out.alloc HBx6.out.size _).alloc (le_al HBx6.out.size) _ | exact ((HBx6.out.alloc HBx6.out.size _).alloc (le_al HBx6.out.size) _).alloc (le_al (le_al HBx6.out.size)) _ | exact HBx5.out | exact HBx5.out.alloc HBx5.out.size _ | exact (HBx5.out.alloc HBx5.out.size _).alloc (le_al HBx5.out.size) _ | exact ((HBx5.out.alloc HBx5.out.size _).alloc (le_al HBx5.out.size) _).alloc (le_al (le_al HBx5.out.size)) _ | exact HBx4.out | exact HBx4.out.alloc HBx4.out.size _ | exact (HBx4.out.alloc HBx4.out.size _).alloc (le_al HBx4.out.size) _ | exact ((HBx4.out.alloc HBx4.out.size _).alloc (le_al HBx4.out.size) _).alloc (le_al (le_al HBx4.out.size)) _ | exact HBx3.out | exact HBx3.out.alloc HBx3.out.size _ | exact (HBx3.out.alloc HBx3.out.size _).alloc (le_al HBx3.out.size) _ | exact ((HBx3.out.alloc HBx3.out.size _).alloc (le_al HBx3.out.size) _).alloc (le_al (le_al HBx3.out.size)) _ | exact HBx2.out | exact HBx2.out.alloc HBx2.out.size _ | exact (HBx2.out.alloc HBx2.out.size _).alloc (le_al HBx2.out.size) _ | exact ((HBx2.out.alloc HBx2.out.size _).alloc (le_al HBx2.out.size) _).alloc (le_al (le_al HBx2.out.size)) _ | exact HBx1.out | exact HBx1.out.alloc HBx1.out.size _ | exact (HBx1.out.alloc HBx1.out.size _).alloc (le_al HBx1.out.size) _ | exact ((HBx1.out.alloc HBx1.out.size _).alloc (le_al HBx1.out.size) _).alloc (le_al (le_al HBx1.out.size)) _ | exact HBx0.out | exact HBx0.out.alloc HBx0.out.size _ | exact (HBx0.out.alloc HBx0.out.size _).alloc (le_al HBx0.out.size) _ | exact ((HBx0.out.alloc HBx0.out.size _).alloc (le_al HBx0.out.size) _).alloc (le_al (le_al HBx0.out.size)) _) (hbx9.mono (by (try simp only [World.size_alloc]); (try simp only [size_setCell']); omega)))
      have HNx9 := Lib.hid hbx9
      clear hbx9 hsx9
      have HR9 := Lib.hid hr9
      obtain ⟨s9, z9, rfl⟩ := hr9.shape
      have HLb9 := Lib.hid (HLb8.out.below HNx9.out)
      have HLa9 := Lib.hid (HLa8.out.below HNx9.out)
      clear hr9
      go_wp2_with fail
      refine (ops_l _ lb gb bI bE _ x9 HLb9.out).mono ?_
      rintro e x10 ⟨u10, rfl, hr10, hbx10⟩
      obtain ⟨hcx10, hfx10⟩ := bcell hbx10
      have hsx10 := hbx10.size
      try simp only [World.size_alloc] at hsx10
      try simp only [size_setCell'] at hsx10
      try have lex10_0 : wr.heap.size ≤ x10.heap.size := (by omega)
      try have ltx10_0 : wr.heap.size < x10.heap.size := (by omega)
      try have lex10_1 : x1.heap.size ≤ x10.heap.size := (by omega)
      try have ltx10_1 : x1.heap.size < x10.heap.size := (by omega)
      try have lex10_2 : x2.heap.size ≤ x10.heap.size := (by omega)
      try have ltx10_2 : x2.heap.size < x10.heap.size := (by omega)
      try have lex10_3 : x3.heap.size ≤ x10.heap.size := (by omega)
      try have ltx10_3 : x3.heap.size < x10.heap.size := (by omega)
      try have lex10_4 : x4.heap.size ≤ x10.heap.size := (by omega)
      try have ltx10_4 : x4.heap.size < x10.heap.size := (by omega)
      try have lex10_5 : x5.heap.size ≤ x10.heap.size := (by omega)
      try have ltx10_5 : x5.heap.size < x10.heap.size := (by omega)
      try have lex10_6 : x6.heap.size ≤ x10.heap.size := (by omega)
      try have ltx10_6 : x6.heap.size < x10.heap.size := (by omega)
      try have lex10_7 : x7.heap.size ≤ x10.heap.size := (by omega)
      try have ltx10_7 : x7.heap.size < x10.heap.size := (by omega)
      try have lex10_8 : x8.heap.size ≤ x10.heap.size := (by omega)
      try have ltx10_8 : x8.heap.size < x10.heap.size := (by omega)
      try have lex10_9 : x9.heap.size ≤ x10.heap.size := (by omega)
      try have ltx10_9 : x9.heap.size < x10.heap.size := (by omega)
      have HBx10 : Hid (Below wr.heap.size wr x10) := Lib.hid (Below.trans (by first | exact HBx9.out | exact HBx9.out.alloc HBx9.out.size _ | exact (HBx9.out.alloc HBx9.out.size _).alloc (le_al HBx9.out.size) _ | exact ((HBx9.out.alloc HBx9.out.size _).alloc (le_al HBx9.out.size) _).alloc (le_al (le_al HBx9.out.size)) _ | exact HBx8.out | exact HBx8.out.alloc HBx8.out.size _ | exact (HBx8.out.alloc HBx8.out.size _).alloc (le_al HBx8.out.size) _ | exact ((HBx8.out.alloc HBx8.out.size _).alloc (le_al HBx8.out.size) _).alloc (le_al (le_al HBx8.out.size)) _ | exact HBx7.out | exact HBx7.out.alloc HBx7.out.size _ | exact (HBx7.out.alloc HBx7.out.size _).alloc (le_al HBx7.out.size) _ | exact ((HBx7.out.alloc HBx7.out.size _).alloc (le_al HBx7.out.size) _).alloc (le_al (le_al HBx7.out.size)) _ | exact HBx6.out | exact HBx6.out.alloc HBx6.out.size _ | exact (HBx6.out.alloc HBx6.out.size _).alloc (le_al HBx6.out.size) _ | exact ((HBx6.out.alloc HBx6.out.size _).alloc (le_al HBx6.out.size) _).alloc (le_al (le_al HBx6.out.size)) _ | exact HBx5.out | exact HBx5.out.alloc HBx5.out.size _ | exact (HBx5.out.alloc HBx5.out.size _).alloc (le_al HBx5.out.size) _ | exact ((HBx5.out.alloc HBx5.out.size _).alloc (le_al HBx5.out.size) _).alloc (le_al (le_al HBx5.out.size)) _ | exact HBx4.out | exact HBx4.out.alloc HBx4.out.size _ | exact (HBx4.out.alloc HBx4.out.size _).alloc (le_al HBx4.out.size) _ | exact ((HBx4.out.alloc HBx4.out.size _).alloc (le_al HBx4.out.size) _).alloc (le_al (le_al HBx4.out.size)) _ | exact HBx3.out | exact HBx3.out.alloc HBx3.out.size _ | exact (HBx3.out.alloc HBx3.out.size _).alloc (le_al HBx3.out.size) _ | exact ((HBx3.out.alloc HBx3.out.size _).alloc (le_al HBx3.out.size) _).alloc (le_al (le_al HBx3.out.size)) _ | exact HBx2.out | exact HBx2.out.alloc HBx2.out.size _ | exact (HBx2.out.alloc HBx2.out.size _).alloc (le_al HBx2.out.size) _ | exact ((HBx2.out.alloc HBx2.out.size _).alloc (le_al HBx2.out.size) _).alloc (le_al (le_al HBx2.out.size)) _ | exact HBx1.out | exact HBx1.out.alloc HBx1.out.size _ | exact (HBx1.out.alloc HBx1.out.size _).alloc (le_al HBx1.out.size) _ | exact ((HBx1.out.alloc HBx1.out.size _).alloc (le_al HBx1.out.size) _).alloc (le_al (le_al HBx1.out.size)) _) (hbx10.mono (by (try simp only [World.size_alloc]); (try simp only [size_setCell']); omega)))
      have HNx10 := Lib.hid hbx10
      clear hbx10 hsx10
      have HR10 := Lib.hid hr10
      obtain ⟨s10, z10, rfl⟩ := hr10.shape
      have HR9s := Lib.hid (HR9.out.kept HNx10.out)
      have HLa10 := Lib.hid (HLa9.out.below HNx10.out)
      clear hr10
      go_wp2_with fail
      refine (L13.ops_same _ _ _ x10 HR9s.out.sl HR10.out.sl HSOL.out).mono ?_
      rintro e x11 ⟨rfl, hbx11⟩
      obtain ⟨hcx11, hfx11⟩ := bcell hbx11
      have hsx11 := hbx11.size
      try simp only [World.size_alloc] at hsx11
      try simp only [size_setCell'] at hsx11
      try have lex11_0 : wr.heap.size ≤ x11.heap.size := (by omega)
      try have ltx11_0 : wr.heap.size < x11.heap.size := (by omega)
      try have lex11_1 : x1.heap.size ≤ x11.heap.size := (by omega)
      try have ltx11_1 : x1.heap.size < x11.heap.size := (by omega)
      try have lex11_2 : x2.heap.size ≤ x11.heap.size := (by omega)
      try have ltx11_2 : x2.heap.size < x11.heap.size := (by omega)
      try have lex11_3 : x3.heap.size ≤ x11.heap.size := (by omega)
      try have ltx11_3 : x3.heap.size < x11.heap.size := (by omega)
      try have lex11_4 : x4.heap.size ≤ x11.heap.size := (by omega)
      try have ltx11_4 : x4.heap.size < x11.heap.size := (by omega)
      try have lex11_5 : x5.heap.size ≤ x11.heap.size := (by omega)
      try have ltx11_5 : x5.heap.size < x11.heap.size := (by omega)
      try have lex11_6 : x6.heap.size ≤ x11.heap.size := (by omega)
      try have ltx11_6 : x6.heap.size < x11.heap.size := (by omega)
      try have lex11_7 : x7.heap.size ≤ x11.heap.size := (by omega)
      try have ltx11_7 : x7.heap.size < x11.heap.size := (by omega)
      try have lex11_8 : x8.heap.size ≤ x11.heap.size := (by omega)
      try have ltx11_8 : x8.heap.size < x11.heap.size := (by omega)
      try have lex11_9 : x9.heap.size ≤ x11.heap.size := (by omega)
      try have ltx11_9 : x9.heap.size < x11.heap.size := (by omega)
      try have lex11_10 : x10.heap.size ≤ x11.heap.size := (by omega)
      try have ltx11_10 : x10.heap.size < x11.heap.size := (by omega)
      have HBx11 : Hid (Below wr.heap.size wr x11) := Lib.hid (Below.trans (by first | exact HBx10.out | exact HBx10.out.alloc HBx10.out.size _ | exact (HBx10.out.alloc HBx10.out.size _).alloc (le_al HBx10.out.size) _ | exact ((HBx10.out.alloc HBx10.out.size _).alloc (le_al HBx10.out.size) _).alloc (le_al (le_al HBx10.out.size)) _ | exact HBx9.out | exact HBx9.out.alloc HBx9.out.size _ | exact (HBx9.out.alloc HBx9.out.size _).alloc (le_al HBx9.out.size) _ | exact ((HBx9.out.alloc HBx9.out.size _).alloc (le_al HBx9.out.size) _).alloc (le_al (le_al HBx9.out.size)) _ | exact HBx8.out | exact HBx8.out.alloc HBx8.out.size _ | exact (HBx8.out.alloc HBx8.out.size _).alloc (le_al HBx8.out.size) _ | exact ((HBx8.out.alloc HBx8.out.size _).alloc (le_al HBx8.out.size) _).alloc (le_al (le_al HBx8.out.size)) _ | exact HBx7.out | exact HBx7.out.alloc HBx7.out.size _ | exact (HBx7.out.alloc HBx7.out.size _).alloc (le_al HBx7.out.size) _ | exact ((HBx7.out.alloc HBx7.out.size _).alloc (le_al HBx7.out.size) _).alloc (le_al (le_al HBx7.out.size)) _ | exact HBx6.out | exact HBx6.out.alloc HBx6.out.size _ | exact (HBx6.out.alloc HBx6.out.size _).alloc (le_al HBx6.out.size) _ | exact ((HBx6.out.alloc HBx6.out.size _).alloc (le_al HBx6.out.size) _).alloc (le_al (le_al HBx6.out.size)) _ | exact HBx5.out | exact HBx5.out.alloc HBx5.out.size _ | exact (HBx5.out.alloc HBx5.out.size _).alloc (le_al HBx5.out.size) _ | exact ((HBx5.out.alloc HBx5.out.size _).alloc (le_al HBx5.out.size) _).alloc (le_al (le_al HBx5.out.size)) _ | exact HBx4.out | exact HBx4.out.alloc HBx4.out.size _ | exact (HBx4.out.alloc HBx4.out.size _).alloc (le_al HBx4.out.size) _ | exact ((HBx4.out.alloc HBx4.out.size _).alloc (le_al HBx4.out.size) _).alloc (le_al (le_al HBx4.out.size)) _ | exact HBx3.out | exact HBx3.out.alloc HBx3.out.size _ | exact (HBx3.out.alloc HBx3.out.size _).alloc (le_al HBx3.out.size) _ | exact ((HBx3.out.alloc HBx3.out.size _).alloc (le_al HBx3.out.size) _).alloc (le_al (le_al HBx3.out.size)) _ | exact HBx2.out | exact HBx2.out.alloc HBx2.out.size _ | exact (HBx2.out.alloc HBx2.out.size _).alloc (le_al HBx2.out.size) _ | exact ((HBx2.out.alloc HBx2.out.size _).alloc (le_al HBx2.out.size) _).alloc (le_al (le_al HBx2.out.size)) _) (hbx11.mono (by (try simp only [World.size_alloc]); (try simp only [size_setCell']); omega)))
      have HNx11 := Lib.hid hbx11
      clear hbx11 hsx11
      have HLa11 := Lib.hid (HLa10.out.below HNx11.out)
      go_wp2_with fail
      refine (graph_l _ la ga aI aE _ x11 HLa11.out).mono ?_
      rintro e x12 ⟨u12, rfl, ⟨g12, i12, e12, rfl, hG12, _, _, _⟩, hbx12⟩
      obtain ⟨hcx12, hfx12⟩ := bcell hbx12
      have hsx12 := hbx12.size
      try simp only [World.size_alloc] at hsx12
      try simp only [size_setCell'] at hsx12
      try have lex12_0 : wr.heap.size ≤ x12.heap.size := (by omega)
      try have ltx12_0 : wr.heap.size < x12.heap.size := (by omega)
      try have lex12_1 : x1.heap.size ≤ x12.heap.size := (by omega)
      try have ltx12_1 : x1.heap.size < x12.heap.size := (by omega)
      try have lex12_2 : x2.heap.size ≤ x12.heap.size := (by omega)
      try have ltx12_2 : x2.heap.size < x12.heap.size := (by omega)
      try have lex12_3 : x3.heap.size ≤ x12.heap.size := (by omega)
      try have ltx12_3 : x3.heap.size < x12.heap.size := (by omega)
      try have lex12_4 : x4.heap.size ≤ x12.heap.size := (by omega)
      try have ltx12_4 : x4.heap.size < x12.heap.size := (by omega)
      try have lex12_5 : x5.heap.size ≤ x12.heap.size := (by omega)
      try have ltx12_5 : x5.heap.size < x12.heap.size := (by omega)
      try have lex12_6 : x6.heap.size ≤ x12.heap.size := (by omega)
      try have ltx12_6 : x6.heap.size < x12.heap.size := (by omega)
      try have lex12_7 : x7.heap.size ≤ x12.heap.size := (by omega)
      try have ltx12_7 : x7.heap.size < x12.heap.size := (by omega)
      try have lex12_8 : x8.heap.size ≤ x12.heap.size := (by omega)
      try have ltx12_8 : x8.heap.size < x12.heap.size := (by omega)
      try have lex12_9 : x9.heap.size ≤ x12.heap.size := (by omega)
      try have ltx12_9 : x9.heap.size < x12.heap.size := (by omega)
      try have lex12_10 : x10.heap.size ≤ x12.heap.size := (by omega)
      try have ltx12_10 : x10.heap.size < x12.heap.size := (by omega)
      try have lex12_11 : x11.heap.size ≤ x12.heap.size := (by omega)
      try have ltx12_11 : x11.heap.size < x12.heap.size := (by omega)
      have HBx12 : Hid (Below wr.heap.size wr x12) := Lib.hid (Below.trans (by first | exact HBx11.out | exact HBx11.out.alloc HBx11.out.size _ | exact (HBx11.out.alloc HBx11.out.size _).alloc (le_al HBx11.out.size) _ | exact ((HBx11.out.alloc HBx11.out.size _).alloc (le_al HBx11.out.size) _).alloc (le_al (le_al HBx11.out.size)) _ | exact HBx10.out | exact HBx10.out.alloc HBx10.out.size _ | exact (HBx10.out.alloc HBx10.out.size _).alloc (le_al HBx10.out.size) _ | exact ((HBx10.out.alloc HBx10.out.size _).alloc (le_al HBx10.out.size) _).alloc (le_al (le_al HBx10.out.size)) _ | exact HBx9.out | exact HBx9.out.alloc HBx9.out.size _ | exact (HBx9.out.alloc HBx9.out.size _).alloc (le_al HBx9.out.size) _ | exact ((HBx9.out.alloc HBx9.out.size _).alloc (le_al HBx9.out.size) _).alloc (le_al (le_al HBx9.out.size)) _ | exact HBx8.out | exact HBx8.out.alloc HBx8.out.size _ | exact (HBx8.out.alloc HBx8.out.size _).alloc (le_al HBx8.out.size) _ | exact ((HBx8.out.alloc HBx8.out.size _).alloc (le_al HBx8.out.size) _).alloc (le_al (le_al HBx8.out.size)) _ | exact HBx7.out | exact HBx7.out.alloc HBx7.out.size _ | exact (HBx7.out.alloc HBx7.out.size _).alloc (le_al HBx7.out.size) _ | exact ((HBx7.out.alloc HBx7.out.size _).alloc (le_al HBx7.out.size) _).alloc (le_al (le_al HBx7.out.size)) _ | exact HBx6.out | exact HBx6.out.alloc HBx6.out.size _ | exact (HBx6.out.alloc HBx6.out.size _).alloc (le_al HBx6.out.size) _ | exact ((HBx6.out.alloc HBx6.out.size _).alloc (le_al HBx6.out.size) _).alloc (le_al (le_al HBx6.out.size)) _ | exact HBx5.out | exact HBx5.out.alloc HBx5.out.size _ | exact (HBx5.out.alloc HBx5.out.size _).alloc (le_al HBx5.out.size) _ | exact ((HBx5.out.alloc HBx5.out.size _).alloc (le_al HBx5.out.size) _).alloc (le_al (le_al HBx5.out.size)) _ | exact HBx4.out | exact HBx4.out.alloc HBx4.out.size _ | exact (HBx4.out.alloc HBx4.out.size _).alloc (le_al HBx4.out.size) _ | exact ((HBx4.out.alloc HBx4.out.size _).alloc (le_al HBx4.out.size) _).alloc (le_al (le_al HBx4.out.size)) _ | exact HBx3.out | exact HBx3.out.alloc HBx3.out.size _ | exact (HBx3.out.alloc HBx3.out.size _).alloc (le_al HBx3.out.size) _ | exact ((HBx3.out.alloc HBx3.out.size _).alloc (le_al HBx3.out.size) _).alloc (le_al (le_al HBx3.out.size)) _) (hbx12.mono (by (try simp only [World.size_alloc]); (try simp only [size_setCell']); omega)))
      have HNx12 := Lib.hid hbx12
      clear hbx12 hsx12
      rw [HGA.out] at hG12
      have HG12 := Lib.hid (hG12.reads HOK.out (by have := HOK.out.few; omega))
      clear hG12
      go_wp2_with fail
      refine (of_any _ l x12 (HSLr.out.below HBx12.out) HSML.out (by have := HL6.out; omega)).mono ?_
      rintro e x13 ⟨u13, rfl, ⟨g13, i13, e13, rfl, hG13, _, _, _⟩, hbx13⟩
      obtain ⟨hcx13, hfx13⟩ := bcell hbx13
      have hsx13 := hbx13.size
      try simp only [World.size_alloc] at hsx13
      try simp only [size_setCell'] at hsx13
      try have lex13_0 : wr.heap.size ≤ x13.heap.size := (by omega)
      try have ltx13_0 : wr.heap.size < x13.heap.size := (by omega)
      try have lex13_1 : x1.heap.size ≤ x13.heap.size := (by omega)
      try have ltx13_1 : x1.heap.size < x13.heap.size := (by omega)
      try have lex13_2 : x2.heap.size ≤ x13.heap.size := (by omega)
      try have ltx13_2 : x2.heap.size < x13.heap.size := (by omega)
      try have lex13_3 : x3.heap.size ≤ x13.heap.size := (by omega)
      try have ltx13_3 : x3.heap.size < x13.heap.size := (by omega)
      try have lex13_4 : x4.heap.size ≤ x13.heap.size := (by omega)
      try have ltx13_4 : x4.heap.size < x13.heap.size := (by omega)
      try have lex13_5 : x5.heap.size ≤ x13.heap.size := (by omega)
      try have ltx13_5 : x5.heap.size < x13.heap.size := (by omega)
      try have lex13_6 : x6.heap.size ≤ x13.heap.size := (by omega)
      try have ltx13_6 : x6.heap.size < x13.heap.size := (by omega)
      try have lex13_7 : x7.heap.size ≤ x13.heap.size := (by omega)
      try have ltx13_7 : x7.heap.size < x13.heap.size := (by omega)
      try have lex13_8 : x8.heap.size ≤ x13.heap.size := (by omega)
      try have ltx13_8 : x8.heap.size < x13.heap.size := (by omega)
      try have lex13_9 : x9.heap.size ≤ x13.heap.size := (by omega)
      try have ltx13_9 : x9.heap.size < x13.heap.size := (by omega)
      try have lex13_10 : x10.heap.size ≤ x13.heap.size := (by omega)
      try have ltx13_10 : x10.heap.size < x13.heap.size := (by omega)
      try have lex13_11 : x11.heap.size ≤ x13.heap.size := (by omega)
      try have ltx13_11 : x11.heap.size < x13.heap.size := (by omega)
      try have lex13_12 : x12.heap.size ≤ x13.heap.size := (by omega)
      try have ltx13_12 : x12.heap.size < x13.heap.size := (by omega)
      have HBx13 : Hid (Below wr.heap.size wr x13) := Lib.hid (Below.trans (by first | exact HBx12.out | exact HBx12.out.alloc HBx12.out.size _ | exact (HBx12.out.alloc HBx12.out.size _).alloc (le_al HBx12.out.size) _ | exact ((HBx12.out.alloc HBx12.out.size _).alloc (le_al HBx12.out.size) _).alloc (le_al (le_al HBx12.out.size)) _ | exact HBx11.out | exact HBx11.out.alloc HBx11.out.size _ | exact (HBx11.out.alloc HBx11.out.size _).alloc (le_al HBx11.out.size) _ | exact ((HBx11.out.alloc HBx11.out.size _).alloc (le_al HBx11.out.size) _).alloc (le_al (le_al HBx11.out.size)) _ | exact HBx10.out | exact HBx10.out.alloc HBx10.out.size _ | exact (HBx10.out.alloc HBx10.out.size _).alloc (le_al HBx10.out.size) _ | exact ((HBx10.out.alloc HBx10.out.size _).alloc (le_al HBx10.out.size) _).alloc (le_al (le_al HBx10.out.size)) _ | exact HBx9.out | exact HBx9.out.alloc HBx9.out.size _ | exact (HBx9.out.alloc HBx9.out.size _).alloc (le_al HBx9.out.size) _ | exact ((HBx9.out.alloc HBx9.out.size _).alloc (le_al HBx9.out.size) _).alloc (le_al (le_al HBx9.out.size)) _ | exact HBx8.out | exact HBx8.out.alloc HBx8.out.size _ | exact (HBx8.out.alloc HBx8.out.size _).alloc (le_al HBx8.out.size) _ | exact ((HBx8.out.alloc HBx8.out.size _).alloc (le_al HBx8.out.size) _).alloc (le_al (le_al HBx8.out.size)) _ | exact HBx7.out | exact HBx7.out.alloc HBx7.out.size _ | exact (HBx7.out.alloc HBx7.out.size _).alloc (le_al HBx7.out.size) _ | exact ((HBx7.out.alloc HBx7.out.size _).alloc (le_al HBx7.out.size) _).alloc (le_al (le_al HBx7.out.size)) _ | exact HBx6.out | exact HBx6.out.alloc HBx6.out.size _ | exact (HBx6.out.alloc HBx6.out.size _).alloc (le_al HBx6.out.size) _ | exact ((HBx6.out.alloc HBx6.out.size _).alloc (le_al HBx6.out.size) _).alloc (le_al (le_al HBx6.out.size)) _ | exact HBx5.out | exact HBx5.out.alloc HBx5.out.size _ | exact (HBx5.out.alloc HBx5.out.size _).alloc (le_al HBx5.out.size) _ | exact ((HBx5.out.alloc HBx5.out.size _).alloc (le_al HBx5.out.size) _).alloc (le_al (le_al HBx5.out.size)) _ | exact HBx4.out | exact HBx4.out.alloc HBx4.out.size _ | exact (HBx4.out.alloc HBx4.out.size _).alloc (le_al HBx4.out.size) _ | exact ((HBx4.out.alloc HBx4.out.size _).alloc (le_al HBx4.out.size) _).alloc (le_al (le_al HBx4.out.size)) _) (hbx13.mono (by (try simp only [World.size_alloc]); (try simp only [size_setCell']); omega)))
      have HNx13 := Lib.hid hbx13
      clear hbx13 hsx13
      have HG13 := Lib.hid (hG13.reads HOK.out (by have := HOK.out.few; omega))
      have HG12s := Lib.hid (HG12.out.below HNx13.out)
      clear hG13
      go_wp2_with fail
      refine (same_any g12 g13 _ x13 HOK.out HG12s.out HG13.out).mono ?_
      rintro e x14 ⟨rfl, hbx14⟩
      obtain ⟨hcx14, hfx14⟩ := bcell hbx14
      have hsx14 := hbx14.size
      try simp only [World.size_alloc] at hsx14
      try simp only [size_setCell'] at hsx14
      try have lex14_0 : wr.heap.size ≤ x14.heap.size := (by omega)
      try have ltx14_0 : wr.heap.size < x14.heap.size := (by omega)
      try have lex14_1 : x1.heap.size ≤ x14.heap.size := (by omega)
      try have ltx14_1 : x1.heap.size < x14.heap.size := (by omega)
      try have lex14_2 : x2.heap.size ≤ x14.heap.size := (by omega)
      try have ltx14_2 : x2.heap.size < x14.heap.size := (by omega)
      try have lex14_3 : x3.heap.size ≤ x14.heap.size := (by omega)
      try have ltx14_3 : x3.heap.size < x14.heap.size := (by omega)
      try have lex14_4 : x4.heap.size ≤ x14.heap.size := (by omega)
      try have ltx14_4 : x4.heap.size < x14.heap.size := (by omega)
      try have lex14_5 : x5.heap.size ≤ x14.heap.size := (by omega)
      try have ltx14_5 : x5.heap.size < x14.heap.size := (by omega)
      try have lex14_6 : x6.heap.size ≤ x14.heap.size := (by omega)
      try have ltx14_6 : x6.heap.size < x14.heap.size := (by omega)
      try have lex14_7 : x7.heap.size ≤ x14.heap.size := (by omega)
      try have ltx14_7 : x7.heap.size < x14.heap.size := (by omega)
      try have lex14_8 : x8.heap.size ≤ x14.heap.size := (by omega)
      try have ltx14_8 : x8.heap.size < x14.heap.size := (by omega)
      try have lex14_9 : x9.heap.size ≤ x14.heap.size := (by omega)
      try have ltx14_9 : x9.heap.size < x14.heap.size := (by omega)
      try have lex14_10 : x10.heap.size ≤ x14.heap.size := (by omega)
      try have ltx14_10 : x10.heap.size < x14.heap.size := (by omega)
      try have lex14_11 : x11.heap.size ≤ x14.heap.size := (by omega)
      try have ltx14_11 : x11.heap.size < x14.heap.size := (by omega)
      try have lex14_12 : x12.heap.size ≤ x14.heap.size := (by omega)
      try have ltx14_12 : x12.heap.size < x14.heap.size := (by omega)
      try have lex14_13 : x13.heap.size ≤ x14.heap.size := (by omega)
      try have ltx14_13 : x13.heap.size < x14.heap.size := (by omega)
      have HBx14 : Hid (Below wr.heap.size wr x14) := Lib.hid (Below.trans (by first | exact HBx13.out | exact HBx13.out.alloc HBx13.out.size _ | exact (HBx13.out.alloc HBx13.out.size _).alloc (le_al HBx13.out.size) _ | exact ((HBx13.out.alloc HBx13.out.size _).alloc (le_al HBx13.out.size) _).alloc (le_al (le_al HBx13.out.size)) _ | exact HBx12.out | exact HBx12.out.alloc HBx12.out.size _ | exact (HBx12.out.alloc HBx12.out.size _).alloc (le_al HBx12.out.size) _ | exact ((HBx12.out.alloc HBx12.out.size _).alloc (le_al HBx12.out.size) _).alloc (le_al (le_al HBx12.out.size)) _ | exact HBx11.out | exact HBx11.out.alloc HBx11.out.size _ | exact (HBx11.out.alloc HBx11.out.size _).alloc (le_al HBx11.out.size) _ | exact ((HBx11.out.alloc HBx11.out.size _).alloc (le_al HBx11.out.size) _).alloc (le_al (le_al HBx11.out.size)) _ | exact HBx10.out | exact HBx10.out.alloc HBx10.out.size _ | exact (HBx10.out.alloc HBx10.out.size _).alloc (le_al HBx10.out.size) _ | exact ((HBx10.out.alloc HBx10.out.size _).alloc (le_al HBx10.out.size) _).alloc (le_al (le_al HBx10.out.size)) _ | exact HBx9.out | exact HBx9.out.alloc HBx9.out.size _ | exact (HBx9.out.alloc HBx9.out.size _).alloc (le_al HBx9.out.size) _ | exact ((HBx9.out.alloc HBx9.out.size _).alloc (le_al HBx9.out.size) _).alloc (le_al (le_al HBx9.out.size)) _ | exact HBx8.out | exact HBx8.out.alloc HBx8.out.size _ | exact (HBx8.out.alloc HBx8.out.size _).alloc (le_al HBx8.out.size) _ | exact ((HBx8.out.alloc HBx8.out.size _).alloc (le_al HBx8.out.size) _).alloc (le_al (le_al HBx8.out.size)) _ | exact HBx7.out | exact HBx7.out.alloc HBx7.out.size _ | exact (HBx7.out.alloc HBx7.out.size _).alloc (le_al HBx7.out.size) _ | exact ((HBx7.out.alloc HBx7.out.size _).alloc (le_al HBx7.out.size) _).alloc (le_al (le_al HBx7.out.size)) _ | exact HBx6.out | exact HBx6.out.alloc HBx6.out.size _ | exact (HBx6.out.alloc HBx6.out.size _).alloc (le_al HBx6.out.size) _ | exact ((HBx6.out.alloc HBx6.out.size _).alloc (le_al HBx6.out.size) _).alloc (le_al (le_al HBx6.out.size)) _ | exact HBx5.out | exact HBx5.out.alloc HBx5.out.size _ | exact (HBx5.out.alloc HBx5.out.size _).alloc (le_al HBx5.out.size) _ | exact ((HBx5.out.alloc HBx5.out.size _).alloc (le_al HBx5.out.size) _).alloc (le_al (le_al HBx5.out.size)) _) (hbx14.mono (by (try simp only [World.size_alloc]); (try simp only [size_setCell']); omega)))
      have HNx14 := Lib.hid hbx14
      clear hbx14 hsx14
      go_wp2
      go_ret
      exact ⟨rfl, HBW.out.trans (HBx14.out.mono HBW.out.size)⟩

set_option maxRecDepth 100000 in
set_option maxHeartbeats 8000000 in
theorem order_walk (v1 : Value) (l : List Op) (v2 : Value) (tu : List Int) (w : World) (hs1 : SlAt w 13 Op.cells v1 l) (hn1 : ∀ o ∈ l, o.Small) (hs2 : SlAt w 1 U8.cells v2 tu) (hn2 : ∀ z ∈ tu, (Lit.int .u8 z).wf = true) :
    Calls Tryz.prog 12 #[v1, v2] w fun y w' => y = .returned (.bool true) ∧ Below w.heap.size w w' := by
  by_cases hl : l.length ≤ 60
  · by_cases hn : (sortOps l).length = 0
    · by_cases ht : tu.length = 0
      · exact order_M v1 l v2 tu w hs1 hn1 hs2 hn2 hl tu.length (.inl ⟨rfl, by omega⟩) (.inr ht)
      · exact order_n0 v1 l v2 tu w hs1 hn1 hs2 hn2 hl (by omega) hn
    · by_cases h2 : tu.length ≤ 100
      · exact order_M v1 l v2 tu w hs1 hn1 hs2 hn2 hl tu.length (.inl ⟨rfl, h2⟩) (.inl (by omega))
      · exact order_M v1 l v2 tu w hs1 hn1 hs2 hn2 hl 100 (.inr ⟨rfl, by omega⟩) (.inl (by omega))
  · have HB0 : Hid (Below w.heap.size w w) := Lib.hid (Below.refl _ _)
    have hli : (60 : Int) < (l.length : Int) := by omega
    obtain ⟨a1, c1_, rfl⟩ := hs1.len
    obtain ⟨a2, c2_, rfl⟩ := hs2.len
    clear hs1 hs2 hn1 hn2 hl
    go_enter Tryz.func12, Tryz.ntmps12
    go_wp2_with fail
    refine (shown_any _).mono ?_
    rintro e w1 ⟨rfl, hb1⟩
    obtain ⟨hc1, hf1⟩ := bcell hb1
    have hs1 := hb1.size
    try simp only [World.size_alloc] at hs1
    try simp only [size_setCell'] at hs1
    try have le1_0 : w.heap.size ≤ w1.heap.size := (by omega)
    try have lt1_0 : w.heap.size < w1.heap.size := (by omega)
    have HB1 : Hid (Below w.heap.size w w1) := Lib.hid (Below.trans (by first | exact HB0.out | exact HB0.out.alloc HB0.out.size _ | exact (HB0.out.alloc HB0.out.size _).alloc (le_al HB0.out.size) _ | exact ((HB0.out.alloc HB0.out.size _).alloc (le_al HB0.out.size) _).alloc (le_al (le_al HB0.out.size)) _) (hb1.mono (by (try simp only [World.size_alloc]); (try simp only [size_setCell']); omega)))
    have HN1 := Lib.hid hb1
    clear hb1 hs1
    go_wp2
    go_ret
    exact ⟨rfl, HB1.out⟩
end Go.Proofs.YtlokljaeknmdpaaGreat.L14
