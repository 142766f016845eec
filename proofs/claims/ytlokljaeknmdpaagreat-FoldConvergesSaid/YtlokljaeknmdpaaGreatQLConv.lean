/-
  thimblelaw13.FoldConverges: the same operations in whatever order, and however often, make the same graph, and that is fine; no condition but the texts' reach.
-/
import Derived.Test.YtlokljaeknmdpaaGreatKDist
import Derived.Test.YtlokljaeknmdpaaGreatQOpenU
import Derived.Test.YtlokljaeknmdpaaGreatKOps
import Derived.Test.YtlokljaeknmdpaaGreatQAudJ
import Derived.Laws.AppendOwnNone
namespace Go.Proofs.YtlokljaeknmdpaaGreat.L13
open Go.RowKit Go.Shelf Go.Proofs

theorem u8_bounds {n : Int} (h : (Lit.int .u8 n).wf = true) : 0 ≤ n ∧ n ≤ 255 := by
  unfold Lit.wf at h
  simp only [Bool.and_eq_true, decide_eq_true_eq] at h
  exact h
theorem rem_less {n : Nat} {j : Int} (hj : 0 ≤ j) (hn : 0 < n) : ∃ m : Nat, j.tmod (n : Int) = (m : Int) ∧ m < n := by
  have h1 : 0 ≤ j.tmod (n : Int) := Int.tmod_nonneg _ hj
  have h2 : j.tmod (n : Int) < (n : Int) := Int.tmod_lt_of_pos _ (by omega)
  exact ⟨(j.tmod (n : Int)).toNat, by omega, by omega⟩
theorem name_small13 {s : ByteArray} (h : nameOk s = true) : s.size ≤ maxLen := by
  unfold nameOk at h
  simp only [Bool.and_eq_true, decide_eq_true_eq] at h
  unfold maxLen; omega
/-- append of a row of operations, nil or not, onto a row of the call's own -/
theorem wpList_append_opsr {w : World} {ops : Array Oper} {rest : List Oper} {o : Oper} {a : Act} {Q : Exit → Act → World → Prop} (hgd : o.guard = none) (s x : Operand)
    (ho : o.op = .call { callee := .builtin .append, args := #[s, x], argTypes := #[40, 40] }) (B : Nat) (ad : Addr) (hs : a.eval s = .slice (some ad) 0 0) (hown : w.ownsRow B 47 13 (.slice (some ad) 0 0) 0 [])
    (B2 : Nat) (u : Value) (l : List Op) (hx : a.eval x = u) (hsrc : OpsRow B2 u l w) (hn : l.length ≤ 100000) (hB : B ≤ w.heap.size)
    (h : ∀ v' w', OpsRow B v' l w' → w.grownBy w' (some ad.block) → v' ≠ .slice none 0 0 → wpList Tryz.prog ops Q rest (a.put o.dst v') w') : wpList Tryz.prog ops Q (o :: rest) a w := by
  obtain ⟨i0, hinf, hz0, hz1, hz2⟩ := info_parts infoOp
  rcases hsrc.two with ⟨rfl, rfl⟩ | ⟨g, c, rfl, _, _⟩
  · refine wpList_append_own_none hgd s x 40 ho B 47 i0 13 Tryz.underlying40 hinf _ 0 [] hs hown hx (h _ w hown ⟨rfl, rfl, rfl, Nat.le_refl _, fun _ _ _ => rfl⟩ (by simp))
  · refine wpList_append_own w hgd s x 40 ho B 47 i0 _ 13 128 Tryz.underlying40 hinf hz0 hz1 hz2 rfl (by decide) _ 0 [] hs hown ⟨g, 0, none⟩ l.length c (l.flatMap Op.cells) hx (flat_len (f := Op.cells) (k := 13) (fun _ => rfl) l) ?_ (fun v hv => by
      obtain ⟨z, _, hz⟩ := List.mem_flatMap.1 hv
      exact Op.one z v hz) (by simp only [maxLen]; omega) (by omega) hB fun v' w' h1 h2 h3 => h v' w' (by simp only [Nat.zero_add, List.nil_append] at h1; exact h1) h2 (fun e => by have := (h3.1 e).1; cases this)
    intro j u hj
    rcases hsrc.2 with ⟨h0, _⟩ | ⟨g', cap', cur, h0, _, hh, _, _, _, h4⟩
    · cases h0
    · simp only [Value.slice.injEq, Option.some.injEq, Addr.mk.injEq, and_true, true_and] at h0
      obtain ⟨rfl, rfl⟩ := h0
      rw [Addr.add_lit, Nat.zero_add]
      simp only [World.cell?, hh]
      rw [← h4, List.getElem?_take] at hj
      split at hj
      · simpa using hj
      · cases hj

set_option maxRecDepth 100000 in
set_option maxHeartbeats 8000000 in
theorem conv_T_T (v1 : Value) (l : List Op) (v2 : Value) (tu : List Int) (w : World) (hs1 : SlAt w 13 Op.cells v1 l) (hn1 : ∀ o ∈ l, o.Small) (hs2 : SlAt w 1 U8.cells v2 tu) (hn2 : ∀ z ∈ tu, (Lit.int .u8 z).wf = true) (hl60 : decide (l.length ≤ 60) = true) (hT : tu.length ≤ 100) (hN : 0 < (distinctOf l).length ∨ tu.length = 0) (hT2 : tu.length ≤ 20) :
    Calls Tryz.prog 13 #[v1, v2] w fun y w' => y = .returned (.bool true) ∧ Below w.heap.size w w' := by
  have HF1 := Lib.hid (fun W (hW : Below w.heap.size w W) => few_any v1 l W (hs1.below hW))
  have HDI := Lib.hid (fun (hl : l.length ≤ 1000) W (hW : Below w.heap.size w W) => distinct_any v1 l W (hs1.below hW) hl)
  have HS2 : Hid (∀ W, Below w.heap.size w W → SlAt W 1 U8.cells v2 tu) := Lib.hid fun W hW => hs2.below hW
  have HWF := Lib.hid hn2
  have HNM : Hid (∀ o ∈ distinctOf l, o.Small) := Lib.hid fun o ho => hn1 o ((dist_sub l []).subset ho)
  have HB0 : Hid (Below w.heap.size w w) := Lib.hid (Below.refl _ _)
  have HFW : Hid (∀ bl : List Op, (∀ x, x ∈ bl ↔ x ∈ distinctOf l) → ofOps bl = ofOps (distinctOf l) ∧ sortOps bl = sortOps (distinctOf l)) := Lib.hid fun bl hb => by
    have e := same_sort (distinct_one l) hb
    exact ⟨by unfold ofOps; rw [e], e⟩
  have HFI : Hid (fineB (ofOps (distinctOf l)).n (ofOps (distinctOf l)).e = true) := Lib.hid (ran_fine _).fine
  have HL6 : Hid (l.length ≤ 60) := Lib.hid (of_decide_eq_true hl60)
  have hdl : (distinctOf l).length ≤ 60 := Nat.le_trans (dist_len l []) HL6.out
  obtain ⟨i0, hinf, hz0, hz1, hz2⟩ := info_parts infoOp
  obtain ⟨a1, c1_, rfl⟩ := hs1.len
  obtain ⟨a2, c2_, rfl⟩ := hs2.len
  rw [hl60] at HF1
  clear hs1 hs2 hn1 hn2 hl60
  have HDI := Lib.hid (HDI.out (by have := HL6.out; omega))
  generalize distinctOf l = A at *
  go_enter Tryz.func13, Tryz.ntmps13
  go_wp2_with fail
  refine (shown_any _).mono ?_
  rintro e w1 ⟨rfl, hb1⟩
  obtain ⟨hc1, hf1⟩ := bcell hb1
  have hs1 := hb1.size
  try simp only [World.size_alloc] at hs1
  try simp only [size_setCell'] at hs1
  try have le1_0 : w.heap.size ≤ w1.heap.size := (by omega)
  try have lt1_0 : w.heap.size < w1.heap.size := (by omega)
  have HB1 : Hid (Below w.heap.size w w1) := Lib.hid (Below.trans (by first | exact HB0.out | exact HB0.out.alloc HB0.out.size _ | exact (HB0.out.alloc HB0.out.size _).alloc (le_al HB0.out.size) _ | exact ((HB0.out.alloc HB0.out.size _).alloc (le_al HB0.out.size) _).alloc (le_al (le_al HB0.out.size)) _) (hb1.mono (by (try simp only [World.size_alloc]); (try simp only [size_setCell']); omega)))
  have HN1 := Lib.hid hb1
  clear hb1 hs1
  go_wp2_with (go_at_call 35; refine (HF1.out _ HB1.out).mono ?_; rintro y w' ⟨rfl, rfl⟩)
  go_wp2_with fail
  refine (HDI.out _ (by first | exact HB1.out | exact HB1.out.alloc HB1.out.size _ | exact (HB1.out.alloc HB1.out.size _).alloc (le_al HB1.out.size) _ | exact ((HB1.out.alloc HB1.out.size _).alloc (le_al HB1.out.size) _).alloc (le_al (le_al HB1.out.size)) _)).mono ?_
  rintro e w2 ⟨va, rfl, hra, hb2⟩
  obtain ⟨hc2, hf2⟩ := bcell hb2
  have hs2 := hb2.size
  try simp only [World.size_alloc] at hs2
  try simp only [size_setCell'] at hs2
  try have le2_0 : w.heap.size ≤ w2.heap.size := (by omega)
  try have lt2_0 : w.heap.size < w2.heap.size := (by omega)
  try have le2_1 : w1.heap.size ≤ w2.heap.size := (by omega)
  try have lt2_1 : w1.heap.size < w2.heap.size := (by omega)
  have HB2 : Hid (Below w.heap.size w w2) := Lib.hid (Below.trans (by first | exact HB1.out | exact HB1.out.alloc HB1.out.size _ | exact (HB1.out.alloc HB1.out.size _).alloc (le_al HB1.out.size) _ | exact ((HB1.out.alloc HB1.out.size _).alloc (le_al HB1.out.size) _).alloc (le_al (le_al HB1.out.size)) _) (hb2.mono (by (try simp only [World.size_alloc]); (try simp only [size_setCell']); omega)))
  have HN2 := Lib.hid hb2
  clear hb2 hs2
  have HRA := Lib.hid hra
  obtain ⟨pa, ca, rfl⟩ := hra.shape
  clear hra
  go_wp2_with (at_builtin; refine wpList_append_opsr rfl _ _ rfl w2.heap.size ⟨w2.heap.size, 0, none⟩ rfl (World.ownsRow_made w2 #[] 0 (Nat.le_refl _) (by decide) rfl) _ _ A rfl (HRA.out.kept ((Below.refl _ w2).alloc (Nat.le_refl _) _)) (by omega) (by simp) ?_; intro v7 w3 hr7 hg7 hn7; have HR7 := Lib.hid hr7; have HB73 : Hid (Below w2.heap.size w2 w3) := Lib.hid (((Below.refl _ w2).alloc (Nat.le_refl _) _).trans (grownBy_below hg7 (by simp) (fun k e => by simp at e; omega))); have hsh : ∃ g c, v7 = .slice (some ⟨g, 0, none⟩) A.length c := (by rcases hr7.two with ⟨e, _⟩ | ⟨g, c, e, _⟩; exact absurd e hn7; exact ⟨g, c, e⟩); obtain ⟨g, c, rfl⟩ := hsh; clear hr7 hg7 hn7)
  have HGE : Hid (w2.heap.size ≤ g) := Lib.hid (rowGe HR7.out rfl)
  go_wp2
  go_loopg [8] tu.length (fun gg s8 wr => ∃ (i : Nat) (bl : List Op), s8 = .int .i64 i ∧ i ≤ tu.length ∧ tu.length - i ≤ gg ∧ bl.length = A.length ∧ Aside (OpsRow w2.heap.size (.slice (some ⟨g, 0, none⟩) bl.length c) bl wr) ∧ Aside (∀ x, x ∈ bl ↔ x ∈ A) ∧ Aside (Below w2.heap.size w2 wr))
  case atStart => exact ⟨0, A, rfl, Nat.zero_le _, by omega, rfl, (show Aside _ from HR7.out), (show Aside _ from fun _ => Iff.rfl), (show Aside _ from HB73.out)⟩
  case round =>
    obtain ⟨i, bl, rfl, hil, hgg, hbl, hRW, hMB, hB⟩ := hrel
    have hi0 : (0 : Int) ≤ (i : Int) := by omega
    have hwi : IntKind.i64.wrap ((i : Int) + 1) = (i : Int) + 1 := wrapNat (i + 1) (by omega)
    by_cases hlt : i < tu.length
    · have d1 : decide (i < tu.length) = true := decide_eq_true (by omega)
      have c1 : (i : Int) < (tu.length : Int) := by omega
      have d2 : decide (i < 100) = true := decide_eq_true (by omega)
      have c2 : (i : Int) < 100 := by omega
      have hn0 : 0 < A.length := by omega
      have d3 : decide (0 < A.length) = true := decide_eq_true hn0
      have c3 : (0 : Int) < (A.length : Int) := by omega
      have hsx := HS2.out wr (HB2.out.trans (hB.out.mono HB2.out.size))
      obtain ⟨tb, tq, rfl, _, htc⟩ := slAt_at hsx (show i < tu.length by omega)
      have t0 := htc i (by omega) 0 _ rfl
      rw [Nat.add_zero, Nat.mul_one] at t0
      obtain ⟨ht0, ht1⟩ := u8_bounds (HWF.out _ (getElem!_mem (show i < tu.length by omega)))
      generalize tu[i]! = t at *
      have hwt : IntKind.i64.wrap t = t := by rw [IntKind.wrap_i64]; omega
      obtain ⟨X, hX, hXl⟩ := rem_less (j := t) ht0 hn0
      obtain ⟨Y, hY, hYl⟩ := rem_less (j := (X : Int) + (i : Int) + 1) (by omega) hn0
      have hw2 : IntKind.i64.wrap ((X : Int) + (i : Int)) = (X : Int) + (i : Int) := by rw [IntKind.wrap_i64]; omega
      have hw3 : IntKind.i64.wrap ((X : Int) + (i : Int) + 1) = (X : Int) + (i : Int) + 1 := by rw [IntKind.wrap_i64]; omega
      have hne : ¬ ((A.length : Int) = 0) := by omega
      have hX0 : (0 : Int) ≤ (X : Int) := by omega
      have hY0 : (0 : Int) ≤ (Y : Int) := by omega
      have hXc : (X : Int) < (A.length : Int) := by omega
      have hYc : (Y : Int) < (A.length : Int) := by omega
      have HXY : Hid (X < bl.length ∧ Y < bl.length) := Lib.hid ⟨by omega, by omega⟩
      have hsl := hRW.out.sl
      obtain ⟨gb', go', hge, hgl, hgc⟩ := slAt_at hsl HXY.out.1
      simp only [Option.some.injEq, Addr.mk.injEq, and_true] at hge
      obtain ⟨rfl, rfl⟩ := hge
      obtain ⟨x0, x1, x2, x3, x4, x5, x6, x7, x8, x9, x10, x11, x12⟩ := cellsOpF hgc X HXY.out.1
      obtain ⟨y0, y1, y2, y3, y4, y5, y6, y7, y8, y9, y10, y11, y12⟩ := cellsOpF hgc Y HXY.out.2
      simp only [Nat.zero_add] at x0 x1 x2 x3 x4 x5 x6 x7 x8 x9 x10 x11 x12 y0 y1 y2 y3 y4 y5 y6 y7 y8 y9 y10 y11 y12
      have HSW : Hid (∀ x, x ∈ (bl.set X bl[Y]!).set Y bl[X]! ↔ x ∈ A) := Lib.hid fun x => ((swap_perm HXY.out.1 HXY.out.2).mem_iff).trans (hMB.out x)
      clear hsx htc hsl hgc
      generalize bl[X]! = bx at *
      generalize bl[Y]! = bq at *
      go_upto_region 12 with (fail)
      refine wp_region_lit ?_
      iterate 7 (refine wpList_plain rfl fun K hK => ?_; unfold Oper.wp; go_simp; refine hK _ _ ?_; clear hK)
      refine wpList_store_op rfl _ _ rfl w2.heap.size g c X bl bq (OpsRow.kept hRW.out ((Below.refl _ wr).alloc (Nat.le_refl _) _)) HXY.out.1 rfl rfl ?_
      intro W1 hr1 hgr
      have HR1 := Lib.hid hr1
      have HG1 := Lib.hid hgr
      have hx0 := (hgr.cell (a := ⟨wr.heap.size, 0, none⟩) (cell_new wr _ rfl _ _ 0 _ rfl : (wr.alloc (.cells #[.int .i64 bx.stamp.t, .int .i64 bx.stamp.r, .int .i64 bx.kind, .int .i64 bx.at_.t, .int .i64 bx.at_.r, .int .i64 bx.ino.t, .int .i64 bx.ino.r, .int .i64 bx.to.t, .int .i64 bx.to.r, .string bx.name, .string bx.new, .int .i64 bx.off, .string bx.data] 47)).cell? _ = some _) (by intro e; simp at e; omega))
      have hx1 := (hgr.cell (a := ⟨wr.heap.size, 1, none⟩) (cell_new wr _ rfl _ _ 1 _ rfl : (wr.alloc (.cells #[.int .i64 bx.stamp.t, .int .i64 bx.stamp.r, .int .i64 bx.kind, .int .i64 bx.at_.t, .int .i64 bx.at_.r, .int .i64 bx.ino.t, .int .i64 bx.ino.r, .int .i64 bx.to.t, .int .i64 bx.to.r, .string bx.name, .string bx.new, .int .i64 bx.off, .string bx.data] 47)).cell? _ = some _) (by intro e; simp at e; omega))
      have hx2 := (hgr.cell (a := ⟨wr.heap.size, 2, none⟩) (cell_new wr _ rfl _ _ 2 _ rfl : (wr.alloc (.cells #[.int .i64 bx.stamp.t, .int .i64 bx.stamp.r, .int .i64 bx.kind, .int .i64 bx.at_.t, .int .i64 bx.at_.r, .int .i64 bx.ino.t, .int .i64 bx.ino.r, .int .i64 bx.to.t, .int .i64 bx.to.r, .string bx.name, .string bx.new, .int .i64 bx.off, .string bx.data] 47)).cell? _ = some _) (by intro e; simp at e; omega))
      have hx3 := (hgr.cell (a := ⟨wr.heap.size, 3, none⟩) (cell_new wr _ rfl _ _ 3 _ rfl : (wr.alloc (.cells #[.int .i64 bx.stamp.t, .int .i64 bx.stamp.r, .int .i64 bx.kind, .int .i64 bx.at_.t, .int .i64 bx.at_.r, .int .i64 bx.ino.t, .int .i64 bx.ino.r, .int .i64 bx.to.t, .int .i64 bx.to.r, .string bx.name, .string bx.new, .int .i64 bx.off, .string bx.data] 47)).cell? _ = some _) (by intro e; simp at e; omega))
      have hx4 := (hgr.cell (a := ⟨wr.heap.size, 4, none⟩) (cell_new wr _ rfl _ _ 4 _ rfl : (wr.alloc (.cells #[.int .i64 bx.stamp.t, .int .i64 bx.stamp.r, .int .i64 bx.kind, .int .i64 bx.at_.t, .int .i64 bx.at_.r, .int .i64 bx.ino.t, .int .i64 bx.ino.r, .int .i64 bx.to.t, .int .i64 bx.to.r, .string bx.name, .string bx.new, .int .i64 bx.off, .string bx.data] 47)).cell? _ = some _) (by intro e; simp at e; omega))
      have hx5 := (hgr.cell (a := ⟨wr.heap.size, 5, none⟩) (cell_new wr _ rfl _ _ 5 _ rfl : (wr.alloc (.cells #[.int .i64 bx.stamp.t, .int .i64 bx.stamp.r, .int .i64 bx.kind, .int .i64 bx.at_.t, .int .i64 bx.at_.r, .int .i64 bx.ino.t, .int .i64 bx.ino.r, .int .i64 bx.to.t, .int .i64 bx.to.r, .string bx.name, .string bx.new, .int .i64 bx.off, .string bx.data] 47)).cell? _ = some _) (by intro e; simp at e; omega))
      have hx6 := (hgr.cell (a := ⟨wr.heap.size, 6, none⟩) (cell_new wr _ rfl _ _ 6 _ rfl : (wr.alloc (.cells #[.int .i64 bx.stamp.t, .int .i64 bx.stamp.r, .int .i64 bx.kind, .int .i64 bx.at_.t, .int .i64 bx.at_.r, .int .i64 bx.ino.t, .int .i64 bx.ino.r, .int .i64 bx.to.t, .int .i64 bx.to.r, .string bx.name, .string bx.new, .int .i64 bx.off, .string bx.data] 47)).cell? _ = some _) (by intro e; simp at e; omega))
      have hx7 := (hgr.cell (a := ⟨wr.heap.size, 7, none⟩) (cell_new wr _ rfl _ _ 7 _ rfl : (wr.alloc (.cells #[.int .i64 bx.stamp.t, .int .i64 bx.stamp.r, .int .i64 bx.kind, .int .i64 bx.at_.t, .int .i64 bx.at_.r, .int .i64 bx.ino.t, .int .i64 bx.ino.r, .int .i64 bx.to.t, .int .i64 bx.to.r, .string bx.name, .string bx.new, .int .i64 bx.off, .string bx.data] 47)).cell? _ = some _) (by intro e; simp at e; omega))
      have hx8 := (hgr.cell (a := ⟨wr.heap.size, 8, none⟩) (cell_new wr _ rfl _ _ 8 _ rfl : (wr.alloc (.cells #[.int .i64 bx.stamp.t, .int .i64 bx.stamp.r, .int .i64 bx.kind, .int .i64 bx.at_.t, .int .i64 bx.at_.r, .int .i64 bx.ino.t, .int .i64 bx.ino.r, .int .i64 bx.to.t, .int .i64 bx.to.r, .string bx.name, .string bx.new, .int .i64 bx.off, .string bx.data] 47)).cell? _ = some _) (by intro e; simp at e; omega))
      have hx9 := (hgr.cell (a := ⟨wr.heap.size, 9, none⟩) (cell_new wr _ rfl _ _ 9 _ rfl : (wr.alloc (.cells #[.int .i64 bx.stamp.t, .int .i64 bx.stamp.r, .int .i64 bx.kind, .int .i64 bx.at_.t, .int .i64 bx.at_.r, .int .i64 bx.ino.t, .int .i64 bx.ino.r, .int .i64 bx.to.t, .int .i64 bx.to.r, .string bx.name, .string bx.new, .int .i64 bx.off, .string bx.data] 47)).cell? _ = some _) (by intro e; simp at e; omega))
      have hx10 := (hgr.cell (a := ⟨wr.heap.size, 10, none⟩) (cell_new wr _ rfl _ _ 10 _ rfl : (wr.alloc (.cells #[.int .i64 bx.stamp.t, .int .i64 bx.stamp.r, .int .i64 bx.kind, .int .i64 bx.at_.t, .int .i64 bx.at_.r, .int .i64 bx.ino.t, .int .i64 bx.ino.r, .int .i64 bx.to.t, .int .i64 bx.to.r, .string bx.name, .string bx.new, .int .i64 bx.off, .string bx.data] 47)).cell? _ = some _) (by intro e; simp at e; omega))
      have hx11 := (hgr.cell (a := ⟨wr.heap.size, 11, none⟩) (cell_new wr _ rfl _ _ 11 _ rfl : (wr.alloc (.cells #[.int .i64 bx.stamp.t, .int .i64 bx.stamp.r, .int .i64 bx.kind, .int .i64 bx.at_.t, .int .i64 bx.at_.r, .int .i64 bx.ino.t, .int .i64 bx.ino.r, .int .i64 bx.to.t, .int .i64 bx.to.r, .string bx.name, .string bx.new, .int .i64 bx.off, .string bx.data] 47)).cell? _ = some _) (by intro e; simp at e; omega))
      have hx12 := (hgr.cell (a := ⟨wr.heap.size, 12, none⟩) (cell_new wr _ rfl _ _ 12 _ rfl : (wr.alloc (.cells #[.int .i64 bx.stamp.t, .int .i64 bx.stamp.r, .int .i64 bx.kind, .int .i64 bx.at_.t, .int .i64 bx.at_.r, .int .i64 bx.ino.t, .int .i64 bx.ino.r, .int .i64 bx.to.t, .int .i64 bx.to.r, .string bx.name, .string bx.new, .int .i64 bx.off, .string bx.data] 47)).cell? _ = some _) (by intro e; simp at e; omega))
      clear hr1 hgr
      refine wpList_nil ?_
      go_simp
      apply_assumption
      go_upto_region 13 with (fail)
      refine wp_region_lit ?_
      iterate 4 (refine wpList_plain rfl fun K hK => ?_; unfold Oper.wp; go_simp; refine hK _ _ ?_; clear hK)
      refine wpList_store_op rfl _ _ rfl w2.heap.size g c Y (bl.set X bq) bx (by have h := HR1.out; unfold OpsRow at h ⊢; rw [List.length_set] at h ⊢; exact h) (by rw [List.length_set]; exact HXY.out.2) rfl rfl ?_
      intro W2 hr2 hgr2
      have HR2 := Lib.hid hr2
      have HG2 := Lib.hid hgr2
      clear hr2 hgr2
      refine wpList_nil ?_
      go_simp
      apply_assumption
      go_wp2
      go_roundg (tu.length - (i + 1))
      case measure => omega
      case rel => exact ⟨i + 1, (bl.set X bq).set Y bx, by first | rfl | go_num, by omega, by omega, by rw [List.length_set, List.length_set]; exact hbl, (show Aside _ from (by have h := HR2.out; simp only [List.length_set] at h ⊢; exact h : OpsRow w2.heap.size (.slice (some ⟨g, 0, none⟩) ((bl.set X bq).set Y bx).length c) ((bl.set X bq).set Y bx) W2)), (show Aside _ from HSW.out), (show Aside _ from ((hB.out.alloc hB.out.size _).trans (grownBy_below HG1.out (by have := hB.out.size; simp only [World.size_alloc]; omega) (fun k e => by cases e; exact HGE.out))).trans (grownBy_below HG2.out (by have := hB.out.size; have := HG1.out.size; simp only [World.size_alloc] at this; omega) (fun k e => by cases e; exact HGE.out)))⟩
    · have d1 : decide (i < tu.length) = false := decide_eq_false (by omega)
      have c1 : ¬ (i : Int) < (tu.length : Int) := by omega
      have HRW := Lib.hid hRW.out
      have HMB := Lib.hid hMB.out
      have HBO := Lib.hid hB.out
      obtain ⟨wo, hwo⟩ : ∃ wo, wo = wr := ⟨_, rfl⟩
      subst hwo
      clear hRW hMB hB hlt
      go_wp2
      go_loopg [7, 12] tu.length (fun gg s7 s12 wr => ∃ (i : Nat) (bl : List Op), s12 = .int .i64 i ∧ i ≤ tu.length ∧ tu.length - i ≤ gg ∧ Aside (OpsRow w2.heap.size s7 bl wr) ∧ Aside (bl.length ≤ A.length + i) ∧ Aside (∀ x, x ∈ bl ↔ x ∈ A) ∧ Aside (Below w2.heap.size w2 wr))
      case atStart => exact ⟨0, bl, rfl, Nat.zero_le _, by omega, (show Aside _ from by rw [← hbl]; exact HRW.out), (show Aside _ from Nat.le_of_eq hbl), (show Aside _ from HMB.out), (show Aside _ from HBO.out)⟩
      case round =>
        obtain ⟨i, bl, rfl, hil, hgg, hRW, hLB, hMB, hB⟩ := hrel
        have hi0 : (0 : Int) ≤ (i : Int) := by omega
        have hwi : IntKind.i64.wrap ((i : Int) + 1) = (i : Int) + 1 := wrapNat (i + 1) (by omega)
        obtain ⟨ra, rc, rfl⟩ := hRW.out.shape
        by_cases hlt : i < tu.length
        · have d1 : decide (i < tu.length) = true := decide_eq_true (by omega)
          have c1 : (i : Int) < (tu.length : Int) := by omega
          have d2 : decide (i < 20) = true := decide_eq_true (by omega)
          have c2 : (i : Int) < 20 := by omega
          have hn0 : 0 < A.length := by omega
          have d3 : decide (0 < A.length) = true := decide_eq_true hn0
          have c3 : (0 : Int) < (A.length : Int) := by omega
          have hsx := HS2.out wr (HB2.out.trans (hB.out.mono HB2.out.size))
          obtain ⟨tb, tq, rfl, _, htc⟩ := slAt_at hsx (show i < tu.length by omega)
          have t0 := htc i (by omega) 0 _ rfl
          rw [Nat.add_zero, Nat.mul_one] at t0
          obtain ⟨ht0, ht1⟩ := u8_bounds (HWF.out _ (getElem!_mem (show i < tu.length by omega)))
          generalize tu[i]! = t at *
          have hwt : IntKind.i64.wrap t = t := by rw [IntKind.wrap_i64]; omega
          obtain ⟨X, hX, hXl⟩ := rem_less (j := t) ht0 hn0
          have hne : ¬ ((A.length : Int) = 0) := by omega
          have hX0 : (0 : Int) ≤ (X : Int) := by omega
          have hXc : (X : Int) < (A.length : Int) := by omega
          have hsl := (HRA.out.kept hB.out).sl
          obtain ⟨ab, ao, rfl, _, hac⟩ := slAt_at hsl hXl
          obtain ⟨x0, x1, x2, x3, x4, x5, x6, x7, x8, x9, x10, x11, x12⟩ := cellsOpF hac X hXl
          have HXM : Hid (A[X]! ∈ A) := Lib.hid (getElem!_mem hXl)
          clear hsx htc hsl hac
          generalize A[X]! = x at *
          cases ra with
          | none =>
            go_wp2_with ((at_builtin; refine wpList_append_own _ rfl _ _ 40 rfl w2.heap.size 47 i0 _ 13 128 Tryz.underlying40 hinf hz0 hz1 hz2 rfl (by decide) _ _ _ rfl (World.ownsRow.alloc hRW.out _) ⟨wr.heap.size, 0, none⟩ 1 1 x.cells rfl rfl (box_cells (by rw [World.alloc_heap_new]; rfl)) (fun u hu => Op.one x u hu) (by simp only [maxLen]; have := hLB.out; omega) (by have := hLB.out; omega) (by have := hB.out.size; simp only [World.size_alloc]; omega) ?_; intro v' w6 hown' hgrow hnil; have HO := Lib.hid hown'; have HGW := Lib.hid hgrow; have HNI := Lib.hid hnil; clear hown' hgrow hnil))
            go_roundg (tu.length - (i + 1))
            case measure => omega
            case rel => exact (by
              have hge := fun k (e : Value.ownBlock _ = some k) => rowGe hRW.out e
              refine ⟨i + 1, bl ++ [x], by first | rfl | go_num, by omega, by omega, (show Aside _ from ?_), (show Aside _ from (by have h := hLB.out; rw [List.length_append, List.length_singleton]; omega : (bl ++ [x]).length ≤ A.length + (i + 1))), (show Aside _ from fun y => ?_), (show Aside _ from ?_)⟩
              · show w6.ownsRow _ _ _ _ _ _
                rw [List.length_append, List.flatMap_append, List.flatMap_cons, List.flatMap_nil, List.append_nil]
                exact HO.out
              · rw [List.mem_append, List.mem_singleton]
                exact ⟨fun h => h.elim (hMB.out y).1 (fun e => e ▸ HXM.out), fun h => .inl ((hMB.out y).2 h)⟩
              · exact (hB.out.alloc hB.out.size _).trans (grownBy_below HGW.out (by have := hB.out.size; simp only [World.size_alloc]; omega) hge))
          | some ra =>
            go_wp2_with ((at_builtin; refine wpList_append_own _ rfl _ _ 40 rfl w2.heap.size 47 i0 _ 13 128 Tryz.underlying40 hinf hz0 hz1 hz2 rfl (by decide) _ _ _ rfl (World.ownsRow.alloc hRW.out _) ⟨wr.heap.size, 0, none⟩ 1 1 x.cells rfl rfl (box_cells (by rw [World.alloc_heap_new]; rfl)) (fun u hu => Op.one x u hu) (by simp only [maxLen]; have := hLB.out; omega) (by have := hLB.out; omega) (by have := hB.out.size; simp only [World.size_alloc]; omega) ?_; intro v' w6 hown' hgrow hnil; have HO := Lib.hid hown'; have HGW := Lib.hid hgrow; have HNI := Lib.hid hnil; clear hown' hgrow hnil))
            all_goals (go_roundg (tu.length - (i + 1)))
            case measure => omega
            case rel => exact (by
              have hge := fun k (e : Value.ownBlock _ = some k) => rowGe hRW.out e
              refine ⟨i + 1, bl ++ [x], by first | rfl | go_num, by omega, by omega, (show Aside _ from ?_), (show Aside _ from (by have h := hLB.out; rw [List.length_append, List.length_singleton]; omega : (bl ++ [x]).length ≤ A.length + (i + 1))), (show Aside _ from fun y => ?_), (show Aside _ from ?_)⟩
              · show w6.ownsRow _ _ _ _ _ _
                rw [List.length_append, List.flatMap_append, List.flatMap_cons, List.flatMap_nil, List.append_nil]
                exact HO.out
              · rw [List.mem_append, List.mem_singleton]
                exact ⟨fun h => h.elim (hMB.out y).1 (fun e => e ▸ HXM.out), fun h => .inl ((hMB.out y).2 h)⟩
              · exact (hB.out.alloc hB.out.size _).trans (grownBy_below HGW.out (by have := hB.out.size; simp only [World.size_alloc]; omega) hge))
        · have d1 : decide (i < tu.length) = false := decide_eq_false (by omega)
          have c1 : ¬ (i : Int) < (tu.length : Int) := by omega
          obtain ⟨hof, hso⟩ := HFW.out bl hMB.out
          have HOFB := Lib.hid hof
          have HSOB := Lib.hid hso
          have HRB := Lib.hid hRW.out
          have HRAr := Lib.hid (HRA.out.kept hB.out)
          have HNB : Hid (∀ o ∈ bl, o.Small) := Lib.hid fun o ho => HNM.out o ((hMB.out o).1 ho)
          have HLB : Hid (bl.length ≤ 1000) := Lib.hid (by have := hLB.out; omega)
          have HLA : Hid (A.length ≤ 1000) := Lib.hid (by omega)
          have HSL1 : Hid ((sortOps A).length ≤ 1000) := Lib.hid (by have := sort_len A; omega)
          have HBW : Hid (Below w.heap.size w wr) := Lib.hid (HB2.out.trans (hB.out.mono HB2.out.size))
          have HBr0 : Hid (Below wr.heap.size wr wr) := Lib.hid (Below.refl _ _)
          have HOK : Hid ((ofOps A).Ok) := Lib.hid (ofOps_ok A)
          have HNMS : Hid (∀ x ∈ (ofOps A).e, x.name.size ≤ maxLen) := Lib.hid fun x hx => name_small13 ((ofOps_ok A).names x hx)
          clear hof hso hRW hLB hMB hB hlt
          go_wp2_with fail
          refine (of_any _ A wr HRAr.out.sl HNM.out HLA.out).mono ?_
          rintro e r1 ⟨u1, rfl, ⟨g1, mI1, mE1, rfl, hG1, _, _, _⟩, hbr1⟩
          obtain ⟨hcr1, hfr1⟩ := bcell hbr1
          have hsr1 := hbr1.size
          try simp only [World.size_alloc] at hsr1
          try simp only [size_setCell'] at hsr1
          try have ler1_0 : wr.heap.size ≤ r1.heap.size := (by omega)
          try have ltr1_0 : wr.heap.size < r1.heap.size := (by omega)
          have HBr1 : Hid (Below wr.heap.size wr r1) := Lib.hid (Below.trans (by first | exact HBr0.out | exact HBr0.out.alloc HBr0.out.size _ | exact (HBr0.out.alloc HBr0.out.size _).alloc (le_al HBr0.out.size) _ | exact ((HBr0.out.alloc HBr0.out.size _).alloc (le_al HBr0.out.size) _).alloc (le_al (le_al HBr0.out.size)) _) (hbr1.mono (by (try simp only [World.size_alloc]); (try simp only [size_setCell']); omega)))
          have HNr1 := Lib.hid hbr1
          clear hbr1 hsr1
          have HG1r := Lib.hid (hG1.reads HOK.out (by have := HOK.out.few; omega))
          have HRB1 := Lib.hid (HRB.out.kept HNr1.out)
          have HRA1 := Lib.hid (HRAr.out.kept HNr1.out)
          clear hG1
          go_wp2_with fail
          refine (of_any _ bl r1 HRB1.out.sl HNB.out HLB.out).mono ?_
          rintro e r2 ⟨u2, rfl, ⟨g2, mI2, mE2, rfl, hG2, _, _, _⟩, hbr2⟩
          obtain ⟨hcr2, hfr2⟩ := bcell hbr2
          have hsr2 := hbr2.size
          try simp only [World.size_alloc] at hsr2
          try simp only [size_setCell'] at hsr2
          try have ler2_0 : wr.heap.size ≤ r2.heap.size := (by omega)
          try have ltr2_0 : wr.heap.size < r2.heap.size := (by omega)
          try have ler2_1 : r1.heap.size ≤ r2.heap.size := (by omega)
          try have ltr2_1 : r1.heap.size < r2.heap.size := (by omega)
          have HBr2 : Hid (Below wr.heap.size wr r2) := Lib.hid (Below.trans (by first | exact HBr1.out | exact HBr1.out.alloc HBr1.out.size _ | exact (HBr1.out.alloc HBr1.out.size _).alloc (le_al HBr1.out.size) _ | exact ((HBr1.out.alloc HBr1.out.size _).alloc (le_al HBr1.out.size) _).alloc (le_al (le_al HBr1.out.size)) _) (hbr2.mono (by (try simp only [World.size_alloc]); (try simp only [size_setCell']); omega)))
          have HNr2 := Lib.hid hbr2
          clear hbr2 hsr2
          rw [HOFB.out] at hG2
          have HG2r := Lib.hid (hG2.reads HOK.out (by have := HOK.out.few; omega))
          have HG1s := Lib.hid (HG1r.out.below HNr2.out)
          have HRB2 := Lib.hid (HRB1.out.kept HNr2.out)
          have HRA2 := Lib.hid (HRA1.out.kept HNr2.out)
          clear hG2
          go_wp2_with fail
          refine (same_any g1 g2 _ r2 HOK.out HG1s.out HG2r.out).mono ?_
          rintro e r3 ⟨rfl, hbr3⟩
          obtain ⟨hcr3, hfr3⟩ := bcell hbr3
          have hsr3 := hbr3.size
          try simp only [World.size_alloc] at hsr3
          try simp only [size_setCell'] at hsr3
          try have ler3_0 : wr.heap.size ≤ r3.heap.size := (by omega)
          try have ltr3_0 : wr.heap.size < r3.heap.size := (by omega)
          try have ler3_1 : r1.heap.size ≤ r3.heap.size := (by omega)
          try have ltr3_1 : r1.heap.size < r3.heap.size := (by omega)
          try have ler3_2 : r2.heap.size ≤ r3.heap.size := (by omega)
          try have ltr3_2 : r2.heap.size < r3.heap.size := (by omega)
          have HBr3 : Hid (Below wr.heap.size wr r3) := Lib.hid (Below.trans (by first | exact HBr2.out | exact HBr2.out.alloc HBr2.out.size _ | exact (HBr2.out.alloc HBr2.out.size _).alloc (le_al HBr2.out.size) _ | exact ((HBr2.out.alloc HBr2.out.size _).alloc (le_al HBr2.out.size) _).alloc (le_al (le_al HBr2.out.size)) _) (hbr3.mono (by (try simp only [World.size_alloc]); (try simp only [size_setCell']); omega)))
          have HNr3 := Lib.hid hbr3
          clear hbr3 hsr3
          have HG1t := Lib.hid (HG1s.out.below HNr3.out)
          have HRB3 := Lib.hid (HRB2.out.kept HNr3.out)
          have HRA3 := Lib.hid (HRA2.out.kept HNr3.out)
          go_wp2_with fail
          refine (HG1t.out.inodes _ (Below.refl _ _)).mono ?_
          rintro e r4 ⟨ia, ic, rfl, hs4, hbr4⟩
          obtain ⟨hcr4, hfr4⟩ := bcell hbr4
          have hsr4 := hbr4.size
          try simp only [World.size_alloc] at hsr4
          try simp only [size_setCell'] at hsr4
          try have ler4_0 : wr.heap.size ≤ r4.heap.size := (by omega)
          try have ltr4_0 : wr.heap.size < r4.heap.size := (by omega)
          try have ler4_1 : r1.heap.size ≤ r4.heap.size := (by omega)
          try have ltr4_1 : r1.heap.size < r4.heap.size := (by omega)
          try have ler4_2 : r2.heap.size ≤ r4.heap.size := (by omega)
          try have ltr4_2 : r2.heap.size < r4.heap.size := (by omega)
          try have ler4_3 : r3.heap.size ≤ r4.heap.size := (by omega)
          try have ltr4_3 : r3.heap.size < r4.heap.size := (by omega)
          have HBr4 : Hid (Below wr.heap.size wr r4) := Lib.hid (Below.trans (by first | exact HBr3.out | exact HBr3.out.alloc HBr3.out.size _ | exact (HBr3.out.alloc HBr3.out.size _).alloc (le_al HBr3.out.size) _ | exact ((HBr3.out.alloc HBr3.out.size _).alloc (le_al HBr3.out.size) _).alloc (le_al (le_al HBr3.out.size)) _) (hbr4.mono (by (try simp only [World.size_alloc]); (try simp only [size_setCell']); omega)))
          have HNr4 := Lib.hid hbr4
          clear hbr4 hsr4
          have HI4 := Lib.hid hs4
          clear hs4
          go_wp2_with fail
          refine (HG1t.out.entries _ HNr4.out).mono ?_
          rintro e r5 ⟨ea, ec, rfl, hs5, hbr5⟩
          obtain ⟨hcr5, hfr5⟩ := bcell hbr5
          have hsr5 := hbr5.size
          try simp only [World.size_alloc] at hsr5
          try simp only [size_setCell'] at hsr5
          try have ler5_0 : wr.heap.size ≤ r5.heap.size := (by omega)
          try have ltr5_0 : wr.heap.size < r5.heap.size := (by omega)
          try have ler5_1 : r1.heap.size ≤ r5.heap.size := (by omega)
          try have ltr5_1 : r1.heap.size < r5.heap.size := (by omega)
          try have ler5_2 : r2.heap.size ≤ r5.heap.size := (by omega)
          try have ltr5_2 : r2.heap.size < r5.heap.size := (by omega)
          try have ler5_3 : r3.heap.size ≤ r5.heap.size := (by omega)
          try have ltr5_3 : r3.heap.size < r5.heap.size := (by omega)
          try have ler5_4 : r4.heap.size ≤ r5.heap.size := (by omega)
          try have ltr5_4 : r4.heap.size < r5.heap.size := (by omega)
          have HBr5 : Hid (Below wr.heap.size wr r5) := Lib.hid (Below.trans (by first | exact HBr4.out | exact HBr4.out.alloc HBr4.out.size _ | exact (HBr4.out.alloc HBr4.out.size _).alloc (le_al HBr4.out.size) _ | exact ((HBr4.out.alloc HBr4.out.size _).alloc (le_al HBr4.out.size) _).alloc (le_al (le_al HBr4.out.size)) _) (hbr5.mono (by (try simp only [World.size_alloc]); (try simp only [size_setCell']); omega)))
          have HNr5 := Lib.hid hbr5
          clear hbr5 hsr5
          have HFI5 := Lib.hid (fine_any _ _ (ofOps A).n (ofOps A).e r5 (HI4.out.below HNr5.out) hs5 (by have := HOK.out.len; omega) (by have := HOK.out.few; omega) HNMS.out)
          rw [HFI.out] at HFI5
          clear hs5
          go_wp2_with fail
          refine (HFI5.out).mono ?_
          rintro e r6 ⟨rfl, hbr6⟩
          obtain ⟨hcr6, hfr6⟩ := bcell hbr6
          have hsr6 := hbr6.size
          try simp only [World.size_alloc] at hsr6
          try simp only [size_setCell'] at hsr6
          try have ler6_0 : wr.heap.size ≤ r6.heap.size := (by omega)
          try have ltr6_0 : wr.heap.size < r6.heap.size := (by omega)
          try have ler6_1 : r1.heap.size ≤ r6.heap.size := (by omega)
          try have ltr6_1 : r1.heap.size < r6.heap.size := (by omega)
          try have ler6_2 : r2.heap.size ≤ r6.heap.size := (by omega)
          try have ltr6_2 : r2.heap.size < r6.heap.size := (by omega)
          try have ler6_3 : r3.heap.size ≤ r6.heap.size := (by omega)
          try have ltr6_3 : r3.heap.size < r6.heap.size := (by omega)
          try have ler6_4 : r4.heap.size ≤ r6.heap.size := (by omega)
          try have ltr6_4 : r4.heap.size < r6.heap.size := (by omega)
          try have ler6_5 : r5.heap.size ≤ r6.heap.size := (by omega)
          try have ltr6_5 : r5.heap.size < r6.heap.size := (by omega)
          have HBr6 : Hid (Below wr.heap.size wr r6) := Lib.hid (Below.trans (by first | exact HBr5.out | exact HBr5.out.alloc HBr5.out.size _ | exact (HBr5.out.alloc HBr5.out.size _).alloc (le_al HBr5.out.size) _ | exact ((HBr5.out.alloc HBr5.out.size _).alloc (le_al HBr5.out.size) _).alloc (le_al (le_al HBr5.out.size)) _) (hbr6.mono (by (try simp only [World.size_alloc]); (try simp only [size_setCell']); omega)))
          have HNr6 := Lib.hid hbr6
          clear hbr6 hsr6
          have HRA6 := Lib.hid (((HRA3.out.kept HNr4.out).kept HNr5.out).kept HNr6.out)
          have HRB6 := Lib.hid (((HRB3.out.kept HNr4.out).kept HNr5.out).kept HNr6.out)
          go_wp2_with fail
          refine (sort_any _ A r6 HRA6.out.sl HNM.out HLA.out).mono ?_
          rintro e r7 ⟨u7, rfl, hr7, hbr7⟩
          obtain ⟨hcr7, hfr7⟩ := bcell hbr7
          have hsr7 := hbr7.size
          try simp only [World.size_alloc] at hsr7
          try simp only [size_setCell'] at hsr7
          try have ler7_0 : wr.heap.size ≤ r7.heap.size := (by omega)
          try have ltr7_0 : wr.heap.size < r7.heap.size := (by omega)
          try have ler7_1 : r1.heap.size ≤ r7.heap.size := (by omega)
          try have ltr7_1 : r1.heap.size < r7.heap.size := (by omega)
          try have ler7_2 : r2.heap.size ≤ r7.heap.size := (by omega)
          try have ltr7_2 : r2.heap.size < r7.heap.size := (by omega)
          try have ler7_3 : r3.heap.size ≤ r7.heap.size := (by omega)
          try have ltr7_3 : r3.heap.size < r7.heap.size := (by omega)
          try have ler7_4 : r4.heap.size ≤ r7.heap.size := (by omega)
          try have ltr7_4 : r4.heap.size < r7.heap.size := (by omega)
          try have ler7_5 : r5.heap.size ≤ r7.heap.size := (by omega)
          try have ltr7_5 : r5.heap.size < r7.heap.size := (by omega)
          try have ler7_6 : r6.heap.size ≤ r7.heap.size := (by omega)
          try have ltr7_6 : r6.heap.size < r7.heap.size := (by omega)
          have HBr7 : Hid (Below wr.heap.size wr r7) := Lib.hid (Below.trans (by first | exact HBr6.out | exact HBr6.out.alloc HBr6.out.size _ | exact (HBr6.out.alloc HBr6.out.size _).alloc (le_al HBr6.out.size) _ | exact ((HBr6.out.alloc HBr6.out.size _).alloc (le_al HBr6.out.size) _).alloc (le_al (le_al HBr6.out.size)) _) (hbr7.mono (by (try simp only [World.size_alloc]); (try simp only [size_setCell']); omega)))
          have HNr7 := Lib.hid hbr7
          clear hbr7 hsr7
          have HS7 := Lib.hid hr7
          obtain ⟨s7, z7, rfl⟩ := hr7.shape
          have HRB7 := Lib.hid (HRB6.out.kept HNr7.out)
          clear hr7
          go_wp2_with fail
          refine (sort_any _ bl r7 HRB7.out.sl HNB.out HLB.out).mono ?_
          rintro e r8 ⟨u8, rfl, hr8, hbr8⟩
          obtain ⟨hcr8, hfr8⟩ := bcell hbr8
          have hsr8 := hbr8.size
          try simp only [World.size_alloc] at hsr8
          try simp only [size_setCell'] at hsr8
          try have ler8_0 : wr.heap.size ≤ r8.heap.size := (by omega)
          try have ltr8_0 : wr.heap.size < r8.heap.size := (by omega)
          try have ler8_1 : r1.heap.size ≤ r8.heap.size := (by omega)
          try have ltr8_1 : r1.heap.size < r8.heap.size := (by omega)
          try have ler8_2 : r2.heap.size ≤ r8.heap.size := (by omega)
          try have ltr8_2 : r2.heap.size < r8.heap.size := (by omega)
          try have ler8_3 : r3.heap.size ≤ r8.heap.size := (by omega)
          try have ltr8_3 : r3.heap.size < r8.heap.size := (by omega)
          try have ler8_4 : r4.heap.size ≤ r8.heap.size := (by omega)
          try have ltr8_4 : r4.heap.size < r8.heap.size := (by omega)
          try have ler8_5 : r5.heap.size ≤ r8.heap.size := (by omega)
          try have ltr8_5 : r5.heap.size < r8.heap.size := (by omega)
          try have ler8_6 : r6.heap.size ≤ r8.heap.size := (by omega)
          try have ltr8_6 : r6.heap.size < r8.heap.size := (by omega)
          try have ler8_7 : r7.heap.size ≤ r8.heap.size := (by omega)
          try have ltr8_7 : r7.heap.size < r8.heap.size := (by omega)
          have HBr8 : Hid (Below wr.heap.size wr r8) := Lib.hid (Below.trans (by first | exact HBr7.out | exact HBr7.out.alloc HBr7.out.size _ | exact (HBr7.out.alloc HBr7.out.size _).alloc (le_al HBr7.out.size) _ | exact ((HBr7.out.alloc HBr7.out.size _).alloc (le_al HBr7.out.size) _).alloc (le_al (le_al HBr7.out.size)) _) (hbr8.mono (by (try simp only [World.size_alloc]); (try simp only [size_setCell']); omega)))
          have HNr8 := Lib.hid hbr8
          clear hbr8 hsr8
          rw [HSOB.out] at hr8
          have HS8 := Lib.hid hr8
          obtain ⟨s8, z8, rfl⟩ := hr8.shape
          have HS7a := Lib.hid (HS7.out.kept HNr8.out)
          clear hr8
          go_wp2_with fail
          refine (ops_same _ _ (sortOps A) r8 HS7a.out.sl HS8.out.sl HSL1.out).mono ?_
          rintro e r9 ⟨rfl, hbr9⟩
          obtain ⟨hcr9, hfr9⟩ := bcell hbr9
          have hsr9 := hbr9.size
          try simp only [World.size_alloc] at hsr9
          try simp only [size_setCell'] at hsr9
          try have ler9_0 : wr.heap.size ≤ r9.heap.size := (by omega)
          try have ltr9_0 : wr.heap.size < r9.heap.size := (by omega)
          try have ler9_1 : r1.heap.size ≤ r9.heap.size := (by omega)
          try have ltr9_1 : r1.heap.size < r9.heap.size := (by omega)
          try have ler9_2 : r2.heap.size ≤ r9.heap.size := (by omega)
          try have ltr9_2 : r2.heap.size < r9.heap.size := (by omega)
          try have ler9_3 : r3.heap.size ≤ r9.heap.size := (by omega)
          try have ltr9_3 : r3.heap.size < r9.heap.size := (by omega)
          try have ler9_4 : r4.heap.size ≤ r9.heap.size := (by omega)
          try have ltr9_4 : r4.heap.size < r9.heap.size := (by omega)
          try have ler9_5 : r5.heap.size ≤ r9.heap.size := (by omega)
          try have ltr9_5 : r5.heap.size < r9.heap.size := (by omega)
          try have ler9_6 : r6.heap.size ≤ r9.heap.size := (by omega)
          try have ltr9_6 : r6.heap.size < r9.heap.size := (by omega)
          try have ler9_7 : r7.heap.size ≤ r9.heap.size := (by omega)
          try have ltr9_7 : r7.heap.size < r9.heap.size := (by omega)
          try have ler9_8 : r8.heap.size ≤ r9.heap.size := (by omega)
          try have ltr9_8 : r8.heap.size < r9.heap.size := (by omega)
          have HBr9 : Hid (Below wr.heap.size wr r9) := Lib.hid (Below.trans (by first | exact HBr8.out | exact HBr8.out.alloc HBr8.out.size _ | exact (HBr8.out.alloc HBr8.out.size _).alloc (le_al HBr8.out.size) _ | exact ((HBr8.out.alloc HBr8.out.size _).alloc (le_al HBr8.out.size) _).alloc (le_al (le_al HBr8.out.size)) _) (hbr9.mono (by (try simp only [World.size_alloc]); (try simp only [size_setCell']); omega)))
          have HNr9 := Lib.hid hbr9
          clear hbr9 hsr9
          go_wp2
          go_ret
          exact ⟨rfl, HBW.out.trans (HBr9.out.mono HBW.out.size)⟩

set_option maxRecDepth 100000 in
set_option maxHeartbeats 8000000 in
theorem conv_T_20 (v1 : Value) (l : List Op) (v2 : Value) (tu : List Int) (w : World) (hs1 : SlAt w 13 Op.cells v1 l) (hn1 : ∀ o ∈ l, o.Small) (hs2 : SlAt w 1 U8.cells v2 tu) (hn2 : ∀ z ∈ tu, (Lit.int .u8 z).wf = true) (hl60 : decide (l.length ≤ 60) = true) (hT : tu.length ≤ 100) (hN : 0 < (distinctOf l).length ∨ tu.length = 0) (hT2 : 20 < tu.length) :
    Calls Tryz.prog 13 #[v1, v2] w fun y w' => y = .returned (.bool true) ∧ Below w.heap.size w w' := by
  have HF1 := Lib.hid (fun W (hW : Below w.heap.size w W) => few_any v1 l W (hs1.below hW))
  have HDI := Lib.hid (fun (hl : l.length ≤ 1000) W (hW : Below w.heap.size w W) => distinct_any v1 l W (hs1.below hW) hl)
  have HS2 : Hid (∀ W, Below w.heap.size w W → SlAt W 1 U8.cells v2 tu) := Lib.hid fun W hW => hs2.below hW
  have HWF := Lib.hid hn2
  have HNM : Hid (∀ o ∈ distinctOf l, o.Small) := Lib.hid fun o ho => hn1 o ((dist_sub l []).subset ho)
  have HB0 : Hid (Below w.heap.size w w) := Lib.hid (Below.refl _ _)
  have HFW : Hid (∀ bl : List Op, (∀ x, x ∈ bl ↔ x ∈ distinctOf l) → ofOps bl = ofOps (distinctOf l) ∧ sortOps bl = sortOps (distinctOf l)) := Lib.hid fun bl hb => by
    have e := same_sort (distinct_one l) hb
    exact ⟨by unfold ofOps; rw [e], e⟩
  have HFI : Hid (fineB (ofOps (distinctOf l)).n (ofOps (distinctOf l)).e = true) := Lib.hid (ran_fine _).fine
  have HL6 : Hid (l.length ≤ 60) := Lib.hid (of_decide_eq_true hl60)
  have hdl : (distinctOf l).length ≤ 60 := Nat.le_trans (dist_len l []) HL6.out
  obtain ⟨i0, hinf, hz0, hz1, hz2⟩ := info_parts infoOp
  obtain ⟨a1, c1_, rfl⟩ := hs1.len
  obtain ⟨a2, c2_, rfl⟩ := hs2.len
  rw [hl60] at HF1
  clear hs1 hs2 hn1 hn2 hl60
  have HDI := Lib.hid (HDI.out (by have := HL6.out; omega))
  generalize distinctOf l = A at *
  go_enter Tryz.func13, Tryz.ntmps13
  go_wp2_with fail
  refine (shown_any _).mono ?_
  rintro e w1 ⟨rfl, hb1⟩
  obtain ⟨hc1, hf1⟩ := bcell hb1
  have hs1 := hb1.size
  try simp only [World.size_alloc] at hs1
  try simp only [size_setCell'] at hs1
  try have le1_0 : w.heap.size ≤ w1.heap.size := (by omega)
  try have lt1_0 : w.heap.size < w1.heap.size := (by omega)
  have HB1 : Hid (Below w.heap.size w w1) := Lib.hid (Below.trans (by first | exact HB0.out | exact HB0.out.alloc HB0.out.size _ | exact (HB0.out.alloc HB0.out.size _).alloc (le_al HB0.out.size) _ | exact ((HB0.out.alloc HB0.out.size _).alloc (le_al HB0.out.size) _).alloc (le_al (le_al HB0.out.size)) _) (hb1.mono (by (try simp only [World.size_alloc]); (try simp only [size_setCell']); omega)))
  have HN1 := Lib.hid hb1
  clear hb1 hs1
  go_wp2_with (go_at_call 35; refine (HF1.out _ HB1.out).mono ?_; rintro y w' ⟨rfl, rfl⟩)
  go_wp2_with fail
  refine (HDI.out _ (by first | exact HB1.out | exact HB1.out.alloc HB1.out.size _ | exact (HB1.out.alloc HB1.out.size _).alloc (le_al HB1.out.size) _ | exact ((HB1.out.alloc HB1.out.size _).alloc (le_al HB1.out.size) _).alloc (le_al (le_al HB1.out.size)) _)).mono ?_
  rintro e w2 ⟨va, rfl, hra, hb2⟩
  obtain ⟨hc2, hf2⟩ := bcell hb2
  have hs2 := hb2.size
  try simp only [World.size_alloc] at hs2
  try simp only [size_setCell'] at hs2
  try have le2_0 : w.heap.size ≤ w2.heap.size := (by omega)
  try have lt2_0 : w.heap.size < w2.heap.size := (by omega)
  try have le2_1 : w1.heap.size ≤ w2.heap.size := (by omega)
  try have lt2_1 : w1.heap.size < w2.heap.size := (by omega)
  have HB2 : Hid (Below w.heap.size w w2) := Lib.hid (Below.trans (by first | exact HB1.out | exact HB1.out.alloc HB1.out.size _ | exact (HB1.out.alloc HB1.out.size _).alloc (le_al HB1.out.size) _ | exact ((HB1.out.alloc HB1.out.size _).alloc (le_al HB1.out.size) _).alloc (le_al (le_al HB1.out.size)) _) (hb2.mono (by (try simp only [World.size_alloc]); (try simp only [size_setCell']); omega)))
  have HN2 := Lib.hid hb2
  clear hb2 hs2
  have HRA := Lib.hid hra
  obtain ⟨pa, ca, rfl⟩ := hra.shape
  clear hra
  go_wp2_with (at_builtin; refine wpList_append_opsr rfl _ _ rfl w2.heap.size ⟨w2.heap.size, 0, none⟩ rfl (World.ownsRow_made w2 #[] 0 (Nat.le_refl _) (by decide) rfl) _ _ A rfl (HRA.out.kept ((Below.refl _ w2).alloc (Nat.le_refl _) _)) (by omega) (by simp) ?_; intro v7 w3 hr7 hg7 hn7; have HR7 := Lib.hid hr7; have HB73 : Hid (Below w2.heap.size w2 w3) := Lib.hid (((Below.refl _ w2).alloc (Nat.le_refl _) _).trans (grownBy_below hg7 (by simp) (fun k e => by simp at e; omega))); have hsh : ∃ g c, v7 = .slice (some ⟨g, 0, none⟩) A.length c := (by rcases hr7.two with ⟨e, _⟩ | ⟨g, c, e, _⟩; exact absurd e hn7; exact ⟨g, c, e⟩); obtain ⟨g, c, rfl⟩ := hsh; clear hr7 hg7 hn7)
  have HGE : Hid (w2.heap.size ≤ g) := Lib.hid (rowGe HR7.out rfl)
  go_wp2
  go_loopg [8] tu.length (fun gg s8 wr => ∃ (i : Nat) (bl : List Op), s8 = .int .i64 i ∧ i ≤ tu.length ∧ tu.length - i ≤ gg ∧ bl.length = A.length ∧ Aside (OpsRow w2.heap.size (.slice (some ⟨g, 0, none⟩) bl.length c) bl wr) ∧ Aside (∀ x, x ∈ bl ↔ x ∈ A) ∧ Aside (Below w2.heap.size w2 wr))
  case atStart => exact ⟨0, A, rfl, Nat.zero_le _, by omega, rfl, (show Aside _ from HR7.out), (show Aside _ from fun _ => Iff.rfl), (show Aside _ from HB73.out)⟩
  case round =>
    obtain ⟨i, bl, rfl, hil, hgg, hbl, hRW, hMB, hB⟩ := hrel
    have hi0 : (0 : Int) ≤ (i : Int) := by omega
    have hwi : IntKind.i64.wrap ((i : Int) + 1) = (i : Int) + 1 := wrapNat (i + 1) (by omega)
    by_cases hlt : i < tu.length
    · have d1 : decide (i < tu.length) = true := decide_eq_true (by omega)
      have c1 : (i : Int) < (tu.length : Int) := by omega
      have d2 : decide (i < 100) = true := decide_eq_true (by omega)
      have c2 : (i : Int) < 100 := by omega
      have hn0 : 0 < A.length := by omega
      have d3 : decide (0 < A.length) = true := decide_eq_true hn0
      have c3 : (0 : Int) < (A.length : Int) := by omega
      have hsx := HS2.out wr (HB2.out.trans (hB.out.mono HB2.out.size))
      obtain ⟨tb, tq, rfl, _, htc⟩ := slAt_at hsx (show i < tu.length by omega)
      have t0 := htc i (by omega) 0 _ rfl
      rw [Nat.add_zero, Nat.mul_one] at t0
      obtain ⟨ht0, ht1⟩ := u8_bounds (HWF.out _ (getElem!_mem (show i < tu.length by omega)))
      generalize tu[i]! = t at *
      have hwt : IntKind.i64.wrap t = t := by rw [IntKind.wrap_i64]; omega
      obtain ⟨X, hX, hXl⟩ := rem_less (j := t) ht0 hn0
      obtain ⟨Y, hY, hYl⟩ := rem_less (j := (X : Int) + (i : Int) + 1) (by omega) hn0
      have hw2 : IntKind.i64.wrap ((X : Int) + (i : Int)) = (X : Int) + (i : Int) := by rw [IntKind.wrap_i64]; omega
      have hw3 : IntKind.i64.wrap ((X : Int) + (i : Int) + 1) = (X : Int) + (i : Int) + 1 := by rw [IntKind.wrap_i64]; omega
      have hne : ¬ ((A.length : Int) = 0) := by omega
      have hX0 : (0 : Int) ≤ (X : Int) := by omega
      have hY0 : (0 : Int) ≤ (Y : Int) := by omega
      have hXc : (X : Int) < (A.length : Int) := by omega
      have hYc : (Y : Int) < (A.length : Int) := by omega
      have HXY : Hid (X < bl.length ∧ Y < bl.length) := Lib.hid ⟨by omega, by omega⟩
      have hsl := hRW.out.sl
      obtain ⟨gb', go', hge, hgl, hgc⟩ := slAt_at hsl HXY.out.1
      simp only [Option.some.injEq, Addr.mk.injEq, and_true] at hge
      obtain ⟨rfl, rfl⟩ := hge
      obtain ⟨x0, x1, x2, x3, x4, x5, x6, x7, x8, x9, x10, x11, x12⟩ := cellsOpF hgc X HXY.out.1
      obtain ⟨y0, y1, y2, y3, y4, y5, y6, y7, y8, y9, y10, y11, y12⟩ := cellsOpF hgc Y HXY.out.2
      simp only [Nat.zero_add] at x0 x1 x2 x3 x4 x5 x6 x7 x8 x9 x10 x11 x12 y0 y1 y2 y3 y4 y5 y6 y7 y8 y9 y10 y11 y12
      have HSW : Hid (∀ x, x ∈ (bl.set X bl[Y]!).set Y bl[X]! ↔ x ∈ A) := Lib.hid fun x => ((swap_perm HXY.out.1 HXY.out.2).mem_iff).trans (hMB.out x)
      clear hsx htc hsl hgc
      generalize bl[X]! = bx at *
      generalize bl[Y]! = bq at *
      go_upto_region 12 with (fail)
      refine wp_region_lit ?_
      iterate 7 (refine wpList_plain rfl fun K hK => ?_; unfold Oper.wp; go_simp; refine hK _ _ ?_; clear hK)
      refine wpList_store_op rfl _ _ rfl w2.heap.size g c X bl bq (OpsRow.kept hRW.out ((Below.refl _ wr).alloc (Nat.le_refl _) _)) HXY.out.1 rfl rfl ?_
      intro W1 hr1 hgr
      have HR1 := Lib.hid hr1
      have HG1 := Lib.hid hgr
      have hx0 := (hgr.cell (a := ⟨wr.heap.size, 0, none⟩) (cell_new wr _ rfl _ _ 0 _ rfl : (wr.alloc (.cells #[.int .i64 bx.stamp.t, .int .i64 bx.stamp.r, .int .i64 bx.kind, .int .i64 bx.at_.t, .int .i64 bx.at_.r, .int .i64 bx.ino.t, .int .i64 bx.ino.r, .int .i64 bx.to.t, .int .i64 bx.to.r, .string bx.name, .string bx.new, .int .i64 bx.off, .string bx.data] 47)).cell? _ = some _) (by intro e; simp at e; omega))
      have hx1 := (hgr.cell (a := ⟨wr.heap.size, 1, none⟩) (cell_new wr _ rfl _ _ 1 _ rfl : (wr.alloc (.cells #[.int .i64 bx.stamp.t, .int .i64 bx.stamp.r, .int .i64 bx.kind, .int .i64 bx.at_.t, .int .i64 bx.at_.r, .int .i64 bx.ino.t, .int .i64 bx.ino.r, .int .i64 bx.to.t, .int .i64 bx.to.r, .string bx.name, .string bx.new, .int .i64 bx.off, .string bx.data] 47)).cell? _ = some _) (by intro e; simp at e; omega))
      have hx2 := (hgr.cell (a := ⟨wr.heap.size, 2, none⟩) (cell_new wr _ rfl _ _ 2 _ rfl : (wr.alloc (.cells #[.int .i64 bx.stamp.t, .int .i64 bx.stamp.r, .int .i64 bx.kind, .int .i64 bx.at_.t, .int .i64 bx.at_.r, .int .i64 bx.ino.t, .int .i64 bx.ino.r, .int .i64 bx.to.t, .int .i64 bx.to.r, .string bx.name, .string bx.new, .int .i64 bx.off, .string bx.data] 47)).cell? _ = some _) (by intro e; simp at e; omega))
      have hx3 := (hgr.cell (a := ⟨wr.heap.size, 3, none⟩) (cell_new wr _ rfl _ _ 3 _ rfl : (wr.alloc (.cells #[.int .i64 bx.stamp.t, .int .i64 bx.stamp.r, .int .i64 bx.kind, .int .i64 bx.at_.t, .int .i64 bx.at_.r, .int .i64 bx.ino.t, .int .i64 bx.ino.r, .int .i64 bx.to.t, .int .i64 bx.to.r, .string bx.name, .string bx.new, .int .i64 bx.off, .string bx.data] 47)).cell? _ = some _) (by intro e; simp at e; omega))
      have hx4 := (hgr.cell (a := ⟨wr.heap.size, 4, none⟩) (cell_new wr _ rfl _ _ 4 _ rfl : (wr.alloc (.cells #[.int .i64 bx.stamp.t, .int .i64 bx.stamp.r, .int .i64 bx.kind, .int .i64 bx.at_.t, .int .i64 bx.at_.r, .int .i64 bx.ino.t, .int .i64 bx.ino.r, .int .i64 bx.to.t, .int .i64 bx.to.r, .string bx.name, .string bx.new, .int .i64 bx.off, .string bx.data] 47)).cell? _ = some _) (by intro e; simp at e; omega))
      have hx5 := (hgr.cell (a := ⟨wr.heap.size, 5, none⟩) (cell_new wr _ rfl _ _ 5 _ rfl : (wr.alloc (.cells #[.int .i64 bx.stamp.t, .int .i64 bx.stamp.r, .int .i64 bx.kind, .int .i64 bx.at_.t, .int .i64 bx.at_.r, .int .i64 bx.ino.t, .int .i64 bx.ino.r, .int .i64 bx.to.t, .int .i64 bx.to.r, .string bx.name, .string bx.new, .int .i64 bx.off, .string bx.data] 47)).cell? _ = some _) (by intro e; simp at e; omega))
      have hx6 := (hgr.cell (a := ⟨wr.heap.size, 6, none⟩) (cell_new wr _ rfl _ _ 6 _ rfl : (wr.alloc (.cells #[.int .i64 bx.stamp.t, .int .i64 bx.stamp.r, .int .i64 bx.kind, .int .i64 bx.at_.t, .int .i64 bx.at_.r, .int .i64 bx.ino.t, .int .i64 bx.ino.r, .int .i64 bx.to.t, .int .i64 bx.to.r, .string bx.name, .string bx.new, .int .i64 bx.off, .string bx.data] 47)).cell? _ = some _) (by intro e; simp at e; omega))
      have hx7 := (hgr.cell (a := ⟨wr.heap.size, 7, none⟩) (cell_new wr _ rfl _ _ 7 _ rfl : (wr.alloc (.cells #[.int .i64 bx.stamp.t, .int .i64 bx.stamp.r, .int .i64 bx.kind, .int .i64 bx.at_.t, .int .i64 bx.at_.r, .int .i64 bx.ino.t, .int .i64 bx.ino.r, .int .i64 bx.to.t, .int .i64 bx.to.r, .string bx.name, .string bx.new, .int .i64 bx.off, .string bx.data] 47)).cell? _ = some _) (by intro e; simp at e; omega))
      have hx8 := (hgr.cell (a := ⟨wr.heap.size, 8, none⟩) (cell_new wr _ rfl _ _ 8 _ rfl : (wr.alloc (.cells #[.int .i64 bx.stamp.t, .int .i64 bx.stamp.r, .int .i64 bx.kind, .int .i64 bx.at_.t, .int .i64 bx.at_.r, .int .i64 bx.ino.t, .int .i64 bx.ino.r, .int .i64 bx.to.t, .int .i64 bx.to.r, .string bx.name, .string bx.new, .int .i64 bx.off, .string bx.data] 47)).cell? _ = some _) (by intro e; simp at e; omega))
      have hx9 := (hgr.cell (a := ⟨wr.heap.size, 9, none⟩) (cell_new wr _ rfl _ _ 9 _ rfl : (wr.alloc (.cells #[.int .i64 bx.stamp.t, .int .i64 bx.stamp.r, .int .i64 bx.kind, .int .i64 bx.at_.t, .int .i64 bx.at_.r, .int .i64 bx.ino.t, .int .i64 bx.ino.r, .int .i64 bx.to.t, .int .i64 bx.to.r, .string bx.name, .string bx.new, .int .i64 bx.off, .string bx.data] 47)).cell? _ = some _) (by intro e; simp at e; omega))
      have hx10 := (hgr.cell (a := ⟨wr.heap.size, 10, none⟩) (cell_new wr _ rfl _ _ 10 _ rfl : (wr.alloc (.cells #[.int .i64 bx.stamp.t, .int .i64 bx.stamp.r, .int .i64 bx.kind, .int .i64 bx.at_.t, .int .i64 bx.at_.r, .int .i64 bx.ino.t, .int .i64 bx.ino.r, .int .i64 bx.to.t, .int .i64 bx.to.r, .string bx.name, .string bx.new, .int .i64 bx.off, .string bx.data] 47)).cell? _ = some _) (by intro e; simp at e; omega))
      have hx11 := (hgr.cell (a := ⟨wr.heap.size, 11, none⟩) (cell_new wr _ rfl _ _ 11 _ rfl : (wr.alloc (.cells #[.int .i64 bx.stamp.t, .int .i64 bx.stamp.r, .int .i64 bx.kind, .int .i64 bx.at_.t, .int .i64 bx.at_.r, .int .i64 bx.ino.t, .int .i64 bx.ino.r, .int .i64 bx.to.t, .int .i64 bx.to.r, .string bx.name, .string bx.new, .int .i64 bx.off, .string bx.data] 47)).cell? _ = some _) (by intro e; simp at e; omega))
      have hx12 := (hgr.cell (a := ⟨wr.heap.size, 12, none⟩) (cell_new wr _ rfl _ _ 12 _ rfl : (wr.alloc (.cells #[.int .i64 bx.stamp.t, .int .i64 bx.stamp.r, .int .i64 bx.kind, .int .i64 bx.at_.t, .int .i64 bx.at_.r, .int .i64 bx.ino.t, .int .i64 bx.ino.r, .int .i64 bx.to.t, .int .i64 bx.to.r, .string bx.name, .string bx.new, .int .i64 bx.off, .string bx.data] 47)).cell? _ = some _) (by intro e; simp at e; omega))
      clear hr1 hgr
      refine wpList_nil ?_
      go_simp
      apply_assumption
      go_upto_region 13 with (fail)
      refine wp_region_lit ?_
      iterate 4 (refine wpList_plain rfl fun K hK => ?_; unfold Oper.wp; go_simp; refine hK _ _ ?_; clear hK)
      refine wpList_store_op rfl _ _ rfl w2.heap.size g c Y (bl.set X bq) bx (by have h := HR1.out; unfold OpsRow at h ⊢; rw [List.length_set] at h ⊢; exact h) (by rw [List.length_set]; exact HXY.out.2) rfl rfl ?_
      intro W2 hr2 hgr2
      have HR2 := Lib.hid hr2
      have HG2 := Lib.hid hgr2
      clear hr2 hgr2
      refine wpList_nil ?_
      go_simp
      apply_assumption
      go_wp2
      go_roundg (tu.length - (i + 1))
      case measure => omega
      case rel => exact ⟨i + 1, (bl.set X bq).set Y bx, by first | rfl | go_num, by omega, by omega, by rw [List.length_set, List.length_set]; exact hbl, (show Aside _ from (by have h := HR2.out; simp only [List.length_set] at h ⊢; exact h : OpsRow w2.heap.size (.slice (some ⟨g, 0, none⟩) ((bl.set X bq).set Y bx).length c) ((bl.set X bq).set Y bx) W2)), (show Aside _ from HSW.out), (show Aside _ from ((hB.out.alloc hB.out.size _).trans (grownBy_below HG1.out (by have := hB.out.size; simp only [World.size_alloc]; omega) (fun k e => by cases e; exact HGE.out))).trans (grownBy_below HG2.out (by have := hB.out.size; have := HG1.out.size; simp only [World.size_alloc] at this; omega) (fun k e => by cases e; exact HGE.out)))⟩
    · have d1 : decide (i < tu.length) = false := decide_eq_false (by omega)
      have c1 : ¬ (i : Int) < (tu.length : Int) := by omega
      have HRW := Lib.hid hRW.out
      have HMB := Lib.hid hMB.out
      have HBO := Lib.hid hB.out
      obtain ⟨wo, hwo⟩ : ∃ wo, wo = wr := ⟨_, rfl⟩
      subst hwo
      clear hRW hMB hB hlt
      go_wp2
      go_loopg [7, 12] 20 (fun gg s7 s12 wr => ∃ (i : Nat) (bl : List Op), s12 = .int .i64 i ∧ i ≤ 20 ∧ 20 - i ≤ gg ∧ Aside (OpsRow w2.heap.size s7 bl wr) ∧ Aside (bl.length ≤ A.length + i) ∧ Aside (∀ x, x ∈ bl ↔ x ∈ A) ∧ Aside (Below w2.heap.size w2 wr))
      case atStart => exact ⟨0, bl, rfl, Nat.zero_le _, by omega, (show Aside _ from by rw [← hbl]; exact HRW.out), (show Aside _ from Nat.le_of_eq hbl), (show Aside _ from HMB.out), (show Aside _ from HBO.out)⟩
      case round =>
        obtain ⟨i, bl, rfl, hil, hgg, hRW, hLB, hMB, hB⟩ := hrel
        have hi0 : (0 : Int) ≤ (i : Int) := by omega
        have hwi : IntKind.i64.wrap ((i : Int) + 1) = (i : Int) + 1 := wrapNat (i + 1) (by omega)
        obtain ⟨ra, rc, rfl⟩ := hRW.out.shape
        by_cases hlt : i < 20
        · have d1 : decide (i < tu.length) = true := decide_eq_true (by omega)
          have c1 : (i : Int) < (tu.length : Int) := by omega
          have d2 : decide (i < 20) = true := decide_eq_true (by omega)
          have c2 : (i : Int) < 20 := by omega
          have hn0 : 0 < A.length := by omega
          have d3 : decide (0 < A.length) = true := decide_eq_true hn0
          have c3 : (0 : Int) < (A.length : Int) := by omega
          have hsx := HS2.out wr (HB2.out.trans (hB.out.mono HB2.out.size))
          obtain ⟨tb, tq, rfl, _, htc⟩ := slAt_at hsx (show i < tu.length by omega)
          have t0 := htc i (by omega) 0 _ rfl
          rw [Nat.add_zero, Nat.mul_one] at t0
          obtain ⟨ht0, ht1⟩ := u8_bounds (HWF.out _ (getElem!_mem (show i < tu.length by omega)))
          generalize tu[i]! = t at *
          have hwt : IntKind.i64.wrap t = t := by rw [IntKind.wrap_i64]; omega
          obtain ⟨X, hX, hXl⟩ := rem_less (j := t) ht0 hn0
          have hne : ¬ ((A.length : Int) = 0) := by omega
          have hX0 : (0 : Int) ≤ (X : Int) := by omega
          have hXc : (X : Int) < (A.length : Int) := by omega
          have hsl := (HRA.out.kept hB.out).sl
          obtain ⟨ab, ao, rfl, _, hac⟩ := slAt_at hsl hXl
          obtain ⟨x0, x1, x2, x3, x4, x5, x6, x7, x8, x9, x10, x11, x12⟩ := cellsOpF hac X hXl
          have HXM : Hid (A[X]! ∈ A) := Lib.hid (getElem!_mem hXl)
          clear hsx htc hsl hac
          generalize A[X]! = x at *
          cases ra with
          | none =>
            go_wp2_with ((at_builtin; refine wpList_append_own _ rfl _ _ 40 rfl w2.heap.size 47 i0 _ 13 128 Tryz.underlying40 hinf hz0 hz1 hz2 rfl (by decide) _ _ _ rfl (World.ownsRow.alloc hRW.out _) ⟨wr.heap.size, 0, none⟩ 1 1 x.cells rfl rfl (box_cells (by rw [World.alloc_heap_new]; rfl)) (fun u hu => Op.one x u hu) (by simp only [maxLen]; have := hLB.out; omega) (by have := hLB.out; omega) (by have := hB.out.size; simp only [World.size_alloc]; omega) ?_; intro v' w6 hown' hgrow hnil; have HO := Lib.hid hown'; have HGW := Lib.hid hgrow; have HNI := Lib.hid hnil; clear hown' hgrow hnil))
            go_roundg (20 - (i + 1))
            case measure => omega
            case rel => exact (by
              have hge := fun k (e : Value.ownBlock _ = some k) => rowGe hRW.out e
              refine ⟨i + 1, bl ++ [x], by first | rfl | go_num, by omega, by omega, (show Aside _ from ?_), (show Aside _ from (by have h := hLB.out; rw [List.length_append, List.length_singleton]; omega : (bl ++ [x]).length ≤ A.length + (i + 1))), (show Aside _ from fun y => ?_), (show Aside _ from ?_)⟩
              · show w6.ownsRow _ _ _ _ _ _
                rw [List.length_append, List.flatMap_append, List.flatMap_cons, List.flatMap_nil, List.append_nil]
                exact HO.out
              · rw [List.mem_append, List.mem_singleton]
                exact ⟨fun h => h.elim (hMB.out y).1 (fun e => e ▸ HXM.out), fun h => .inl ((hMB.out y).2 h)⟩
              · exact (hB.out.alloc hB.out.size _).trans (grownBy_below HGW.out (by have := hB.out.size; simp only [World.size_alloc]; omega) hge))
          | some ra =>
            go_wp2_with ((at_builtin; refine wpList_append_own _ rfl _ _ 40 rfl w2.heap.size 47 i0 _ 13 128 Tryz.underlying40 hinf hz0 hz1 hz2 rfl (by decide) _ _ _ rfl (World.ownsRow.alloc hRW.out _) ⟨wr.heap.size, 0, none⟩ 1 1 x.cells rfl rfl (box_cells (by rw [World.alloc_heap_new]; rfl)) (fun u hu => Op.one x u hu) (by simp only [maxLen]; have := hLB.out; omega) (by have := hLB.out; omega) (by have := hB.out.size; simp only [World.size_alloc]; omega) ?_; intro v' w6 hown' hgrow hnil; have HO := Lib.hid hown'; have HGW := Lib.hid hgrow; have HNI := Lib.hid hnil; clear hown' hgrow hnil))
            all_goals (go_roundg (20 - (i + 1)))
            case measure => omega
            case rel => exact (by
              have hge := fun k (e : Value.ownBlock _ = some k) => rowGe hRW.out e
              refine ⟨i + 1, bl ++ [x], by first | rfl | go_num, by omega, by omega, (show Aside _ from ?_), (show Aside _ from (by have h := hLB.out; rw [List.length_append, List.length_singleton]; omega : (bl ++ [x]).length ≤ A.length + (i + 1))), (show Aside _ from fun y => ?_), (show Aside _ from ?_)⟩
              · show w6.ownsRow _ _ _ _ _ _
                rw [List.length_append, List.flatMap_append, List.flatMap_cons, List.flatMap_nil, List.append_nil]
                exact HO.out
              · rw [List.mem_append, List.mem_singleton]
                exact ⟨fun h => h.elim (hMB.out y).1 (fun e => e ▸ HXM.out), fun h => .inl ((hMB.out y).2 h)⟩
              · exact (hB.out.alloc hB.out.size _).trans (grownBy_below HGW.out (by have := hB.out.size; simp only [World.size_alloc]; omega) hge))
        · have d1 : decide (i < tu.length) = true := decide_eq_true (by omega)
          have c1 : (i : Int) < (tu.length : Int) := by omega
          have d2 : decide (i < 20) = false := decide_eq_false (by omega)
          have c2 : ¬ (i : Int) < 20 := by omega
          obtain ⟨hof, hso⟩ := HFW.out bl hMB.out
          have HOFB := Lib.hid hof
          have HSOB := Lib.hid hso
          have HRB := Lib.hid hRW.out
          have HRAr := Lib.hid (HRA.out.kept hB.out)
          have HNB : Hid (∀ o ∈ bl, o.Small) := Lib.hid fun o ho => HNM.out o ((hMB.out o).1 ho)
          have HLB : Hid (bl.length ≤ 1000) := Lib.hid (by have := hLB.out; omega)
          have HLA : Hid (A.length ≤ 1000) := Lib.hid (by omega)
          have HSL1 : Hid ((sortOps A).length ≤ 1000) := Lib.hid (by have := sort_len A; omega)
          have HBW : Hid (Below w.heap.size w wr) := Lib.hid (HB2.out.trans (hB.out.mono HB2.out.size))
          have HBr0 : Hid (Below wr.heap.size wr wr) := Lib.hid (Below.refl _ _)
          have HOK : Hid ((ofOps A).Ok) := Lib.hid (ofOps_ok A)
          have HNMS : Hid (∀ x ∈ (ofOps A).e, x.name.size ≤ maxLen) := Lib.hid fun x hx => name_small13 ((ofOps_ok A).names x hx)
          clear hof hso hRW hLB hMB hB hlt
          go_wp2_with fail
          refine (of_any _ A wr HRAr.out.sl HNM.out HLA.out).mono ?_
          rintro e r1 ⟨u1, rfl, ⟨g1, mI1, mE1, rfl, hG1, _, _, _⟩, hbr1⟩
          obtain ⟨hcr1, hfr1⟩ := bcell hbr1
          have hsr1 := hbr1.size
          try simp only [World.size_alloc] at hsr1
          try simp only [size_setCell'] at hsr1
          try have ler1_0 : wr.heap.size ≤ r1.heap.size := (by omega)
          try have ltr1_0 : wr.heap.size < r1.heap.size := (by omega)
          have HBr1 : Hid (Below wr.heap.size wr r1) := Lib.hid (Below.trans (by first | exact HBr0.out | exact HBr0.out.alloc HBr0.out.size _ | exact (HBr0.out.alloc HBr0.out.size _).alloc (le_al HBr0.out.size) _ | exact ((HBr0.out.alloc HBr0.out.size _).alloc (le_al HBr0.out.size) _).alloc (le_al (le_al HBr0.out.size)) _) (hbr1.mono (by (try simp only [World.size_alloc]); (try simp only [size_setCell']); omega)))
          have HNr1 := Lib.hid hbr1
          clear hbr1 hsr1
          have HG1r := Lib.hid (hG1.reads HOK.out (by have := HOK.out.few; omega))
          have HRB1 := Lib.hid (HRB.out.kept HNr1.out)
          have HRA1 := Lib.hid (HRAr.out.kept HNr1.out)
          clear hG1
          go_wp2_with fail
          refine (of_any _ bl r1 HRB1.out.sl HNB.out HLB.out).mono ?_
          rintro e r2 ⟨u2, rfl, ⟨g2, mI2, mE2, rfl, hG2, _, _, _⟩, hbr2⟩
          obtain ⟨hcr2, hfr2⟩ := bcell hbr2
          have hsr2 := hbr2.size
          try simp only [World.size_alloc] at hsr2
          try simp only [size_setCell'] at hsr2
          try have ler2_0 : wr.heap.size ≤ r2.heap.size := (by omega)
          try have ltr2_0 : wr.heap.size < r2.heap.size := (by omega)
          try have ler2_1 : r1.heap.size ≤ r2.heap.size := (by omega)
          try have ltr2_1 : r1.heap.size < r2.heap.size := (by omega)
          have HBr2 : Hid (Below wr.heap.size wr r2) := Lib.hid (Below.trans (by first | exact HBr1.out | exact HBr1.out.alloc HBr1.out.size _ | exact (HBr1.out.alloc HBr1.out.size _).alloc (le_al HBr1.out.size) _ | exact ((HBr1.out.alloc HBr1.out.size _).alloc (le_al HBr1.out.size) _).alloc (le_al (le_al HBr1.out.size)) _) (hbr2.mono (by (try simp only [World.size_alloc]); (try simp only [size_setCell']); omega)))
          have HNr2 := Lib.hid hbr2
          clear hbr2 hsr2
          rw [HOFB.out] at hG2
          have HG2r := Lib.hid (hG2.reads HOK.out (by have := HOK.out.few; omega))
          have HG1s := Lib.hid (HG1r.out.below HNr2.out)
          have HRB2 := Lib.hid (HRB1.out.kept HNr2.out)
          have HRA2 := Lib.hid (HRA1.out.kept HNr2.out)
          clear hG2
          go_wp2_with fail
          refine (same_any g1 g2 _ r2 HOK.out HG1s.out HG2r.out).mono ?_
          rintro e r3 ⟨rfl, hbr3⟩
          obtain ⟨hcr3, hfr3⟩ := bcell hbr3
          have hsr3 := hbr3.size
          try simp only [World.size_alloc] at hsr3
          try simp only [size_setCell'] at hsr3
          try have ler3_0 : wr.heap.size ≤ r3.heap.size := (by omega)
          try have ltr3_0 : wr.heap.size < r3.heap.size := (by omega)
          try have ler3_1 : r1.heap.size ≤ r3.heap.size := (by omega)
          try have ltr3_1 : r1.heap.size < r3.heap.size := (by omega)
          try have ler3_2 : r2.heap.size ≤ r3.heap.size := (by omega)
          try have ltr3_2 : r2.heap.size < r3.heap.size := (by omega)
          have HBr3 : Hid (Below wr.heap.size wr r3) := Lib.hid (Below.trans (by first | exact HBr2.out | exact HBr2.out.alloc HBr2.out.size _ | exact (HBr2.out.alloc HBr2.out.size _).alloc (le_al HBr2.out.size) _ | exact ((HBr2.out.alloc HBr2.out.size _).alloc (le_al HBr2.out.size) _).alloc (le_al (le_al HBr2.out.size)) _) (hbr3.mono (by (try simp only [World.size_alloc]); (try simp only [size_setCell']); omega)))
          have HNr3 := Lib.hid hbr3
          clear hbr3 hsr3
          have HG1t := Lib.hid (HG1s.out.below HNr3.out)
          have HRB3 := Lib.hid (HRB2.out.kept HNr3.out)
          have HRA3 := Lib.hid (HRA2.out.kept HNr3.out)
          go_wp2_with fail
          refine (HG1t.out.inodes _ (Below.refl _ _)).mono ?_
          rintro e r4 ⟨ia, ic, rfl, hs4, hbr4⟩
          obtain ⟨hcr4, hfr4⟩ := bcell hbr4
          have hsr4 := hbr4.size
          try simp only [World.size_alloc] at hsr4
          try simp only [size_setCell'] at hsr4
          try have ler4_0 : wr.heap.size ≤ r4.heap.size := (by omega)
          try have ltr4_0 : wr.heap.size < r4.heap.size := (by omega)
          try have ler4_1 : r1.heap.size ≤ r4.heap.size := (by omega)
          try have ltr4_1 : r1.heap.size < r4.heap.size := (by omega)
          try have ler4_2 : r2.heap.size ≤ r4.heap.size := (by omega)
          try have ltr4_2 : r2.heap.size < r4.heap.size := (by omega)
          try have ler4_3 : r3.heap.size ≤ r4.heap.size := (by omega)
          try have ltr4_3 : r3.heap.size < r4.heap.size := (by omega)
          have HBr4 : Hid (Below wr.heap.size wr r4) := Lib.hid (Below.trans (by first | exact HBr3.out | exact HBr3.out.alloc HBr3.out.size _ | exact (HBr3.out.alloc HBr3.out.size _).alloc (le_al HBr3.out.size) _ | exact ((HBr3.out.alloc HBr3.out.size _).alloc (le_al HBr3.out.size) _).alloc (le_al (le_al HBr3.out.size)) _) (hbr4.mono (by (try simp only [World.size_alloc]); (try simp only [size_setCell']); omega)))
          have HNr4 := Lib.hid hbr4
          clear hbr4 hsr4
          have HI4 := Lib.hid hs4
          clear hs4
          go_wp2_with fail
          refine (HG1t.out.entries _ HNr4.out).mono ?_
          rintro e r5 ⟨ea, ec, rfl, hs5, hbr5⟩
          obtain ⟨hcr5, hfr5⟩ := bcell hbr5
          have hsr5 := hbr5.size
          try simp only [World.size_alloc] at hsr5
          try simp only [size_setCell'] at hsr5
          try have ler5_0 : wr.heap.size ≤ r5.heap.size := (by omega)
          try have ltr5_0 : wr.heap.size < r5.heap.size := (by omega)
          try have ler5_1 : r1.heap.size ≤ r5.heap.size := (by omega)
          try have ltr5_1 : r1.heap.size < r5.heap.size := (by omega)
          try have ler5_2 : r2.heap.size ≤ r5.heap.size := (by omega)
          try have ltr5_2 : r2.heap.size < r5.heap.size := (by omega)
          try have ler5_3 : r3.heap.size ≤ r5.heap.size := (by omega)
          try have ltr5_3 : r3.heap.size < r5.heap.size := (by omega)
          try have ler5_4 : r4.heap.size ≤ r5.heap.size := (by omega)
          try have ltr5_4 : r4.heap.size < r5.heap.size := (by omega)
          have HBr5 : Hid (Below wr.heap.size wr r5) := Lib.hid (Below.trans (by first | exact HBr4.out | exact HBr4.out.alloc HBr4.out.size _ | exact (HBr4.out.alloc HBr4.out.size _).alloc (le_al HBr4.out.size) _ | exact ((HBr4.out.alloc HBr4.out.size _).alloc (le_al HBr4.out.size) _).alloc (le_al (le_al HBr4.out.size)) _) (hbr5.mono (by (try simp only [World.size_alloc]); (try simp only [size_setCell']); omega)))
          have HNr5 := Lib.hid hbr5
          clear hbr5 hsr5
          have HFI5 := Lib.hid (fine_any _ _ (ofOps A).n (ofOps A).e r5 (HI4.out.below HNr5.out) hs5 (by have := HOK.out.len; omega) (by have := HOK.out.few; omega) HNMS.out)
          rw [HFI.out] at HFI5
          clear hs5
          go_wp2_with fail
          refine (HFI5.out).mono ?_
          rintro e r6 ⟨rfl, hbr6⟩
          obtain ⟨hcr6, hfr6⟩ := bcell hbr6
          have hsr6 := hbr6.size
          try simp only [World.size_alloc] at hsr6
          try simp only [size_setCell'] at hsr6
          try have ler6_0 : wr.heap.size ≤ r6.heap.size := (by omega)
          try have ltr6_0 : wr.heap.size < r6.heap.size := (by omega)
          try have ler6_1 : r1.heap.size ≤ r6.heap.size := (by omega)
          try have ltr6_1 : r1.heap.size < r6.heap.size := (by omega)
          try have ler6_2 : r2.heap.size ≤ r6.heap.size := (by omega)
          try have ltr6_2 : r2.heap.size < r6.heap.size := (by omega)
          try have ler6_3 : r3.heap.size ≤ r6.heap.size := (by omega)
          try have ltr6_3 : r3.heap.size < r6.heap.size := (by omega)
          try have ler6_4 : r4.heap.size ≤ r6.heap.size := (by omega)
          try have ltr6_4 : r4.heap.size < r6.heap.size := (by omega)
          try have ler6_5 : r5.heap.size ≤ r6.heap.size := (by omega)
          try have ltr6_5 : r5.heap.size < r6.heap.size := (by omega)
          have HBr6 : Hid (Below wr.heap.size wr r6) := Lib.hid (Below.trans (by first | exact HBr5.out | exact HBr5.out.alloc HBr5.out.size _ | exact (HBr5.out.alloc HBr5.out.size _).alloc (le_al HBr5.out.size) _ | exact ((HBr5.out.alloc HBr5.out.size _).alloc (le_al HBr5.out.size) _).alloc (le_al (le_al HBr5.out.size)) _) (hbr6.mono (by (try simp only [World.size_alloc]); (try simp only [size_setCell']); omega)))
          have HNr6 := Lib.hid hbr6
          clear hbr6 hsr6
          have HRA6 := Lib.hid (((HRA3.out.kept HNr4.out).kept HNr5.out).kept HNr6.out)
          have HRB6 := Lib.hid (((HRB3.out.kept HNr4.out).kept HNr5.out).kept HNr6.out)
          go_wp2_with fail
          refine (sort_any _ A r6 HRA6.out.sl HNM.out HLA.out).mono ?_
          rintro e r7 ⟨u7, rfl, hr7, hbr7⟩
          obtain ⟨hcr7, hfr7⟩ := bcell hbr7
          have hsr7 := hbr7.size
          try simp only [World.size_alloc] at hsr7
          try simp only [size_setCell'] at hsr7
          try have ler7_0 : wr.heap.size ≤ r7.heap.size := (by omega)
          try have ltr7_0 : wr.heap.size < r7.heap.size := (by omega)
          try have ler7_1 : r1.heap.size ≤ r7.heap.size := (by omega)
          try have ltr7_1 : r1.heap.size < r7.heap.size := (by omega)
          try have ler7_2 : r2.heap.size ≤ r7.heap.size := (by omega)
          try have ltr7_2 : r2.heap.size < r7.heap.size := (by omega)
          try have ler7_3 : r3.heap.size ≤ r7.heap.size := (by omega)
          try have ltr7_3 : r3.heap.size < r7.heap.size := (by omega)
          try have ler7_4 : r4.heap.size ≤ r7.heap.size := (by omega)
          try have ltr7_4 : r4.heap.size < r7.heap.size := (by omega)
          try have ler7_5 : r5.heap.size ≤ r7.heap.size := (by omega)
          try have ltr7_5 : r5.heap.size < r7.heap.size := (by omega)
          try have ler7_6 : r6.heap.size ≤ r7.heap.size := (by omega)
          try have ltr7_6 : r6.heap.size < r7.heap.size := (by omega)
          have HBr7 : Hid (Below wr.heap.size wr r7) := Lib.hid (Below.trans (by first | exact HBr6.out | exact HBr6.out.alloc HBr6.out.size _ | exact (HBr6.out.alloc HBr6.out.size _).alloc (le_al HBr6.out.size) _ | exact ((HBr6.out.alloc HBr6.out.size _).alloc (le_al HBr6.out.size) _).alloc (le_al (le_al HBr6.out.size)) _) (hbr7.mono (by (try simp only [World.size_alloc]); (try simp only [size_setCell']); omega)))
          have HNr7 := Lib.hid hbr7
          clear hbr7 hsr7
          have HS7 := Lib.hid hr7
          obtain ⟨s7, z7, rfl⟩ := hr7.shape
          have HRB7 := Lib.hid (HRB6.out.kept HNr7.out)
          clear hr7
          go_wp2_with fail
          refine (sort_any _ bl r7 HRB7.out.sl HNB.out HLB.out).mono ?_
          rintro e r8 ⟨u8, rfl, hr8, hbr8⟩
          obtain ⟨hcr8, hfr8⟩ := bcell hbr8
          have hsr8 := hbr8.size
          try simp only [World.size_alloc] at hsr8
          try simp only [size_setCell'] at hsr8
          try have ler8_0 : wr.heap.size ≤ r8.heap.size := (by omega)
          try have ltr8_0 : wr.heap.size < r8.heap.size := (by omega)
          try have ler8_1 : r1.heap.size ≤ r8.heap.size := (by omega)
          try have ltr8_1 : r1.heap.size < r8.heap.size := (by omega)
          try have ler8_2 : r2.heap.size ≤ r8.heap.size := (by omega)
          try have ltr8_2 : r2.heap.size < r8.heap.size := (by omega)
          try have ler8_3 : r3.heap.size ≤ r8.heap.size := (by omega)
          try have ltr8_3 : r3.heap.size < r8.heap.size := (by omega)
          try have ler8_4 : r4.heap.size ≤ r8.heap.size := (by omega)
          try have ltr8_4 : r4.heap.size < r8.heap.size := (by omega)
          try have ler8_5 : r5.heap.size ≤ r8.heap.size := (by omega)
          try have ltr8_5 : r5.heap.size < r8.heap.size := (by omega)
          try have ler8_6 : r6.heap.size ≤ r8.heap.size := (by omega)
          try have ltr8_6 : r6.heap.size < r8.heap.size := (by omega)
          try have ler8_7 : r7.heap.size ≤ r8.heap.size := (by omega)
          try have ltr8_7 : r7.heap.size < r8.heap.size := (by omega)
          have HBr8 : Hid (Below wr.heap.size wr r8) := Lib.hid (Below.trans (by first | exact HBr7.out | exact HBr7.out.alloc HBr7.out.size _ | exact (HBr7.out.alloc HBr7.out.size _).alloc (le_al HBr7.out.size) _ | exact ((HBr7.out.alloc HBr7.out.size _).alloc (le_al HBr7.out.size) _).alloc (le_al (le_al HBr7.out.size)) _) (hbr8.mono (by (try simp only [World.size_alloc]); (try simp only [size_setCell']); omega)))
          have HNr8 := Lib.hid hbr8
          clear hbr8 hsr8
          rw [HSOB.out] at hr8
          have HS8 := Lib.hid hr8
          obtain ⟨s8, z8, rfl⟩ := hr8.shape
          have HS7a := Lib.hid (HS7.out.kept HNr8.out)
          clear hr8
          go_wp2_with fail
          refine (ops_same _ _ (sortOps A) r8 HS7a.out.sl HS8.out.sl HSL1.out).mono ?_
          rintro e r9 ⟨rfl, hbr9⟩
          obtain ⟨hcr9, hfr9⟩ := bcell hbr9
          have hsr9 := hbr9.size
          try simp only [World.size_alloc] at hsr9
          try simp only [size_setCell'] at hsr9
          try have ler9_0 : wr.heap.size ≤ r9.heap.size := (by omega)
          try have ltr9_0 : wr.heap.size < r9.heap.size := (by omega)
          try have ler9_1 : r1.heap.size ≤ r9.heap.size := (by omega)
          try have ltr9_1 : r1.heap.size < r9.heap.size := (by omega)
          try have ler9_2 : r2.heap.size ≤ r9.heap.size := (by omega)
          try have ltr9_2 : r2.heap.size < r9.heap.size := (by omega)
          try have ler9_3 : r3.heap.size ≤ r9.heap.size := (by omega)
          try have ltr9_3 : r3.heap.size < r9.heap.size := (by omega)
          try have ler9_4 : r4.heap.size ≤ r9.heap.size := (by omega)
          try have ltr9_4 : r4.heap.size < r9.heap.size := (by omega)
          try have ler9_5 : r5.heap.size ≤ r9.heap.size := (by omega)
          try have ltr9_5 : r5.heap.size < r9.heap.size := (by omega)
          try have ler9_6 : r6.heap.size ≤ r9.heap.size := (by omega)
          try have ltr9_6 : r6.heap.size < r9.heap.size := (by omega)
          try have ler9_7 : r7.heap.size ≤ r9.heap.size := (by omega)
          try have ltr9_7 : r7.heap.size < r9.heap.size := (by omega)
          try have ler9_8 : r8.heap.size ≤ r9.heap.size := (by omega)
          try have ltr9_8 : r8.heap.size < r9.heap.size := (by omega)
          have HBr9 : Hid (Below wr.heap.size wr r9) := Lib.hid (Below.trans (by first | exact HBr8.out | exact HBr8.out.alloc HBr8.out.size _ | exact (HBr8.out.alloc HBr8.out.size _).alloc (le_al HBr8.out.size) _ | exact ((HBr8.out.alloc HBr8.out.size _).alloc (le_al HBr8.out.size) _).alloc (le_al (le_al HBr8.out.size)) _) (hbr9.mono (by (try simp only [World.size_alloc]); (try simp only [size_setCell']); omega)))
          have HNr9 := Lib.hid hbr9
          clear hbr9 hsr9
          go_wp2
          go_ret
          exact ⟨rfl, HBW.out.trans (HBr9.out.mono HBW.out.size)⟩

set_option maxRecDepth 100000 in
set_option maxHeartbeats 8000000 in
theorem conv_100_20 (v1 : Value) (l : List Op) (v2 : Value) (tu : List Int) (w : World) (hs1 : SlAt w 13 Op.cells v1 l) (hn1 : ∀ o ∈ l, o.Small) (hs2 : SlAt w 1 U8.cells v2 tu) (hn2 : ∀ z ∈ tu, (Lit.int .u8 z).wf = true) (hl60 : decide (l.length ≤ 60) = true) (hT : 100 < tu.length) (hN : 0 < (distinctOf l).length) :
    Calls Tryz.prog 13 #[v1, v2] w fun y w' => y = .returned (.bool true) ∧ Below w.heap.size w w' := by
  have HF1 := Lib.hid (fun W (hW : Below w.heap.size w W) => few_any v1 l W (hs1.below hW))
  have HDI := Lib.hid (fun (hl : l.length ≤ 1000) W (hW : Below w.heap.size w W) => distinct_any v1 l W (hs1.below hW) hl)
  have HS2 : Hid (∀ W, Below w.heap.size w W → SlAt W 1 U8.cells v2 tu) := Lib.hid fun W hW => hs2.below hW
  have HWF := Lib.hid hn2
  have HNM : Hid (∀ o ∈ distinctOf l, o.Small) := Lib.hid fun o ho => hn1 o ((dist_sub l []).subset ho)
  have HB0 : Hid (Below w.heap.size w w) := Lib.hid (Below.refl _ _)
  have HFW : Hid (∀ bl : List Op, (∀ x, x ∈ bl ↔ x ∈ distinctOf l) → ofOps bl = ofOps (distinctOf l) ∧ sortOps bl = sortOps (distinctOf l)) := Lib.hid fun bl hb => by
    have e := same_sort (distinct_one l) hb
    exact ⟨by unfold ofOps; rw [e], e⟩
  have HFI : Hid (fineB (ofOps (distinctOf l)).n (ofOps (distinctOf l)).e = true) := Lib.hid (ran_fine _).fine
  have HL6 : Hid (l.length ≤ 60) := Lib.hid (of_decide_eq_true hl60)
  have hdl : (distinctOf l).length ≤ 60 := Nat.le_trans (dist_len l []) HL6.out
  obtain ⟨i0, hinf, hz0, hz1, hz2⟩ := info_parts infoOp
  obtain ⟨a1, c1_, rfl⟩ := hs1.len
  obtain ⟨a2, c2_, rfl⟩ := hs2.len
  rw [hl60] at HF1
  clear hs1 hs2 hn1 hn2 hl60
  have HDI := Lib.hid (HDI.out (by have := HL6.out; omega))
  generalize distinctOf l = A at *
  go_enter Tryz.func13, Tryz.ntmps13
  go_wp2_with fail
  refine (shown_any _).mono ?_
  rintro e w1 ⟨rfl, hb1⟩
  obtain ⟨hc1, hf1⟩ := bcell hb1
  have hs1 := hb1.size
  try simp only [World.size_alloc] at hs1
  try simp only [size_setCell'] at hs1
  try have le1_0 : w.heap.size ≤ w1.heap.size := (by omega)
  try have lt1_0 : w.heap.size < w1.heap.size := (by omega)
  have HB1 : Hid (Below w.heap.size w w1) := Lib.hid (Below.trans (by first | exact HB0.out | exact HB0.out.alloc HB0.out.size _ | exact (HB0.out.alloc HB0.out.size _).alloc (le_al HB0.out.size) _ | exact ((HB0.out.alloc HB0.out.size _).alloc (le_al HB0.out.size) _).alloc (le_al (le_al HB0.out.size)) _) (hb1.mono (by (try simp only [World.size_alloc]); (try simp only [size_setCell']); omega)))
  have HN1 := Lib.hid hb1
  clear hb1 hs1
  go_wp2_with (go_at_call 35; refine (HF1.out _ HB1.out).mono ?_; rintro y w' ⟨rfl, rfl⟩)
  go_wp2_with fail
  refine (HDI.out _ (by first | exact HB1.out | exact HB1.out.alloc HB1.out.size _ | exact (HB1.out.alloc HB1.out.size _).alloc (le_al HB1.out.size) _ | exact ((HB1.out.alloc HB1.out.size _).alloc (le_al HB1.out.size) _).alloc (le_al (le_al HB1.out.size)) _)).mono ?_
  rintro e w2 ⟨va, rfl, hra, hb2⟩
  obtain ⟨hc2, hf2⟩ := bcell hb2
  have hs2 := hb2.size
  try simp only [World.size_alloc] at hs2
  try simp only [size_setCell'] at hs2
  try have le2_0 : w.heap.size ≤ w2.heap.size := (by omega)
  try have lt2_0 : w.heap.size < w2.heap.size := (by omega)
  try have le2_1 : w1.heap.size ≤ w2.heap.size := (by omega)
  try have lt2_1 : w1.heap.size < w2.heap.size := (by omega)
  have HB2 : Hid (Below w.heap.size w w2) := Lib.hid (Below.trans (by first | exact HB1.out | exact HB1.out.alloc HB1.out.size _ | exact (HB1.out.alloc HB1.out.size _).alloc (le_al HB1.out.size) _ | exact ((HB1.out.alloc HB1.out.size _).alloc (le_al HB1.out.size) _).alloc (le_al (le_al HB1.out.size)) _) (hb2.mono (by (try simp only [World.size_alloc]); (try simp only [size_setCell']); omega)))
  have HN2 := Lib.hid hb2
  clear hb2 hs2
  have HRA := Lib.hid hra
  obtain ⟨pa, ca, rfl⟩ := hra.shape
  clear hra
  go_wp2_with (at_builtin; refine wpList_append_opsr rfl _ _ rfl w2.heap.size ⟨w2.heap.size, 0, none⟩ rfl (World.ownsRow_made w2 #[] 0 (Nat.le_refl _) (by decide) rfl) _ _ A rfl (HRA.out.kept ((Below.refl _ w2).alloc (Nat.le_refl _) _)) (by omega) (by simp) ?_; intro v7 w3 hr7 hg7 hn7; have HR7 := Lib.hid hr7; have HB73 : Hid (Below w2.heap.size w2 w3) := Lib.hid (((Below.refl _ w2).alloc (Nat.le_refl _) _).trans (grownBy_below hg7 (by simp) (fun k e => by simp at e; omega))); have hsh : ∃ g c, v7 = .slice (some ⟨g, 0, none⟩) A.length c := (by rcases hr7.two with ⟨e, _⟩ | ⟨g, c, e, _⟩; exact absurd e hn7; exact ⟨g, c, e⟩); obtain ⟨g, c, rfl⟩ := hsh; clear hr7 hg7 hn7)
  have HGE : Hid (w2.heap.size ≤ g) := Lib.hid (rowGe HR7.out rfl)
  go_wp2
  go_loopg [8] 100 (fun gg s8 wr => ∃ (i : Nat) (bl : List Op), s8 = .int .i64 i ∧ i ≤ 100 ∧ 100 - i ≤ gg ∧ bl.length = A.length ∧ Aside (OpsRow w2.heap.size (.slice (some ⟨g, 0, none⟩) bl.length c) bl wr) ∧ Aside (∀ x, x ∈ bl ↔ x ∈ A) ∧ Aside (Below w2.heap.size w2 wr))
  case atStart => exact ⟨0, A, rfl, Nat.zero_le _, by omega, rfl, (show Aside _ from HR7.out), (show Aside _ from fun _ => Iff.rfl), (show Aside _ from HB73.out)⟩
  case round =>
    obtain ⟨i, bl, rfl, hil, hgg, hbl, hRW, hMB, hB⟩ := hrel
    have hi0 : (0 : Int) ≤ (i : Int) := by omega
    have hwi : IntKind.i64.wrap ((i : Int) + 1) = (i : Int) + 1 := wrapNat (i + 1) (by omega)
    by_cases hlt : i < 100
    · have d1 : decide (i < tu.length) = true := decide_eq_true (by omega)
      have c1 : (i : Int) < (tu.length : Int) := by omega
      have d2 : decide (i < 100) = true := decide_eq_true (by omega)
      have c2 : (i : Int) < 100 := by omega
      have hn0 : 0 < A.length := by omega
      have d3 : decide (0 < A.length) = true := decide_eq_true hn0
      have c3 : (0 : Int) < (A.length : Int) := by omega
      have hsx := HS2.out wr (HB2.out.trans (hB.out.mono HB2.out.size))
      obtain ⟨tb, tq, rfl, _, htc⟩ := slAt_at hsx (show i < tu.length by omega)
      have t0 := htc i (by omega) 0 _ rfl
      rw [Nat.add_zero, Nat.mul_one] at t0
      obtain ⟨ht0, ht1⟩ := u8_bounds (HWF.out _ (getElem!_mem (show i < tu.length by omega)))
      generalize tu[i]! = t at *
      have hwt : IntKind.i64.wrap t = t := by rw [IntKind.wrap_i64]; omega
      obtain ⟨X, hX, hXl⟩ := rem_less (j := t) ht0 hn0
      obtain ⟨Y, hY, hYl⟩ := rem_less (j := (X : Int) + (i : Int) + 1) (by omega) hn0
      have hw2 : IntKind.i64.wrap ((X : Int) + (i : Int)) = (X : Int) + (i : Int) := by rw [IntKind.wrap_i64]; omega
      have hw3 : IntKind.i64.wrap ((X : Int) + (i : Int) + 1) = (X : Int) + (i : Int) + 1 := by rw [IntKind.wrap_i64]; omega
      have hne : ¬ ((A.length : Int) = 0) := by omega
      have hX0 : (0 : Int) ≤ (X : Int) := by omega
      have hY0 : (0 : Int) ≤ (Y : Int) := by omega
      have hXc : (X : Int) < (A.length : Int) := by omega
      have hYc : (Y : Int) < (A.length : Int) := by omega
      have HXY : Hid (X < bl.length ∧ Y < bl.length) := Lib.hid ⟨by omega, by omega⟩
      have hsl := hRW.out.sl
      obtain ⟨gb', go', hge, hgl, hgc⟩ := slAt_at hsl HXY.out.1
      simp only [Option.some.injEq, Addr.mk.injEq, and_true] at hge
      obtain ⟨rfl, rfl⟩ := hge
      obtain ⟨x0, x1, x2, x3, x4, x5, x6, x7, x8, x9, x10, x11, x12⟩ := cellsOpF hgc X HXY.out.1
      obtain ⟨y0, y1, y2, y3, y4, y5, y6, y7, y8, y9, y10, y11, y12⟩ := cellsOpF hgc Y HXY.out.2
      simp only [Nat.zero_add] at x0 x1 x2 x3 x4 x5 x6 x7 x8 x9 x10 x11 x12 y0 y1 y2 y3 y4 y5 y6 y7 y8 y9 y10 y11 y12
      have HSW : Hid (∀ x, x ∈ (bl.set X bl[Y]!).set Y bl[X]! ↔ x ∈ A) := Lib.hid fun x => ((swap_perm HXY.out.1 HXY.out.2).mem_iff).trans (hMB.out x)
      clear hsx htc hsl hgc
      generalize bl[X]! = bx at *
      generalize bl[Y]! = bq at *
      go_upto_region 12 with (fail)
      refine wp_region_lit ?_
      iterate 7 (refine wpList_plain rfl fun K hK => ?_; unfold Oper.wp; go_simp; refine hK _ _ ?_; clear hK)
      refine wpList_store_op rfl _ _ rfl w2.heap.size g c X bl bq (OpsRow.kept hRW.out ((Below.refl _ wr).alloc (Nat.le_refl _) _)) HXY.out.1 rfl rfl ?_
      intro W1 hr1 hgr
      have HR1 := Lib.hid hr1
      have HG1 := Lib.hid hgr
      have hx0 := (hgr.cell (a := ⟨wr.heap.size, 0, none⟩) (cell_new wr _ rfl _ _ 0 _ rfl : (wr.alloc (.cells #[.int .i64 bx.stamp.t, .int .i64 bx.stamp.r, .int .i64 bx.kind, .int .i64 bx.at_.t, .int .i64 bx.at_.r, .int .i64 bx.ino.t, .int .i64 bx.ino.r, .int .i64 bx.to.t, .int .i64 bx.to.r, .string bx.name, .string bx.new, .int .i64 bx.off, .string bx.data] 47)).cell? _ = some _) (by intro e; simp at e; omega))
      have hx1 := (hgr.cell (a := ⟨wr.heap.size, 1, none⟩) (cell_new wr _ rfl _ _ 1 _ rfl : (wr.alloc (.cells #[.int .i64 bx.stamp.t, .int .i64 bx.stamp.r, .int .i64 bx.kind, .int .i64 bx.at_.t, .int .i64 bx.at_.r, .int .i64 bx.ino.t, .int .i64 bx.ino.r, .int .i64 bx.to.t, .int .i64 bx.to.r, .string bx.name, .string bx.new, .int .i64 bx.off, .string bx.data] 47)).cell? _ = some _) (by intro e; simp at e; omega))
      have hx2 := (hgr.cell (a := ⟨wr.heap.size, 2, none⟩) (cell_new wr _ rfl _ _ 2 _ rfl : (wr.alloc (.cells #[.int .i64 bx.stamp.t, .int .i64 bx.stamp.r, .int .i64 bx.kind, .int .i64 bx.at_.t, .int .i64 bx.at_.r, .int .i64 bx.ino.t, .int .i64 bx.ino.r, .int .i64 bx.to.t, .int .i64 bx.to.r, .string bx.name, .string bx.new, .int .i64 bx.off, .string bx.data] 47)).cell? _ = some _) (by intro e; simp at e; omega))
      have hx3 := (hgr.cell (a := ⟨wr.heap.size, 3, none⟩) (cell_new wr _ rfl _ _ 3 _ rfl : (wr.alloc (.cells #[.int .i64 bx.stamp.t, .int .i64 bx.stamp.r, .int .i64 bx.kind, .int .i64 bx.at_.t, .int .i64 bx.at_.r, .int .i64 bx.ino.t, .int .i64 bx.ino.r, .int .i64 bx.to.t, .int .i64 bx.to.r, .string bx.name, .string bx.new, .int .i64 bx.off, .string bx.data] 47)).cell? _ = some _) (by intro e; simp at e; omega))
      have hx4 := (hgr.cell (a := ⟨wr.heap.size, 4, none⟩) (cell_new wr _ rfl _ _ 4 _ rfl : (wr.alloc (.cells #[.int .i64 bx.stamp.t, .int .i64 bx.stamp.r, .int .i64 bx.kind, .int .i64 bx.at_.t, .int .i64 bx.at_.r, .int .i64 bx.ino.t, .int .i64 bx.ino.r, .int .i64 bx.to.t, .int .i64 bx.to.r, .string bx.name, .string bx.new, .int .i64 bx.off, .string bx.data] 47)).cell? _ = some _) (by intro e; simp at e; omega))
      have hx5 := (hgr.cell (a := ⟨wr.heap.size, 5, none⟩) (cell_new wr _ rfl _ _ 5 _ rfl : (wr.alloc (.cells #[.int .i64 bx.stamp.t, .int .i64 bx.stamp.r, .int .i64 bx.kind, .int .i64 bx.at_.t, .int .i64 bx.at_.r, .int .i64 bx.ino.t, .int .i64 bx.ino.r, .int .i64 bx.to.t, .int .i64 bx.to.r, .string bx.name, .string bx.new, .int .i64 bx.off, .string bx.data] 47)).cell? _ = some _) (by intro e; simp at e; omega))
      have hx6 := (hgr.cell (a := ⟨wr.heap.size, 6, none⟩) (cell_new wr _ rfl _ _ 6 _ rfl : (wr.alloc (.cells #[.int .i64 bx.stamp.t, .int .i64 bx.stamp.r, .int .i64 bx.kind, .int .i64 bx.at_.t, .int .i64 bx.at_.r, .int .i64 bx.ino.t, .int .i64 bx.ino.r, .int .i64 bx.to.t, .int .i64 bx.to.r, .string bx.name, .string bx.new, .int .i64 bx.off, .string bx.data] 47)).cell? _ = some _) (by intro e; simp at e; omega))
      have hx7 := (hgr.cell (a := ⟨wr.heap.size, 7, none⟩) (cell_new wr _ rfl _ _ 7 _ rfl : (wr.alloc (.cells #[.int .i64 bx.stamp.t, .int .i64 bx.stamp.r, .int .i64 bx.kind, .int .i64 bx.at_.t, .int .i64 bx.at_.r, .int .i64 bx.ino.t, .int .i64 bx.ino.r, .int .i64 bx.to.t, .int .i64 bx.to.r, .string bx.name, .string bx.new, .int .i64 bx.off, .string bx.data] 47)).cell? _ = some _) (by intro e; simp at e; omega))
      have hx8 := (hgr.cell (a := ⟨wr.heap.size, 8, none⟩) (cell_new wr _ rfl _ _ 8 _ rfl : (wr.alloc (.cells #[.int .i64 bx.stamp.t, .int .i64 bx.stamp.r, .int .i64 bx.kind, .int .i64 bx.at_.t, .int .i64 bx.at_.r, .int .i64 bx.ino.t, .int .i64 bx.ino.r, .int .i64 bx.to.t, .int .i64 bx.to.r, .string bx.name, .string bx.new, .int .i64 bx.off, .string bx.data] 47)).cell? _ = some _) (by intro e; simp at e; omega))
      have hx9 := (hgr.cell (a := ⟨wr.heap.size, 9, none⟩) (cell_new wr _ rfl _ _ 9 _ rfl : (wr.alloc (.cells #[.int .i64 bx.stamp.t, .int .i64 bx.stamp.r, .int .i64 bx.kind, .int .i64 bx.at_.t, .int .i64 bx.at_.r, .int .i64 bx.ino.t, .int .i64 bx.ino.r, .int .i64 bx.to.t, .int .i64 bx.to.r, .string bx.name, .string bx.new, .int .i64 bx.off, .string bx.data] 47)).cell? _ = some _) (by intro e; simp at e; omega))
      have hx10 := (hgr.cell (a := ⟨wr.heap.size, 10, none⟩) (cell_new wr _ rfl _ _ 10 _ rfl : (wr.alloc (.cells #[.int .i64 bx.stamp.t, .int .i64 bx.stamp.r, .int .i64 bx.kind, .int .i64 bx.at_.t, .int .i64 bx.at_.r, .int .i64 bx.ino.t, .int .i64 bx.ino.r, .int .i64 bx.to.t, .int .i64 bx.to.r, .string bx.name, .string bx.new, .int .i64 bx.off, .string bx.data] 47)).cell? _ = some _) (by intro e; simp at e; omega))
      have hx11 := (hgr.cell (a := ⟨wr.heap.size, 11, none⟩) (cell_new wr _ rfl _ _ 11 _ rfl : (wr.alloc (.cells #[.int .i64 bx.stamp.t, .int .i64 bx.stamp.r, .int .i64 bx.kind, .int .i64 bx.at_.t, .int .i64 bx.at_.r, .int .i64 bx.ino.t, .int .i64 bx.ino.r, .int .i64 bx.to.t, .int .i64 bx.to.r, .string bx.name, .string bx.new, .int .i64 bx.off, .string bx.data] 47)).cell? _ = some _) (by intro e; simp at e; omega))
      have hx12 := (hgr.cell (a := ⟨wr.heap.size, 12, none⟩) (cell_new wr _ rfl _ _ 12 _ rfl : (wr.alloc (.cells #[.int .i64 bx.stamp.t, .int .i64 bx.stamp.r, .int .i64 bx.kind, .int .i64 bx.at_.t, .int .i64 bx.at_.r, .int .i64 bx.ino.t, .int .i64 bx.ino.r, .int .i64 bx.to.t, .int .i64 bx.to.r, .string bx.name, .string bx.new, .int .i64 bx.off, .string bx.data] 47)).cell? _ = some _) (by intro e; simp at e; omega))
      clear hr1 hgr
      refine wpList_nil ?_
      go_simp
      apply_assumption
      go_upto_region 13 with (fail)
      refine wp_region_lit ?_
      iterate 4 (refine wpList_plain rfl fun K hK => ?_; unfold Oper.wp; go_simp; refine hK _ _ ?_; clear hK)
      refine wpList_store_op rfl _ _ rfl w2.heap.size g c Y (bl.set X bq) bx (by have h := HR1.out; unfold OpsRow at h ⊢; rw [List.length_set] at h ⊢; exact h) (by rw [List.length_set]; exact HXY.out.2) rfl rfl ?_
      intro W2 hr2 hgr2
      have HR2 := Lib.hid hr2
      have HG2 := Lib.hid hgr2
      clear hr2 hgr2
      refine wpList_nil ?_
      go_simp
      apply_assumption
      go_wp2
      go_roundg (100 - (i + 1))
      case measure => omega
      case rel => exact ⟨i + 1, (bl.set X bq).set Y bx, by first | rfl | go_num, by omega, by omega, by rw [List.length_set, List.length_set]; exact hbl, (show Aside _ from (by have h := HR2.out; simp only [List.length_set] at h ⊢; exact h : OpsRow w2.heap.size (.slice (some ⟨g, 0, none⟩) ((bl.set X bq).set Y bx).length c) ((bl.set X bq).set Y bx) W2)), (show Aside _ from HSW.out), (show Aside _ from ((hB.out.alloc hB.out.size _).trans (grownBy_below HG1.out (by have := hB.out.size; simp only [World.size_alloc]; omega) (fun k e => by cases e; exact HGE.out))).trans (grownBy_below HG2.out (by have := hB.out.size; have := HG1.out.size; simp only [World.size_alloc] at this; omega) (fun k e => by cases e; exact HGE.out)))⟩
    · have d1 : decide (i < tu.length) = true := decide_eq_true (by omega)
      have c1 : (i : Int) < (tu.length : Int) := by omega
      have d2 : decide (i < 100) = false := decide_eq_false (by omega)
      have c2 : ¬ (i : Int) < 100 := by omega
      have HRW := Lib.hid hRW.out
      have HMB := Lib.hid hMB.out
      have HBO := Lib.hid hB.out
      obtain ⟨wo, hwo⟩ : ∃ wo, wo = wr := ⟨_, rfl⟩
      subst hwo
      clear hRW hMB hB hlt
      go_wp2
      go_loopg [7, 12] 20 (fun gg s7 s12 wr => ∃ (i : Nat) (bl : List Op), s12 = .int .i64 i ∧ i ≤ 20 ∧ 20 - i ≤ gg ∧ Aside (OpsRow w2.heap.size s7 bl wr) ∧ Aside (bl.length ≤ A.length + i) ∧ Aside (∀ x, x ∈ bl ↔ x ∈ A) ∧ Aside (Below w2.heap.size w2 wr))
      case atStart => exact ⟨0, bl, rfl, Nat.zero_le _, by omega, (show Aside _ from by rw [← hbl]; exact HRW.out), (show Aside _ from Nat.le_of_eq hbl), (show Aside _ from HMB.out), (show Aside _ from HBO.out)⟩
      case round =>
        obtain ⟨i, bl, rfl, hil, hgg, hRW, hLB, hMB, hB⟩ := hrel
        have hi0 : (0 : Int) ≤ (i : Int) := by omega
        have hwi : IntKind.i64.wrap ((i : Int) + 1) = (i : Int) + 1 := wrapNat (i + 1) (by omega)
        obtain ⟨ra, rc, rfl⟩ := hRW.out.shape
        by_cases hlt : i < 20
        · have d1 : decide (i < tu.length) = true := decide_eq_true (by omega)
          have c1 : (i : Int) < (tu.length : Int) := by omega
          have d2 : decide (i < 20) = true := decide_eq_true (by omega)
          have c2 : (i : Int) < 20 := by omega
          have hn0 : 0 < A.length := by omega
          have d3 : decide (0 < A.length) = true := decide_eq_true hn0
          have c3 : (0 : Int) < (A.length : Int) := by omega
          have hsx := HS2.out wr (HB2.out.trans (hB.out.mono HB2.out.size))
          obtain ⟨tb, tq, rfl, _, htc⟩ := slAt_at hsx (show i < tu.length by omega)
          have t0 := htc i (by omega) 0 _ rfl
          rw [Nat.add_zero, Nat.mul_one] at t0
          obtain ⟨ht0, ht1⟩ := u8_bounds (HWF.out _ (getElem!_mem (show i < tu.length by omega)))
          generalize tu[i]! = t at *
          have hwt : IntKind.i64.wrap t = t := by rw [IntKind.wrap_i64]; omega
          obtain ⟨X, hX, hXl⟩ := rem_less (j := t) ht0 hn0
          have hne : ¬ ((A.length : Int) = 0) := by omega
          have hX0 : (0 : Int) ≤ (X : Int) := by omega
          have hXc : (X : Int) < (A.length : Int) := by omega
          have hsl := (HRA.out.kept hB.out).sl
          obtain ⟨ab, ao, rfl, _, hac⟩ := slAt_at hsl hXl
          obtain ⟨x0, x1, x2, x3, x4, x5, x6, x7, x8, x9, x10, x11, x12⟩ := cellsOpF hac X hXl
          have HXM : Hid (A[X]! ∈ A) := Lib.hid (getElem!_mem hXl)
          clear hsx htc hsl hac
          generalize A[X]! = x at *
          cases ra with
          | none =>
            go_wp2_with ((at_builtin; refine wpList_append_own _ rfl _ _ 40 rfl w2.heap.size 47 i0 _ 13 128 Tryz.underlying40 hinf hz0 hz1 hz2 rfl (by decide) _ _ _ rfl (World.ownsRow.alloc hRW.out _) ⟨wr.heap.size, 0, none⟩ 1 1 x.cells rfl rfl (box_cells (by rw [World.alloc_heap_new]; rfl)) (fun u hu => Op.one x u hu) (by simp only [maxLen]; have := hLB.out; omega) (by have := hLB.out; omega) (by have := hB.out.size; simp only [World.size_alloc]; omega) ?_; intro v' w6 hown' hgrow hnil; have HO := Lib.hid hown'; have HGW := Lib.hid hgrow; have HNI := Lib.hid hnil; clear hown' hgrow hnil))
            go_roundg (20 - (i + 1))
            case measure => omega
            case rel => exact (by
              have hge := fun k (e : Value.ownBlock _ = some k) => rowGe hRW.out e
              refine ⟨i + 1, bl ++ [x], by first | rfl | go_num, by omega, by omega, (show Aside _ from ?_), (show Aside _ from (by have h := hLB.out; rw [List.length_append, List.length_singleton]; omega : (bl ++ [x]).length ≤ A.length + (i + 1))), (show Aside _ from fun y => ?_), (show Aside _ from ?_)⟩
              · show w6.ownsRow _ _ _ _ _ _
                rw [List.length_append, List.flatMap_append, List.flatMap_cons, List.flatMap_nil, List.append_nil]
                exact HO.out
              · rw [List.mem_append, List.mem_singleton]
                exact ⟨fun h => h.elim (hMB.out y).1 (fun e => e ▸ HXM.out), fun h => .inl ((hMB.out y).2 h)⟩
              · exact (hB.out.alloc hB.out.size _).trans (grownBy_below HGW.out (by have := hB.out.size; simp only [World.size_alloc]; omega) hge))
          | some ra =>
            go_wp2_with ((at_builtin; refine wpList_append_own _ rfl _ _ 40 rfl w2.heap.size 47 i0 _ 13 128 Tryz.underlying40 hinf hz0 hz1 hz2 rfl (by decide) _ _ _ rfl (World.ownsRow.alloc hRW.out _) ⟨wr.heap.size, 0, none⟩ 1 1 x.cells rfl rfl (box_cells (by rw [World.alloc_heap_new]; rfl)) (fun u hu => Op.one x u hu) (by simp only [maxLen]; have := hLB.out; omega) (by have := hLB.out; omega) (by have := hB.out.size; simp only [World.size_alloc]; omega) ?_; intro v' w6 hown' hgrow hnil; have HO := Lib.hid hown'; have HGW := Lib.hid hgrow; have HNI := Lib.hid hnil; clear hown' hgrow hnil))
            all_goals (go_roundg (20 - (i + 1)))
            case measure => omega
            case rel => exact (by
              have hge := fun k (e : Value.ownBlock _ = some k) => rowGe hRW.out e
              refine ⟨i + 1, bl ++ [x], by first | rfl | go_num, by omega, by omega, (show Aside _ from ?_), (show Aside _ from (by have h := hLB.out; rw [List.length_append, List.length_singleton]; omega : (bl ++ [x]).length ≤ A.length + (i + 1))), (show Aside _ from fun y => ?_), (show Aside _ from ?_)⟩
              · show w6.ownsRow _ _ _ _ _ _
                rw [List.length_append, List.flatMap_append, List.flatMap_cons, List.flatMap_nil, List.append_nil]
                exact HO.out
              · rw [List.mem_append, List.mem_singleton]
                exact ⟨fun h => h.elim (hMB.out y).1 (fun e => e ▸ HXM.out), fun h => .inl ((hMB.out y).2 h)⟩
              · exact (hB.out.alloc hB.out.size _).trans (grownBy_below HGW.out (by have := hB.out.size; simp only [World.size_alloc]; omega) hge))
        · have d1 : decide (i < tu.length) = true := decide_eq_true (by omega)
          have c1 : (i : Int) < (tu.length : Int) := by omega
          have d2 : decide (i < 20) = false := decide_eq_false (by omega)
          have c2 : ¬ (i : Int) < 20 := by omega
          obtain ⟨hof, hso⟩ := HFW.out bl hMB.out
          have HOFB := Lib.hid hof
          have HSOB := Lib.hid hso
          have HRB := Lib.hid hRW.out
          have HRAr := Lib.hid (HRA.out.kept hB.out)
          have HNB : Hid (∀ o ∈ bl, o.Small) := Lib.hid fun o ho => HNM.out o ((hMB.out o).1 ho)
          have HLB : Hid (bl.length ≤ 1000) := Lib.hid (by have := hLB.out; omega)
          have HLA : Hid (A.length ≤ 1000) := Lib.hid (by omega)
          have HSL1 : Hid ((sortOps A).length ≤ 1000) := Lib.hid (by have := sort_len A; omega)
          have HBW : Hid (Below w.heap.size w wr) := Lib.hid (HB2.out.trans (hB.out.mono HB2.out.size))
          have HBr0 : Hid (Below wr.heap.size wr wr) := Lib.hid (Below.refl _ _)
          have HOK : Hid ((ofOps A).Ok) := Lib.hid (ofOps_ok A)
          have HNMS : Hid (∀ x ∈ (ofOps A).e, x.name.size ≤ maxLen) := Lib.hid fun x hx => name_small13 ((ofOps_ok A).names x hx)
          clear hof hso hRW hLB hMB hB hlt
          go_wp2_with fail
          refine (of_any _ A wr HRAr.out.sl HNM.out HLA.out).mono ?_
          rintro e r1 ⟨u1, rfl, ⟨g1, mI1, mE1, rfl, hG1, _, _, _⟩, hbr1⟩
          obtain ⟨hcr1, hfr1⟩ := bcell hbr1
          have hsr1 := hbr1.size
          try simp only [World.size_alloc] at hsr1
          try simp only [size_setCell'] at hsr1
          try have ler1_0 : wr.heap.size ≤ r1.heap.size := (by omega)
          try have ltr1_0 : wr.heap.size < r1.heap.size := (by omega)
          have HBr1 : Hid (Below wr.heap.size wr r1) := Lib.hid (Below.trans (by first | exact HBr0.out | exact HBr0.out.alloc HBr0.out.size _ | exact (HBr0.out.alloc HBr0.out.size _).alloc (le_al HBr0.out.size) _ | exact ((HBr0.out.alloc HBr0.out.size _).alloc (le_al HBr0.out.size) _).alloc (le_al (le_al HBr0.out.size)) _) (hbr1.mono (by (try simp only [World.size_alloc]); (try simp only [size_setCell']); omega)))
          have HNr1 := Lib.hid hbr1
          clear hbr1 hsr1
          have HG1r := Lib.hid (hG1.reads HOK.out (by have := HOK.out.few; omega))
          have HRB1 := Lib.hid (HRB.out.kept HNr1.out)
          have HRA1 := Lib.hid (HRAr.out.kept HNr1.out)
          clear hG1
          go_wp2_with fail
          refine (of_any _ bl r1 HRB1.out.sl HNB.out HLB.out).mono ?_
          rintro e r2 ⟨u2, rfl, ⟨g2, mI2, mE2, rfl, hG2, _, _, _⟩, hbr2⟩
          obtain ⟨hcr2, hfr2⟩ := bcell hbr2
          have hsr2 := hbr2.size
          try simp only [World.size_alloc] at hsr2
          try simp only [size_setCell'] at hsr2
          try have ler2_0 : wr.heap.size ≤ r2.heap.size := (by omega)
          try have ltr2_0 : wr.heap.size < r2.heap.size := (by omega)
          try have ler2_1 : r1.heap.size ≤ r2.heap.size := (by omega)
          try have ltr2_1 : r1.heap.size < r2.heap.size := (by omega)
          have HBr2 : Hid (Below wr.heap.size wr r2) := Lib.hid (Below.trans (by first | exact HBr1.out | exact HBr1.out.alloc HBr1.out.size _ | exact (HBr1.out.alloc HBr1.out.size _).alloc (le_al HBr1.out.size) _ | exact ((HBr1.out.alloc HBr1.out.size _).alloc (le_al HBr1.out.size) _).alloc (le_al (le_al HBr1.out.size)) _) (hbr2.mono (by (try simp only [World.size_alloc]); (try simp only [size_setCell']); omega)))
          have HNr2 := Lib.hid hbr2
          clear hbr2 hsr2
          rw [HOFB.out] at hG2
          have HG2r := Lib.hid (hG2.reads HOK.out (by have := HOK.out.few; omega))
          have HG1s := Lib.hid (HG1r.out.below HNr2.out)
          have HRB2 := Lib.hid (HRB1.out.kept HNr2.out)
          have HRA2 := Lib.hid (HRA1.out.kept HNr2.out)
          clear hG2
          go_wp2_with fail
          refine (same_any g1 g2 _ r2 HOK.out HG1s.out HG2r.out).mono ?_
          rintro e r3 ⟨rfl, hbr3⟩
          obtain ⟨hcr3, hfr3⟩ := bcell hbr3
          have hsr3 := hbr3.size
          try simp only [World.size_alloc] at hsr3
          try simp only [size_setCell'] at hsr3
          try have ler3_0 : wr.heap.size ≤ r3.heap.size := (by omega)
          try have ltr3_0 : wr.heap.size < r3.heap.size := (by omega)
          try have ler3_1 : r1.heap.size ≤ r3.heap.size := (by omega)
          try have ltr3_1 : r1.heap.size < r3.heap.size := (by omega)
          try have ler3_2 : r2.heap.size ≤ r3.heap.size := (by omega)
          try have ltr3_2 : r2.heap.size < r3.heap.size := (by omega)
          have HBr3 : Hid (Below wr.heap.size wr r3) := Lib.hid (Below.trans (by first | exact HBr2.out | exact HBr2.out.alloc HBr2.out.size _ | exact (HBr2.out.alloc HBr2.out.size _).alloc (le_al HBr2.out.size) _ | exact ((HBr2.out.alloc HBr2.out.size _).alloc (le_al HBr2.out.size) _).alloc (le_al (le_al HBr2.out.size)) _) (hbr3.mono (by (try simp only [World.size_alloc]); (try simp only [size_setCell']); omega)))
          have HNr3 := Lib.hid hbr3
          clear hbr3 hsr3
          have HG1t := Lib.hid (HG1s.out.below HNr3.out)
          have HRB3 := Lib.hid (HRB2.out.kept HNr3.out)
          have HRA3 := Lib.hid (HRA2.out.kept HNr3.out)
          go_wp2_with fail
          refine (HG1t.out.inodes _ (Below.refl _ _)).mono ?_
          rintro e r4 ⟨ia, ic, rfl, hs4, hbr4⟩
          obtain ⟨hcr4, hfr4⟩ := bcell hbr4
          have hsr4 := hbr4.size
          try simp only [World.size_alloc] at hsr4
          try simp only [size_setCell'] at hsr4
          try have ler4_0 : wr.heap.size ≤ r4.heap.size := (by omega)
          try have ltr4_0 : wr.heap.size < r4.heap.size := (by omega)
          try have ler4_1 : r1.heap.size ≤ r4.heap.size := (by omega)
          try have ltr4_1 : r1.heap.size < r4.heap.size := (by omega)
          try have ler4_2 : r2.heap.size ≤ r4.heap.size := (by omega)
          try have ltr4_2 : r2.heap.size < r4.heap.size := (by omega)
          try have ler4_3 : r3.heap.size ≤ r4.heap.size := (by omega)
          try have ltr4_3 : r3.heap.size < r4.heap.size := (by omega)
          have HBr4 : Hid (Below wr.heap.size wr r4) := Lib.hid (Below.trans (by first | exact HBr3.out | exact HBr3.out.alloc HBr3.out.size _ | exact (HBr3.out.alloc HBr3.out.size _).alloc (le_al HBr3.out.size) _ | exact ((HBr3.out.alloc HBr3.out.size _).alloc (le_al HBr3.out.size) _).alloc (le_al (le_al HBr3.out.size)) _) (hbr4.mono (by (try simp only [World.size_alloc]); (try simp only [size_setCell']); omega)))
          have HNr4 := Lib.hid hbr4
          clear hbr4 hsr4
          have HI4 := Lib.hid hs4
          clear hs4
          go_wp2_with fail
          refine (HG1t.out.entries _ HNr4.out).mono ?_
          rintro e r5 ⟨ea, ec, rfl, hs5, hbr5⟩
          obtain ⟨hcr5, hfr5⟩ := bcell hbr5
          have hsr5 := hbr5.size
          try simp only [World.size_alloc] at hsr5
          try simp only [size_setCell'] at hsr5
          try have ler5_0 : wr.heap.size ≤ r5.heap.size := (by omega)
          try have ltr5_0 : wr.heap.size < r5.heap.size := (by omega)
          try have ler5_1 : r1.heap.size ≤ r5.heap.size := (by omega)
          try have ltr5_1 : r1.heap.size < r5.heap.size := (by omega)
          try have ler5_2 : r2.heap.size ≤ r5.heap.size := (by omega)
          try have ltr5_2 : r2.heap.size < r5.heap.size := (by omega)
          try have ler5_3 : r3.heap.size ≤ r5.heap.size := (by omega)
          try have ltr5_3 : r3.heap.size < r5.heap.size := (by omega)
          try have ler5_4 : r4.heap.size ≤ r5.heap.size := (by omega)
          try have ltr5_4 : r4.heap.size < r5.heap.size := (by omega)
          have HBr5 : Hid (Below wr.heap.size wr r5) := Lib.hid (Below.trans (by first | exact HBr4.out | exact HBr4.out.alloc HBr4.out.size _ | exact (HBr4.out.alloc HBr4.out.size _).alloc (le_al HBr4.out.size) _ | exact ((HBr4.out.alloc HBr4.out.size _).alloc (le_al HBr4.out.size) _).alloc (le_al (le_al HBr4.out.size)) _) (hbr5.mono (by (try simp only [World.size_alloc]); (try simp only [size_setCell']); omega)))
          have HNr5 := Lib.hid hbr5
          clear hbr5 hsr5
          have HFI5 := Lib.hid (fine_any _ _ (ofOps A).n (ofOps A).e r5 (HI4.out.below HNr5.out) hs5 (by have := HOK.out.len; omega) (by have := HOK.out.few; omega) HNMS.out)
          rw [HFI.out] at HFI5
          clear hs5
          go_wp2_with fail
          refine (HFI5.out).mono ?_
          rintro e r6 ⟨rfl, hbr6⟩
          obtain ⟨hcr6, hfr6⟩ := bcell hbr6
          have hsr6 := hbr6.size
          try simp only [World.size_alloc] at hsr6
          try simp only [size_setCell'] at hsr6
          try have ler6_0 : wr.heap.size ≤ r6.heap.size := (by omega)
          try have ltr6_0 : wr.heap.size < r6.heap.size := (by omega)
          try have ler6_1 : r1.heap.size ≤ r6.heap.size := (by omega)
          try have ltr6_1 : r1.heap.size < r6.heap.size := (by omega)
          try have ler6_2 : r2.heap.size ≤ r6.heap.size := (by omega)
          try have ltr6_2 : r2.heap.size < r6.heap.size := (by omega)
          try have ler6_3 : r3.heap.size ≤ r6.heap.size := (by omega)
          try have ltr6_3 : r3.heap.size < r6.heap.size := (by omega)
          try have ler6_4 : r4.heap.size ≤ r6.heap.size := (by omega)
          try have ltr6_4 : r4.heap.size < r6.heap.size := (by omega)
          try have ler6_5 : r5.heap.size ≤ r6.heap.size := (by omega)
          try have ltr6_5 : r5.heap.size < r6.heap.size := (by omega)
          have HBr6 : Hid (Below wr.heap.size wr r6) := Lib.hid (Below.trans (by first | exact HBr5.out | exact HBr5.out.alloc HBr5.out.size _ | exact (HBr5.out.alloc HBr5.out.size _).alloc (le_al HBr5.out.size) _ | exact ((HBr5.out.alloc HBr5.out.size _).alloc (le_al HBr5.out.size) _).alloc (le_al (le_al HBr5.out.size)) _) (hbr6.mono (by (try simp only [World.size_alloc]); (try simp only [size_setCell']); omega)))
          have HNr6 := Lib.hid hbr6
          clear hbr6 hsr6
          have HRA6 := Lib.hid (((HRA3.out.kept HNr4.out).kept HNr5.out).kept HNr6.out)
          have HRB6 := Lib.hid (((HRB3.out.kept HNr4.out).kept HNr5.out).kept HNr6.out)
          go_wp2_with fail
          refine (sort_any _ A r6 HRA6.out.sl HNM.out HLA.out).mono ?_
          rintro e r7 ⟨u7, rfl, hr7, hbr7⟩
          obtain ⟨hcr7, hfr7⟩ := bcell hbr7
          have hsr7 := hbr7.size
          try simp only [World.size_alloc] at hsr7
          try simp only [size_setCell'] at hsr7
          try have ler7_0 : wr.heap.size ≤ r7.heap.size := (by omega)
          try have ltr7_0 : wr.heap.size < r7.heap.size := (by omega)
          try have ler7_1 : r1.heap.size ≤ r7.heap.size := (by omega)
          try have ltr7_1 : r1.heap.size < r7.heap.size := (by omega)
          try have ler7_2 : r2.heap.size ≤ r7.heap.size := (by omega)
          try have ltr7_2 : r2.heap.size < r7.heap.size := (by omega)
          try have ler7_3 : r3.heap.size ≤ r7.heap.size := (by omega)
          try have ltr7_3 : r3.heap.size < r7.heap.size := (by omega)
          try have ler7_4 : r4.heap.size ≤ r7.heap.size := (by omega)
          try have ltr7_4 : r4.heap.size < r7.heap.size := (by omega)
          try have ler7_5 : r5.heap.size ≤ r7.heap.size := (by omega)
          try have ltr7_5 : r5.heap.size < r7.heap.size := (by omega)
          try have ler7_6 : r6.heap.size ≤ r7.heap.size := (by omega)
          try have ltr7_6 : r6.heap.size < r7.heap.size := (by omega)
          have HBr7 : Hid (Below wr.heap.size wr r7) := Lib.hid (Below.trans (by first | exact HBr6.out | exact HBr6.out.alloc HBr6.out.size _ | exact (HBr6.out.alloc HBr6.out.size _).alloc (le_al HBr6.out.size) _ | exact ((HBr6.out.alloc HBr6.out.size _).alloc (le_al HBr6.out.size) _).alloc (le_al (le_al HBr6.out.size)) _) (hbr7.mono (by (try simp only [World.size_alloc]); (try simp only [size_setCell']); omega)))
          have HNr7 := Lib.hid hbr7
          clear hbr7 hsr7
          have HS7 := Lib.hid hr7
          obtain ⟨s7, z7, rfl⟩ := hr7.shape
          have HRB7 := Lib.hid (HRB6.out.kept HNr7.out)
          clear hr7
          go_wp2_with fail
          refine (sort_any _ bl r7 HRB7.out.sl HNB.out HLB.out).mono ?_
          rintro e r8 ⟨u8, rfl, hr8, hbr8⟩
          obtain ⟨hcr8, hfr8⟩ := bcell hbr8
          have hsr8 := hbr8.size
          try simp only [World.size_alloc] at hsr8
          try simp only [size_setCell'] at hsr8
          try have ler8_0 : wr.heap.size ≤ r8.heap.size := (by omega)
          try have ltr8_0 : wr.heap.size < r8.heap.size := (by omega)
          try have ler8_1 : r1.heap.size ≤ r8.heap.size := (by omega)
          try have ltr8_1 : r1.heap.size < r8.heap.size := (by omega)
          try have ler8_2 : r2.heap.size ≤ r8.heap.size := (by omega)
          try have ltr8_2 : r2.heap.size < r8.heap.size := (by omega)
          try have ler8_3 : r3.heap.size ≤ r8.heap.size := (by omega)
          try have ltr8_3 : r3.heap.size < r8.heap.size := (by omega)
          try have ler8_4 : r4.heap.size ≤ r8.heap.size := (by omega)
          try have ltr8_4 : r4.heap.size < r8.heap.size := (by omega)
          try have ler8_5 : r5.heap.size ≤ r8.heap.size := (by omega)
          try have ltr8_5 : r5.heap.size < r8.heap.size := (by omega)
          try have ler8_6 : r6.heap.size ≤ r8.heap.size := (by omega)
          try have ltr8_6 : r6.heap.size < r8.heap.size := (by omega)
          try have ler8_7 : r7.heap.size ≤ r8.heap.size := (by omega)
          try have ltr8_7 : r7.heap.size < r8.heap.size := (by omega)
          have HBr8 : Hid (Below wr.heap.size wr r8) := Lib.hid (Below.trans (by first | exact HBr7.out | exact HBr7.out.alloc HBr7.out.size _ | exact (HBr7.out.alloc HBr7.out.size _).alloc (le_al HBr7.out.size) _ | exact ((HBr7.out.alloc HBr7.out.size _).alloc (le_al HBr7.out.size) _).alloc (le_al (le_al HBr7.out.size)) _) (hbr8.mono (by (try simp only [World.size_alloc]); (try simp only [size_setCell']); omega)))
          have HNr8 := Lib.hid hbr8
          clear hbr8 hsr8
          rw [HSOB.out] at hr8
          have HS8 := Lib.hid hr8
          obtain ⟨s8, z8, rfl⟩ := hr8.shape
          have HS7a := Lib.hid (HS7.out.kept HNr8.out)
          clear hr8
          go_wp2_with fail
          refine (ops_same _ _ (sortOps A) r8 HS7a.out.sl HS8.out.sl HSL1.out).mono ?_
          rintro e r9 ⟨rfl, hbr9⟩
          obtain ⟨hcr9, hfr9⟩ := bcell hbr9
          have hsr9 := hbr9.size
          try simp only [World.size_alloc] at hsr9
          try simp only [size_setCell'] at hsr9
          try have ler9_0 : wr.heap.size ≤ r9.heap.size := (by omega)
          try have ltr9_0 : wr.heap.size < r9.heap.size := (by omega)
          try have ler9_1 : r1.heap.size ≤ r9.heap.size := (by omega)
          try have ltr9_1 : r1.heap.size < r9.heap.size := (by omega)
          try have ler9_2 : r2.heap.size ≤ r9.heap.size := (by omega)
          try have ltr9_2 : r2.heap.size < r9.heap.size := (by omega)
          try have ler9_3 : r3.heap.size ≤ r9.heap.size := (by omega)
          try have ltr9_3 : r3.heap.size < r9.heap.size := (by omega)
          try have ler9_4 : r4.heap.size ≤ r9.heap.size := (by omega)
          try have ltr9_4 : r4.heap.size < r9.heap.size := (by omega)
          try have ler9_5 : r5.heap.size ≤ r9.heap.size := (by omega)
          try have ltr9_5 : r5.heap.size < r9.heap.size := (by omega)
          try have ler9_6 : r6.heap.size ≤ r9.heap.size := (by omega)
          try have ltr9_6 : r6.heap.size < r9.heap.size := (by omega)
          try have ler9_7 : r7.heap.size ≤ r9.heap.size := (by omega)
          try have ltr9_7 : r7.heap.size < r9.heap.size := (by omega)
          try have ler9_8 : r8.heap.size ≤ r9.heap.size := (by omega)
          try have ltr9_8 : r8.heap.size < r9.heap.size := (by omega)
          have HBr9 : Hid (Below wr.heap.size wr r9) := Lib.hid (Below.trans (by first | exact HBr8.out | exact HBr8.out.alloc HBr8.out.size _ | exact (HBr8.out.alloc HBr8.out.size _).alloc (le_al HBr8.out.size) _ | exact ((HBr8.out.alloc HBr8.out.size _).alloc (le_al HBr8.out.size) _).alloc (le_al (le_al HBr8.out.size)) _) (hbr9.mono (by (try simp only [World.size_alloc]); (try simp only [size_setCell']); omega)))
          have HNr9 := Lib.hid hbr9
          clear hbr9 hsr9
          go_wp2
          go_ret
          exact ⟨rfl, HBW.out.trans (HBr9.out.mono HBW.out.size)⟩

set_option maxRecDepth 100000 in
set_option maxHeartbeats 8000000 in
theorem conv_n0 (v1 : Value) (l : List Op) (v2 : Value) (tu : List Int) (w : World) (hs1 : SlAt w 13 Op.cells v1 l) (hn1 : ∀ o ∈ l, o.Small) (hs2 : SlAt w 1 U8.cells v2 tu) (hn2 : ∀ z ∈ tu, (Lit.int .u8 z).wf = true) (hl60 : decide (l.length ≤ 60) = true) (hT : 0 < tu.length) (hN : (distinctOf l).length = 0) :
    Calls Tryz.prog 13 #[v1, v2] w fun y w' => y = .returned (.bool true) ∧ Below w.heap.size w w' := by
  have HN0 := Lib.hid hN
  clear hN
  have HF1 := Lib.hid (fun W (hW : Below w.heap.size w W) => few_any v1 l W (hs1.below hW))
  have HDI := Lib.hid (fun (hl : l.length ≤ 1000) W (hW : Below w.heap.size w W) => distinct_any v1 l W (hs1.below hW) hl)
  have HS2 : Hid (∀ W, Below w.heap.size w W → SlAt W 1 U8.cells v2 tu) := Lib.hid fun W hW => hs2.below hW
  have HWF := Lib.hid hn2
  have HNM : Hid (∀ o ∈ distinctOf l, o.Small) := Lib.hid fun o ho => hn1 o ((dist_sub l []).subset ho)
  have HB0 : Hid (Below w.heap.size w w) := Lib.hid (Below.refl _ _)
  have HFW : Hid (∀ bl : List Op, (∀ x, x ∈ bl ↔ x ∈ distinctOf l) → ofOps bl = ofOps (distinctOf l) ∧ sortOps bl = sortOps (distinctOf l)) := Lib.hid fun bl hb => by
    have e := same_sort (distinct_one l) hb
    exact ⟨by unfold ofOps; rw [e], e⟩
  have HFI : Hid (fineB (ofOps (distinctOf l)).n (ofOps (distinctOf l)).e = true) := Lib.hid (ran_fine _).fine
  have HL6 : Hid (l.length ≤ 60) := Lib.hid (of_decide_eq_true hl60)
  have hdl : (distinctOf l).length ≤ 60 := Nat.le_trans (dist_len l []) HL6.out
  obtain ⟨i0, hinf, hz0, hz1, hz2⟩ := info_parts infoOp
  obtain ⟨a1, c1_, rfl⟩ := hs1.len
  obtain ⟨a2, c2_, rfl⟩ := hs2.len
  rw [hl60] at HF1
  clear hs1 hs2 hn1 hn2 hl60
  have HDI := Lib.hid (HDI.out (by have := HL6.out; omega))
  generalize distinctOf l = A at *
  go_enter Tryz.func13, Tryz.ntmps13
  go_wp2_with fail
  refine (shown_any _).mono ?_
  rintro e w1 ⟨rfl, hb1⟩
  obtain ⟨hc1, hf1⟩ := bcell hb1
  have hs1 := hb1.size
  try simp only [World.size_alloc] at hs1
  try simp only [size_setCell'] at hs1
  try have le1_0 : w.heap.size ≤ w1.heap.size := (by omega)
  try have lt1_0 : w.heap.size < w1.heap.size := (by omega)
  have HB1 : Hid (Below w.heap.size w w1) := Lib.hid (Below.trans (by first | exact HB0.out | exact HB0.out.alloc HB0.out.size _ | exact (HB0.out.alloc HB0.out.size _).alloc (le_al HB0.out.size) _ | exact ((HB0.out.alloc HB0.out.size _).alloc (le_al HB0.out.size) _).alloc (le_al (le_al HB0.out.size)) _) (hb1.mono (by (try simp only [World.size_alloc]); (try simp only [size_setCell']); omega)))
  have HN1 := Lib.hid hb1
  clear hb1 hs1
  go_wp2_with (go_at_call 35; refine (HF1.out _ HB1.out).mono ?_; rintro y w' ⟨rfl, rfl⟩)
  go_wp2_with fail
  refine (HDI.out _ (by first | exact HB1.out | exact HB1.out.alloc HB1.out.size _ | exact (HB1.out.alloc HB1.out.size _).alloc (le_al HB1.out.size) _ | exact ((HB1.out.alloc HB1.out.size _).alloc (le_al HB1.out.size) _).alloc (le_al (le_al HB1.out.size)) _)).mono ?_
  rintro e w2 ⟨va, rfl, hra, hb2⟩
  obtain ⟨hc2, hf2⟩ := bcell hb2
  have hs2 := hb2.size
  try simp only [World.size_alloc] at hs2
  try simp only [size_setCell'] at hs2
  try have le2_0 : w.heap.size ≤ w2.heap.size := (by omega)
  try have lt2_0 : w.heap.size < w2.heap.size := (by omega)
  try have le2_1 : w1.heap.size ≤ w2.heap.size := (by omega)
  try have lt2_1 : w1.heap.size < w2.heap.size := (by omega)
  have HB2 : Hid (Below w.heap.size w w2) := Lib.hid (Below.trans (by first | exact HB1.out | exact HB1.out.alloc HB1.out.size _ | exact (HB1.out.alloc HB1.out.size _).alloc (le_al HB1.out.size) _ | exact ((HB1.out.alloc HB1.out.size _).alloc (le_al HB1.out.size) _).alloc (le_al (le_al HB1.out.size)) _) (hb2.mono (by (try simp only [World.size_alloc]); (try simp only [size_setCell']); omega)))
  have HN2 := Lib.hid hb2
  clear hb2 hs2
  have HRA := Lib.hid hra
  obtain ⟨pa, ca, rfl⟩ := hra.shape
  clear hra
  go_wp2_with (at_builtin; refine wpList_append_opsr rfl _ _ rfl w2.heap.size ⟨w2.heap.size, 0, none⟩ rfl (World.ownsRow_made w2 #[] 0 (Nat.le_refl _) (by decide) rfl) _ _ A rfl (HRA.out.kept ((Below.refl _ w2).alloc (Nat.le_refl _) _)) (by omega) (by simp) ?_; intro v7 w3 hr7 hg7 hn7; have HR7 := Lib.hid hr7; have HB73 : Hid (Below w2.heap.size w2 w3) := Lib.hid (((Below.refl _ w2).alloc (Nat.le_refl _) _).trans (grownBy_below hg7 (by simp) (fun k e => by simp at e; omega))); have hsh : ∃ g c, v7 = .slice (some ⟨g, 0, none⟩) A.length c := (by rcases hr7.two with ⟨e, _⟩ | ⟨g, c, e, _⟩; exact absurd e hn7; exact ⟨g, c, e⟩); obtain ⟨g, c, rfl⟩ := hsh; clear hr7 hg7 hn7)
  have HGE : Hid (w2.heap.size ≤ g) := Lib.hid (rowGe HR7.out rfl)
  go_wp2
  go_loopg [8] 0 (fun gg s8 wr => ∃ (i : Nat) (bl : List Op), s8 = .int .i64 i ∧ i ≤ 0 ∧ 0 - i ≤ gg ∧ bl.length = A.length ∧ Aside (OpsRow w2.heap.size (.slice (some ⟨g, 0, none⟩) bl.length c) bl wr) ∧ Aside (∀ x, x ∈ bl ↔ x ∈ A) ∧ Aside (Below w2.heap.size w2 wr))
  case atStart => exact ⟨0, A, rfl, Nat.zero_le _, by omega, rfl, (show Aside _ from HR7.out), (show Aside _ from fun _ => Iff.rfl), (show Aside _ from HB73.out)⟩
  case round =>
    obtain ⟨i, bl, rfl, hil, hgg, hbl, hRW, hMB, hB⟩ := hrel
    have hi0 : (0 : Int) ≤ (i : Int) := by omega
    have hwi : IntKind.i64.wrap ((i : Int) + 1) = (i : Int) + 1 := wrapNat (i + 1) (by omega)
    by_cases hlt : i < 0
    · exact absurd hlt (Nat.not_lt_zero _)
    · have d1 : decide (i < tu.length) = true := decide_eq_true (by omega)
      have c1 : (i : Int) < (tu.length : Int) := by omega
      have d2 : decide (i < 100) = true := decide_eq_true (by omega)
      have c2 : (i : Int) < 100 := by omega
      have d3 : decide (0 < A.length) = false := decide_eq_false (by have := HN0.out; omega)
      have c3 : ¬ (0 : Int) < (A.length : Int) := by have := HN0.out; omega
      have HRW := Lib.hid hRW.out
      have HMB := Lib.hid hMB.out
      have HBO := Lib.hid hB.out
      obtain ⟨wo, hwo⟩ : ∃ wo, wo = wr := ⟨_, rfl⟩
      subst hwo
      clear hRW hMB hB hlt
      go_wp2
      go_loopg [7, 12] 0 (fun gg s7 s12 wr => ∃ (i : Nat) (bl : List Op), s12 = .int .i64 i ∧ i ≤ 0 ∧ 0 - i ≤ gg ∧ Aside (OpsRow w2.heap.size s7 bl wr) ∧ Aside (bl.length ≤ A.length + i) ∧ Aside (∀ x, x ∈ bl ↔ x ∈ A) ∧ Aside (Below w2.heap.size w2 wr))
      case atStart => exact ⟨0, bl, rfl, Nat.zero_le _, by omega, (show Aside _ from by rw [← hbl]; exact HRW.out), (show Aside _ from Nat.le_of_eq hbl), (show Aside _ from HMB.out), (show Aside _ from HBO.out)⟩
      case round =>
        obtain ⟨i, bl, rfl, hil, hgg, hRW, hLB, hMB, hB⟩ := hrel
        have hi0 : (0 : Int) ≤ (i : Int) := by omega
        have hwi : IntKind.i64.wrap ((i : Int) + 1) = (i : Int) + 1 := wrapNat (i + 1) (by omega)
        obtain ⟨ra, rc, rfl⟩ := hRW.out.shape
        by_cases hlt : i < 0
        · exact absurd hlt (Nat.not_lt_zero _)
        · have d1 : decide (i < tu.length) = true := decide_eq_true (by omega)
          have c1 : (i : Int) < (tu.length : Int) := by omega
          have d2 : decide (i < 20) = true := decide_eq_true (by omega)
          have c2 : (i : Int) < 20 := by omega
          have d3 : decide (0 < A.length) = false := decide_eq_false (by have := HN0.out; omega)
          have c3 : ¬ (0 : Int) < (A.length : Int) := by have := HN0.out; omega
          obtain ⟨hof, hso⟩ := HFW.out bl hMB.out
          have HOFB := Lib.hid hof
          have HSOB := Lib.hid hso
          have HRB := Lib.hid hRW.out
          have HRAr := Lib.hid (HRA.out.kept hB.out)
          have HNB : Hid (∀ o ∈ bl, o.Small) := Lib.hid fun o ho => HNM.out o ((hMB.out o).1 ho)
          have HLB : Hid (bl.length ≤ 1000) := Lib.hid (by have := hLB.out; omega)
          have HLA : Hid (A.length ≤ 1000) := Lib.hid (by omega)
          have HSL1 : Hid ((sortOps A).length ≤ 1000) := Lib.hid (by have := sort_len A; omega)
          have HBW : Hid (Below w.heap.size w wr) := Lib.hid (HB2.out.trans (hB.out.mono HB2.out.size))
          have HBr0 : Hid (Below wr.heap.size wr wr) := Lib.hid (Below.refl _ _)
          have HOK : Hid ((ofOps A).Ok) := Lib.hid (ofOps_ok A)
          have HNMS : Hid (∀ x ∈ (ofOps A).e, x.name.size ≤ maxLen) := Lib.hid fun x hx => name_small13 ((ofOps_ok A).names x hx)
          clear hof hso hRW hLB hMB hB hlt
          go_wp2_with fail
          refine (of_any _ A wr HRAr.out.sl HNM.out HLA.out).mono ?_
          rintro e r1 ⟨u1, rfl, ⟨g1, mI1, mE1, rfl, hG1, _, _, _⟩, hbr1⟩
          obtain ⟨hcr1, hfr1⟩ := bcell hbr1
          have hsr1 := hbr1.size
          try simp only [World.size_alloc] at hsr1
          try simp only [size_setCell'] at hsr1
          try have ler1_0 : wr.heap.size ≤ r1.heap.size := (by omega)
          try have ltr1_0 : wr.heap.size < r1.heap.size := (by omega)
          have HBr1 : Hid (Below wr.heap.size wr r1) := Lib.hid (Below.trans (by first | exact HBr0.out | exact HBr0.out.alloc HBr0.out.size _ | exact (HBr0.out.alloc HBr0.out.size _).alloc (le_al HBr0.out.size) _ | exact ((HBr0.out.alloc HBr0.out.size _).alloc (le_al HBr0.out.size) _).alloc (le_al (le_al HBr0.out.size)) _) (hbr1.mono (by (try simp only [World.size_alloc]); (try simp only [size_setCell']); omega)))
          have HNr1 := Lib.hid hbr1
          clear hbr1 hsr1
          have HG1r := Lib.hid (hG1.reads HOK.out (by have := HOK.out.few; omega))
          have HRB1 := Lib.hid (HRB.out.kept HNr1.out)
          have HRA1 := Lib.hid (HRAr.out.kept HNr1.out)
          clear hG1
          go_wp2_with fail
          refine (of_any _ bl r1 HRB1.out.sl HNB.out HLB.out).mono ?_
          rintro e r2 ⟨u2, rfl, ⟨g2, mI2, mE2, rfl, hG2, _, _, _⟩, hbr2⟩
          obtain ⟨hcr2, hfr2⟩ := bcell hbr2
          have hsr2 := hbr2.size
          try simp only [World.size_alloc] at hsr2
          try simp only [size_setCell'] at hsr2
          try have ler2_0 : wr.heap.size ≤ r2.heap.size := (by omega)
          try have ltr2_0 : wr.heap.size < r2.heap.size := (by omega)
          try have ler2_1 : r1.heap.size ≤ r2.heap.size := (by omega)
          try have ltr2_1 : r1.heap.size < r2.heap.size := (by omega)
          have HBr2 : Hid (Below wr.heap.size wr r2) := Lib.hid (Below.trans (by first | exact HBr1.out | exact HBr1.out.alloc HBr1.out.size _ | exact (HBr1.out.alloc HBr1.out.size _).alloc (le_al HBr1.out.size) _ | exact ((HBr1.out.alloc HBr1.out.size _).alloc (le_al HBr1.out.size) _).alloc (le_al (le_al HBr1.out.size)) _) (hbr2.mono (by (try simp only [World.size_alloc]); (try simp only [size_setCell']); omega)))
          have HNr2 := Lib.hid hbr2
          clear hbr2 hsr2
          rw [HOFB.out] at hG2
          have HG2r := Lib.hid (hG2.reads HOK.out (by have := HOK.out.few; omega))
          have HG1s := Lib.hid (HG1r.out.below HNr2.out)
          have HRB2 := Lib.hid (HRB1.out.kept HNr2.out)
          have HRA2 := Lib.hid (HRA1.out.kept HNr2.out)
          clear hG2
          go_wp2_with fail
          refine (same_any g1 g2 _ r2 HOK.out HG1s.out HG2r.out).mono ?_
          rintro e r3 ⟨rfl, hbr3⟩
          obtain ⟨hcr3, hfr3⟩ := bcell hbr3
          have hsr3 := hbr3.size
          try simp only [World.size_alloc] at hsr3
          try simp only [size_setCell'] at hsr3
          try have ler3_0 : wr.heap.size ≤ r3.heap.size := (by omega)
          try have ltr3_0 : wr.heap.size < r3.heap.size := (by omega)
          try have ler3_1 : r1.heap.size ≤ r3.heap.size := (by omega)
          try have ltr3_1 : r1.heap.size < r3.heap.size := (by omega)
          try have ler3_2 : r2.heap.size ≤ r3.heap.size := (by omega)
          try have ltr3_2 : r2.heap.size < r3.heap.size := (by omega)
          have HBr3 : Hid (Below wr.heap.size wr r3) := Lib.hid (Below.trans (by first | exact HBr2.out | exact HBr2.out.alloc HBr2.out.size _ | exact (HBr2.out.alloc HBr2.out.size _).alloc (le_al HBr2.out.size) _ | exact ((HBr2.out.alloc HBr2.out.size _).alloc (le_al HBr2.out.size) _).alloc (le_al (le_al HBr2.out.size)) _) (hbr3.mono (by (try simp only [World.size_alloc]); (try simp only [size_setCell']); omega)))
          have HNr3 := Lib.hid hbr3
          clear hbr3 hsr3
          have HG1t := Lib.hid (HG1s.out.below HNr3.out)
          have HRB3 := Lib.hid (HRB2.out.kept HNr3.out)
          have HRA3 := Lib.hid (HRA2.out.kept HNr3.out)
          go_wp2_with fail
          refine (HG1t.out.inodes _ (Below.refl _ _)).mono ?_
          rintro e r4 ⟨ia, ic, rfl, hs4, hbr4⟩
          obtain ⟨hcr4, hfr4⟩ := bcell hbr4
          have hsr4 := hbr4.size
          try simp only [World.size_alloc] at hsr4
          try simp only [size_setCell'] at hsr4
          try have ler4_0 : wr.heap.size ≤ r4.heap.size := (by omega)
          try have ltr4_0 : wr.heap.size < r4.heap.size := (by omega)
          try have ler4_1 : r1.heap.size ≤ r4.heap.size := (by omega)
          try have ltr4_1 : r1.heap.size < r4.heap.size := (by omega)
          try have ler4_2 : r2.heap.size ≤ r4.heap.size := (by omega)
          try have ltr4_2 : r2.heap.size < r4.heap.size := (by omega)
          try have ler4_3 : r3.heap.size ≤ r4.heap.size := (by omega)
          try have ltr4_3 : r3.heap.size < r4.heap.size := (by omega)
          have HBr4 : Hid (Below wr.heap.size wr r4) := Lib.hid (Below.trans (by first | exact HBr3.out | exact HBr3.out.alloc HBr3.out.size _ | exact (HBr3.out.alloc HBr3.out.size _).alloc (le_al HBr3.out.size) _ | exact ((HBr3.out.alloc HBr3.out.size _).alloc (le_al HBr3.out.size) _).alloc (le_al (le_al HBr3.out.size)) _) (hbr4.mono (by (try simp only [World.size_alloc]); (try simp only [size_setCell']); omega)))
          have HNr4 := Lib.hid hbr4
          clear hbr4 hsr4
          have HI4 := Lib.hid hs4
          clear hs4
          go_wp2_with fail
          refine (HG1t.out.entries _ HNr4.out).mono ?_
          rintro e r5 ⟨ea, ec, rfl, hs5, hbr5⟩
          obtain ⟨hcr5, hfr5⟩ := bcell hbr5
          have hsr5 := hbr5.size
          try simp only [World.size_alloc] at hsr5
          try simp only [size_setCell'] at hsr5
          try have ler5_0 : wr.heap.size ≤ r5.heap.size := (by omega)
          try have ltr5_0 : wr.heap.size < r5.heap.size := (by omega)
          try have ler5_1 : r1.heap.size ≤ r5.heap.size := (by omega)
          try have ltr5_1 : r1.heap.size < r5.heap.size := (by omega)
          try have ler5_2 : r2.heap.size ≤ r5.heap.size := (by omega)
          try have ltr5_2 : r2.heap.size < r5.heap.size := (by omega)
          try have ler5_3 : r3.heap.size ≤ r5.heap.size := (by omega)
          try have ltr5_3 : r3.heap.size < r5.heap.size := (by omega)
          try have ler5_4 : r4.heap.size ≤ r5.heap.size := (by omega)
          try have ltr5_4 : r4.heap.size < r5.heap.size := (by omega)
          have HBr5 : Hid (Below wr.heap.size wr r5) := Lib.hid (Below.trans (by first | exact HBr4.out | exact HBr4.out.alloc HBr4.out.size _ | exact (HBr4.out.alloc HBr4.out.size _).alloc (le_al HBr4.out.size) _ | exact ((HBr4.out.alloc HBr4.out.size _).alloc (le_al HBr4.out.size) _).alloc (le_al (le_al HBr4.out.size)) _) (hbr5.mono (by (try simp only [World.size_alloc]); (try simp only [size_setCell']); omega)))
          have HNr5 := Lib.hid hbr5
          clear hbr5 hsr5
          have HFI5 := Lib.hid (fine_any _ _ (ofOps A).n (ofOps A).e r5 (HI4.out.below HNr5.out) hs5 (by have := HOK.out.len; omega) (by have := HOK.out.few; omega) HNMS.out)
          rw [HFI.out] at HFI5
          clear hs5
          go_wp2_with fail
          refine (HFI5.out).mono ?_
          rintro e r6 ⟨rfl, hbr6⟩
          obtain ⟨hcr6, hfr6⟩ := bcell hbr6
          have hsr6 := hbr6.size
          try simp only [World.size_alloc] at hsr6
          try simp only [size_setCell'] at hsr6
          try have ler6_0 : wr.heap.size ≤ r6.heap.size := (by omega)
          try have ltr6_0 : wr.heap.size < r6.heap.size := (by omega)
          try have ler6_1 : r1.heap.size ≤ r6.heap.size := (by omega)
          try have ltr6_1 : r1.heap.size < r6.heap.size := (by omega)
          try have ler6_2 : r2.heap.size ≤ r6.heap.size := (by omega)
          try have ltr6_2 : r2.heap.size < r6.heap.size := (by omega)
          try have ler6_3 : r3.heap.size ≤ r6.heap.size := (by omega)
          try have ltr6_3 : r3.heap.size < r6.heap.size := (by omega)
          try have ler6_4 : r4.heap.size ≤ r6.heap.size := (by omega)
          try have ltr6_4 : r4.heap.size < r6.heap.size := (by omega)
          try have ler6_5 : r5.heap.size ≤ r6.heap.size := (by omega)
          try have ltr6_5 : r5.heap.size < r6.heap.size := (by omega)
          have HBr6 : Hid (Below wr.heap.size wr r6) := Lib.hid (Below.trans (by first | exact HBr5.out | exact HBr5.out.alloc HBr5.out.size _ | exact (HBr5.out.alloc HBr5.out.size _).alloc (le_al HBr5.out.size) _ | exact ((HBr5.out.alloc HBr5.out.size _).alloc (le_al HBr5.out.size) _).alloc (le_al (le_al HBr5.out.size)) _) (hbr6.mono (by (try simp only [World.size_alloc]); (try simp only [size_setCell']); omega)))
          have HNr6 := Lib.hid hbr6
          clear hbr6 hsr6
          have HRA6 := Lib.hid (((HRA3.out.kept HNr4.out).kept HNr5.out).kept HNr6.out)
          have HRB6 := Lib.hid (((HRB3.out.kept HNr4.out).kept HNr5.out).kept HNr6.out)
          go_wp2_with fail
          refine (sort_any _ A r6 HRA6.out.sl HNM.out HLA.out).mono ?_
          rintro e r7 ⟨u7, rfl, hr7, hbr7⟩
          obtain ⟨hcr7, hfr7⟩ := bcell hbr7
          have hsr7 := hbr7.size
          try simp only [World.size_alloc] at hsr7
          try simp only [size_setCell'] at hsr7
          try have ler7_0 : wr.heap.size ≤ r7.heap.size := (by omega)
          try have ltr7_0 : wr.heap.size < r7.heap.size := (by omega)
          try have ler7_1 : r1.heap.size ≤ r7.heap.size := (by omega)
          try have ltr7_1 : r1.heap.size < r7.heap.size := (by omega)
          try have ler7_2 : r2.heap.size ≤ r7.heap.size := (by omega)
          try have ltr7_2 : r2.heap.size < r7.heap.size := (by omega)
          try have ler7_3 : r3.heap.size ≤ r7.heap.size := (by omega)
          try have ltr7_3 : r3.heap.size < r7.heap.size := (by omega)
          try have ler7_4 : r4.heap.size ≤ r7.heap.size := (by omega)
          try have ltr7_4 : r4.heap.size < r7.heap.size := (by omega)
          try have ler7_5 : r5.heap.size ≤ r7.heap.size := (by omega)
          try have ltr7_5 : r5.heap.size < r7.heap.size := (by omega)
          try have ler7_6 : r6.heap.size ≤ r7.heap.size := (by omega)
          try have ltr7_6 : r6.heap.size < r7.heap.size := (by omega)
          have HBr7 : Hid (Below wr.heap.size wr r7) := Lib.hid (Below.trans (by first | exact HBr6.out | exact HBr6.out.alloc HBr6.out.size _ | exact (HBr6.out.alloc HBr6.out.size _).alloc (le_al HBr6.out.size) _ | exact ((HBr6.out.alloc HBr6.out.size _).alloc (le_al HBr6.out.size) _).alloc (le_al (le_al HBr6.out.size)) _) (hbr7.mono (by (try simp only [World.size_alloc]); (try simp only [size_setCell']); omega)))
          have HNr7 := Lib.hid hbr7
          clear hbr7 hsr7
          have HS7 := Lib.hid hr7
          obtain ⟨s7, z7, rfl⟩ := hr7.shape
          have HRB7 := Lib.hid (HRB6.out.kept HNr7.out)
          clear hr7
          go_wp2_with fail
          refine (sort_any _ bl r7 HRB7.out.sl HNB.out HLB.out).mono ?_
          rintro e r8 ⟨u8, rfl, hr8, hbr8⟩
          obtain ⟨hcr8, hfr8⟩ := bcell hbr8
          have hsr8 := hbr8.size
          try simp only [World.size_alloc] at hsr8
          try simp only [size_setCell'] at hsr8
          try have ler8_0 : wr.heap.size ≤ r8.heap.size := (by omega)
          try have ltr8_0 : wr.heap.size < r8.heap.size := (by omega)
          try have ler8_1 : r1.heap.size ≤ r8.heap.size := (by omega)
          try have ltr8_1 : r1.heap.size < r8.heap.size := (by omega)
          try have ler8_2 : r2.heap.size ≤ r8.heap.size := (by omega)
          try have ltr8_2 : r2.heap.size < r8.heap.size := (by omega)
          try have ler8_3 : r3.heap.size ≤ r8.heap.size := (by omega)
          try have ltr8_3 : r3.heap.size < r8.heap.size := (by omega)
          try have ler8_4 : r4.heap.size ≤ r8.heap.size := (by omega)
          try have ltr8_4 : r4.heap.size < r8.heap.size := (by omega)
          try have ler8_5 : r5.heap.size ≤ r8.heap.size := (by omega)
          try have ltr8_5 : r5.heap.size < r8.heap.size := (by omega)
          try have ler8_6 : r6.heap.size ≤ r8.heap.size := (by omega)
          try have ltr8_6 : r6.heap.size < r8.heap.size := (by omega)
          try have ler8_7 : r7.heap.size ≤ r8.heap.size := (by omega)
          try have ltr8_7 : r7.heap.size < r8.heap.size := (by omega)
          have HBr8 : Hid (Below wr.heap.size wr r8) := Lib.hid (Below.trans (by first | exact HBr7.out | exact HBr7.out.alloc HBr7.out.size _ | exact (HBr7.out.alloc HBr7.out.size _).alloc (le_al HBr7.out.size) _ | exact ((HBr7.out.alloc HBr7.out.size _).alloc (le_al HBr7.out.size) _).alloc (le_al (le_al HBr7.out.size)) _) (hbr8.mono (by (try simp only [World.size_alloc]); (try simp only [size_setCell']); omega)))
          have HNr8 := Lib.hid hbr8
          clear hbr8 hsr8
          rw [HSOB.out] at hr8
          have HS8 := Lib.hid hr8
          obtain ⟨s8, z8, rfl⟩ := hr8.shape
          have HS7a := Lib.hid (HS7.out.kept HNr8.out)
          clear hr8
          go_wp2_with fail
          refine (ops_same _ _ (sortOps A) r8 HS7a.out.sl HS8.out.sl HSL1.out).mono ?_
          rintro e r9 ⟨rfl, hbr9⟩
          obtain ⟨hcr9, hfr9⟩ := bcell hbr9
          have hsr9 := hbr9.size
          try simp only [World.size_alloc] at hsr9
          try simp only [size_setCell'] at hsr9
          try have ler9_0 : wr.heap.size ≤ r9.heap.size := (by omega)
          try have ltr9_0 : wr.heap.size < r9.heap.size := (by omega)
          try have ler9_1 : r1.heap.size ≤ r9.heap.size := (by omega)
          try have ltr9_1 : r1.heap.size < r9.heap.size := (by omega)
          try have ler9_2 : r2.heap.size ≤ r9.heap.size := (by omega)
          try have ltr9_2 : r2.heap.size < r9.heap.size := (by omega)
          try have ler9_3 : r3.heap.size ≤ r9.heap.size := (by omega)
          try have ltr9_3 : r3.heap.size < r9.heap.size := (by omega)
          try have ler9_4 : r4.heap.size ≤ r9.heap.size := (by omega)
          try have ltr9_4 : r4.heap.size < r9.heap.size := (by omega)
          try have ler9_5 : r5.heap.size ≤ r9.heap.size := (by omega)
          try have ltr9_5 : r5.heap.size < r9.heap.size := (by omega)
          try have ler9_6 : r6.heap.size ≤ r9.heap.size := (by omega)
          try have ltr9_6 : r6.heap.size < r9.heap.size := (by omega)
          try have ler9_7 : r7.heap.size ≤ r9.heap.size := (by omega)
          try have ltr9_7 : r7.heap.size < r9.heap.size := (by omega)
          try have ler9_8 : r8.heap.size ≤ r9.heap.size := (by omega)
          try have ltr9_8 : r8.heap.size < r9.heap.size := (by omega)
          have HBr9 : Hid (Below wr.heap.size wr r9) := Lib.hid (Below.trans (by first | exact HBr8.out | exact HBr8.out.alloc HBr8.out.size _ | exact (HBr8.out.alloc HBr8.out.size _).alloc (le_al HBr8.out.size) _ | exact ((HBr8.out.alloc HBr8.out.size _).alloc (le_al HBr8.out.size) _).alloc (le_al (le_al HBr8.out.size)) _) (hbr9.mono (by (try simp only [World.size_alloc]); (try simp only [size_setCell']); omega)))
          have HNr9 := Lib.hid hbr9
          clear hbr9 hsr9
          go_wp2
          go_ret
          exact ⟨rfl, HBW.out.trans (HBr9.out.mono HBW.out.size)⟩

set_option maxRecDepth 100000 in
set_option maxHeartbeats 8000000 in
theorem conv_walk (v1 : Value) (l : List Op) (v2 : Value) (tu : List Int) (w : World) (hs1 : SlAt w 13 Op.cells v1 l) (hn1 : ∀ o ∈ l, o.Small) (hs2 : SlAt w 1 U8.cells v2 tu) (hn2 : ∀ z ∈ tu, (Lit.int .u8 z).wf = true) :
    Calls Tryz.prog 13 #[v1, v2] w fun y w' => y = .returned (.bool true) ∧ Below w.heap.size w w' := by
  cases hf1 : decide (l.length ≤ 60) with
  | false =>
    have HF1 := Lib.hid (fun W (hW : Below w.heap.size w W) => few_any v1 l W (hs1.below hW))
    have HB0 : Hid (Below w.heap.size w w) := Lib.hid (Below.refl _ _)
    obtain ⟨a1, c1_, rfl⟩ := hs1.len
    obtain ⟨a2, c2_, rfl⟩ := hs2.len
    rw [hf1] at HF1
    clear hf1 hs1 hs2 hn1 hn2
    go_enter Tryz.func13, Tryz.ntmps13
    go_wp2_with fail
    refine (shown_any _).mono ?_
    rintro e w1 ⟨rfl, hb1⟩
    obtain ⟨hc1, hf1⟩ := bcell hb1
    have hs1 := hb1.size
    try simp only [World.size_alloc] at hs1
    try simp only [size_setCell'] at hs1
    try have le1_0 : w.heap.size ≤ w1.heap.size := (by omega)
    try have lt1_0 : w.heap.size < w1.heap.size := (by omega)
    have HB1 : Hid (Below w.heap.size w w1) := Lib.hid (Below.trans (by first | exact HB0.out | exact HB0.out.alloc HB0.out.size _ | exact (HB0.out.alloc HB0.out.size _).alloc (le_al HB0.out.size) _ | exact ((HB0.out.alloc HB0.out.size _).alloc (le_al HB0.out.size) _).alloc (le_al (le_al HB0.out.size)) _) (hb1.mono (by (try simp only [World.size_alloc]); (try simp only [size_setCell']); omega)))
    have HN1 := Lib.hid hb1
    clear hb1 hs1
    go_wp2_with (go_at_call 35; refine (HF1.out _ HB1.out).mono ?_; rintro y w' ⟨rfl, rfl⟩)
    go_ret
    exact ⟨rfl, HB1.out⟩
  | true =>
    by_cases hn : (distinctOf l).length = 0
    · by_cases ht : tu.length = 0
      · exact conv_T_T v1 l v2 tu w hs1 hn1 hs2 hn2 hf1 (by omega) (.inr ht) (by omega)
      · exact conv_n0 v1 l v2 tu w hs1 hn1 hs2 hn2 hf1 (by omega) hn
    · by_cases h1 : tu.length ≤ 20
      · exact conv_T_T v1 l v2 tu w hs1 hn1 hs2 hn2 hf1 (by omega) (.inl (by omega)) h1
      · by_cases h2 : tu.length ≤ 100
        · exact conv_T_20 v1 l v2 tu w hs1 hn1 hs2 hn2 hf1 h2 (.inl (by omega)) (by omega)
        · exact conv_100_20 v1 l v2 tu w hs1 hn1 hs2 hn2 hf1 (by omega) (by omega)
end Go.Proofs.YtlokljaeknmdpaaGreat.L13
