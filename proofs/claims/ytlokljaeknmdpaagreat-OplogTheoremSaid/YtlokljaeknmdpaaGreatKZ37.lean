/-
  Comparisons of like structures; no condition. · undo.alone and its three comparisons; condition: at most 1000 elements.
-/
import Derived.Test.YtlokljaeknmdpaaGreatKZ24
import Derived.Test.YtlokljaeknmdpaaGreatKZ25
import Derived.Test.YtlokljaeknmdpaaGreatKZ23
import Derived.Test.YtlokljaeknmdpaaGreatKZ36
/-! ## LCmp -/
namespace Go.Proofs.YtlokljaeknmdpaaGreat.L11
open Go.RowKit Go.Shelf Go.Proofs

theorem eq_ino_self (p : Ino) (w : World) : (Op.equal 62 (.agg #[.int .i64 p.id.t, .int .i64 p.id.r, .int .i64 p.kind, .int .i64 p.links, .int .i64 p.mode, .string p.data]) (.agg #[.int .i64 p.id.t, .int .i64 p.id.r, .int .i64 p.kind, .int .i64 p.links, .int .i64 p.mode, .string p.data])).run Tryz.prog w = .ok true w := by
  show (Op.equalIn (9999 + 1) 62 _ _).run Tryz.prog w = _
  have hu := Tryz.underlying2
  have hv := Tryz.underlying3
  have hs := Tryz.underlying9
  have ha := Tryz.underlying31
  obtain ⟨⟨p0, p1⟩, p2, p3, p4, p5⟩ := p
  simp only
  go_simp
end Go.Proofs.YtlokljaeknmdpaaGreat.L11

/-! ## UndoA -/
namespace Go.Proofs.YtlokljaeknmdpaaGreat
open Go.RowKit Go.Shelf Go.Proofs
set_option linter.unusedVariables false

theorem cells_first (w : World) (cs : List Value) (t : TypeId) : ∀ j u, cs[j]? = some u → (w.alloc (.cells cs.toArray t)).cell? ((⟨w.heap.size, 0, none⟩ : Addr).add j) = some u := by
  intro j u hj
  rw [Addr.add_lit, Nat.zero_add]
  exact cell_new w _ rfl _ _ j u (by simpa using hj)
theorem ownsRow_kept {W W' : World} {base : Nat} {t : TypeId} {size : Nat} {v : Value} {k : Nat} {xs : List Value} (h : W.ownsRow base t size v k xs) (hb : ∀ j, j < W.heap.size → W'.heap[j]? = W.heap[j]?) : W'.ownsRow base t size v k xs := by
  refine ⟨h.1, ?_⟩
  rcases h.2 with h0 | ⟨g, cap, cur, hv, hg, hh, rest⟩
  · exact .inl h0
  · exact .inr ⟨g, cap, cur, hv, hg, (hb g (Array.getElem?_eq_some_iff.1 hh).1).trans hh, rest⟩
theorem alone_take {α : Type} [Inhabited α] (xs ys : List α) (s : α → α → Bool) (i : Nat) (h : i < xs.length) : alone (xs.take (i + 1)) ys s = alone (xs.take i) ys s ++ (if ys.any (fun y => s xs[i]! y) then [] else [xs[i]!]) := by
  unfold alone
  rw [List.take_succ_eq_append_getElem h, List.filter_append, ← getElem!_pos xs i h]
  congr 1
  rw [List.filter_cons, List.filter_nil]
  cases ys.any (fun y => s xs[i]! y) <;> rfl
theorem alone_len {α : Type} (xs ys : List α) (s : α → α → Bool) : (alone xs ys s).length ≤ xs.length := List.length_filter_le _ _
theorem eq_ent_self (p : Ent) (w : World) : (Op.equal 34 (.agg #[.int .i64 p.at_.t, .int .i64 p.at_.r, .string p.name, .int .i64 p.ino.t, .int .i64 p.ino.r]) (.agg #[.int .i64 p.at_.t, .int .i64 p.at_.r, .string p.name, .int .i64 p.ino.t, .int .i64 p.ino.r])).run Tryz.prog w = .ok true w := by
  show (Op.equalIn (9999 + 1) 34 _ _).run Tryz.prog w = _
  have hu := Tryz.underlying2
  have hv := Tryz.underlying3
  have hs := Tryz.underlying9
  have ha := Tryz.underlying31
  obtain ⟨⟨p0, p1⟩, p5, p2, p3⟩ := p
  simp only
  go_simp
theorem eql_ent (p q : Ent) (w : World) : (binOp .eql 34 (.agg #[.int .i64 p.at_.t, .int .i64 p.at_.r, .string p.name, .int .i64 p.ino.t, .int .i64 p.ino.r]) (.agg #[.int .i64 q.at_.t, .int .i64 q.at_.r, .string q.name, .int .i64 q.ino.t, .int .i64 q.ino.r])).run Tryz.prog w = .ok (.bool (decide (p = q))) w := by
  simp only [binOp]
  by_cases h : p = q
  · subst h; simp [eq_ent_self p w]
  · simp [eq_ent p q h w, h]
theorem eql_ino (p q : Ino) (w : World) : (binOp .eql 62 (.agg #[.int .i64 p.id.t, .int .i64 p.id.r, .int .i64 p.kind, .int .i64 p.links, .int .i64 p.mode, .string p.data]) (.agg #[.int .i64 q.id.t, .int .i64 q.id.r, .int .i64 q.kind, .int .i64 q.links, .int .i64 q.mode, .string q.data])).run Tryz.prog w = .ok (.bool (decide (p = q))) w := by
  simp only [binOp]
  by_cases h : p = q
  · subst h; simp [L11.eq_ino_self p w]
  · simp [eq_ino p q h w, h]

set_option maxRecDepth 100000 in
set_option maxHeartbeats 1000000 in
theorem uentry_any (x y : Ent) (w : World) : Calls Tryz.prog 88 #[x.v, y.v] w fun e w' => e = .returned (.bool (decide (x = y))) ∧ Below w.heap.size w w' := by
  have he := fun w => eql_ent x y w
  have hB : Below w.heap.size w ((w.alloc (.cells #[.int .i64 x.at_.t, .int .i64 x.at_.r, .string x.name, .int .i64 x.ino.t, .int .i64 x.ino.r] 34)).alloc (.cells #[.int .i64 y.at_.t, .int .i64 y.at_.r, .string y.name, .int .i64 y.ino.t, .int .i64 y.ino.r] 34)) := (((New.refl w).alloc _).alloc _).below
  have HB := Lib.hid hB
  clear hB
  unfold Ent.v
  go_enter Tryz.func88, Tryz.ntmps88
  go_wp2
  go_ret
  exact ⟨rfl, HB.out⟩
set_option maxRecDepth 100000 in
set_option maxHeartbeats 1000000 in
theorem unumber_any (x y : Ino) (w : World) : Calls Tryz.prog 91 #[x.v, y.v] w fun e w' => e = .returned (.bool (decide (x.id = y.id))) ∧ Below w.heap.size w w' := by
  have he := fun w => eql_st x.id y.id w
  have hB : Below w.heap.size w ((w.alloc (.cells #[.int .i64 x.id.t, .int .i64 x.id.r, .int .i64 x.kind, .int .i64 x.links, .int .i64 x.mode, .string x.data] 62)).alloc (.cells #[.int .i64 y.id.t, .int .i64 y.id.r, .int .i64 y.kind, .int .i64 y.links, .int .i64 y.mode, .string y.data] 62)) := (((New.refl w).alloc _).alloc _).below
  have HB := Lib.hid hB
  clear hB
  unfold Ino.v
  go_enter Tryz.func91, Tryz.ntmps91
  go_wp2
  go_ret
  exact ⟨rfl, HB.out⟩
theorem sameI_eq (x y : Ino) : sameI x y = decide (({ x with links := y.links } : Ino) = y) := by
  unfold sameI Ino.core
  obtain ⟨a, b, c, d, e⟩ := x
  obtain ⟨a', b', c', d', e'⟩ := y
  rw [decide_eq_decide]
  simp only [Ino.mk.injEq, Prod.mk.injEq]
  constructor
  · rintro ⟨h1, h2, h3, h4⟩; exact ⟨h1, h2, trivial, h3, h4⟩
  · rintro ⟨h1, h2, _, h3, h4⟩; exact ⟨h1, h2, h3, h4⟩
set_option maxRecDepth 100000 in
set_option maxHeartbeats 1000000 in
theorem uinode_any (x y : Ino) (w : World) : Calls Tryz.prog 90 #[x.v, y.v] w fun e w' => e = .returned (.bool (sameI x y)) ∧ Below w.heap.size w w' := by
  have he : ∀ w, (binOp .eql 62 (.agg #[.int .i64 x.id.t, .int .i64 x.id.r, .int .i64 x.kind, .int .i64 y.links, .int .i64 x.mode, .string x.data]) (.agg #[.int .i64 y.id.t, .int .i64 y.id.r, .int .i64 y.kind, .int .i64 y.links, .int .i64 y.mode, .string y.data])).run Tryz.prog w = .ok (.bool (sameI x y)) w := fun w => by
    rw [sameI_eq]; exact eql_ino { x with links := y.links } y w
  have hB : ∀ a b, Below w.heap.size w ((w.alloc a).alloc b) := fun a b => (((New.refl w).alloc _).alloc _).below
  have HB := Lib.hid hB
  clear hB
  unfold Ino.v
  go_enter Tryz.func90, Tryz.ntmps90
  go_wp2
  go_ret
  exact ⟨rfl, HB.out _ _⟩

set_option maxRecDepth 100000 in
set_option maxHeartbeats 1000000 in
theorem aloneE1 (B C : Nat) (x y : Ent) (w : World) (hB : w.cell? ⟨B, 0, none⟩ = some (.func (.func 88) #[] #[])) (hBl : B < w.heap.size) (hC : (w.cell? ⟨C, 0, none⟩ = some (.int .i64 x.at_.t) ∧ w.cell? ⟨C, 1, none⟩ = some (.int .i64 x.at_.r) ∧ w.cell? ⟨C, 2, none⟩ = some (.string x.name) ∧ w.cell? ⟨C, 3, none⟩ = some (.int .i64 x.ino.t) ∧ w.cell? ⟨C, 4, none⟩ = some (.int .i64 x.ino.r) ∧ C < w.heap.size)) :
    Calls Tryz.prog 136 #[y.v, .pointer (some ⟨B, 0, none⟩), .pointer (some ⟨C, 0, none⟩)] w fun e w' => e = .returned (.bool (decide (x = y))) ∧ Below w.heap.size w w' := by
  have hB1 : Below w.heap.size w (w.alloc (.cells #[.int .i64 y.at_.t, .int .i64 y.at_.r, .string y.name, .int .i64 y.ino.t, .int .i64 y.ino.r] 34)) := ((New.refl w).alloc _).below
  have h0 := (hB1.cell (p := ⟨B, 0, none⟩) hBl).trans hB
  obtain ⟨k0, k1, k2, k3, k4, hl⟩ := hC
  have hc := uentry_any x y (w.alloc (.cells #[.int .i64 y.at_.t, .int .i64 y.at_.r, .string y.name, .int .i64 y.ino.t, .int .i64 y.ino.r] 34))
  have HC := Lib.hid hc
  have j0 := (hB1.cell (p := ⟨C, 0, none⟩) hl).trans k0
  have j1 := (hB1.cell (p := ⟨C, 1, none⟩) hl).trans k1
  have j2 := (hB1.cell (p := ⟨C, 2, none⟩) hl).trans k2
  have j3 := (hB1.cell (p := ⟨C, 3, none⟩) hl).trans k3
  have j4 := (hB1.cell (p := ⟨C, 4, none⟩) hl).trans k4
  have hl2 := Nat.lt_of_lt_of_le hl hB1.size
  have hb2 := Nat.lt_of_lt_of_le hBl hB1.size
  have HB1 := Lib.hid hB1
  clear hB1 k0 k1 k2 k3 k4 hB hc
  unfold Ent.v at HC ⊢
  go_enter Tryz.func136, Tryz.ntmps136
  go_wp2_with fail
  refine HC.out.mono ?_
  rintro e w2 ⟨rfl, hb⟩
  have HB2 := Lib.hid (HB1.out.trans (hb.mono HB1.out.size))
  clear hb
  go_wp2
  go_ret
  exact ⟨rfl, HB2.out⟩

set_option maxRecDepth 100000 in
set_option maxHeartbeats 4000000 in
theorem aloneE (va vb : Value) (xs ys : List Ent) (w : World) (h1 : SlAt w 5 Ent.cells va xs) (h2 : SlAt w 5 Ent.cells vb ys) (hx : xs.length ≤ 1000) (hy : ys.length ≤ 1000) :
    Calls Tryz.prog 87 #[va, vb, .func (.func 88) #[] #[]] w fun e w' => ∃ u, e = .returned u ∧ w'.ownsRow w.heap.size 34 5 u (alone xs ys (fun x y => decide (x = y))).length ((alone xs ys (fun x y => decide (x = y))).flatMap Ent.cells) ∧ Below w.heap.size w w' := by
  obtain ⟨i0, hinf, hz0, hz1, hz2⟩ := info_parts infoEnt
  obtain ⟨W0, hW0⟩ : ∃ W0, W0 = w.alloc (.cells #[.func (.func 88) #[] #[]] 119) := ⟨_, rfl⟩
  have HW : Hid (Below w.heap.size w W0) := Lib.hid (by rw [hW0]; exact ((New.refl w).alloc _).below)
  have HF : Hid (∀ W, Below W0.heap.size W0 W → W.cell? ⟨w.heap.size, 0, none⟩ = some (.func (.func 88) #[] #[]) ∧ w.heap.size < W.heap.size) := Lib.hid (by
    rw [hW0]; exact fun W hW => ⟨(hW.cell (p := ⟨w.heap.size, 0, none⟩) (by simp)).trans (cell_new _ _ rfl _ _ 0 _ rfl), by have := hW.size; simp only [World.size_alloc] at this; omega⟩)
  have HA : Hid (∀ W, Below W0.heap.size W0 W → SlAt W 5 Ent.cells va xs) := Lib.hid fun W hW => h1.below (HW.out.trans (hW.mono HW.out.size))
  have HV : Hid (∀ W, Below W0.heap.size W0 W → SlAt W 5 Ent.cells vb ys) := Lib.hid fun W hW => h2.below (HW.out.trans (hW.mono HW.out.size))
  obtain ⟨aa, ac, rfl⟩ := h1.len
  clear h1 h2
  go_enter Tryz.func87, Tryz.ntmps87
  go_wp2_with fail
  rw [← hW0]
  have HW0 := Lib.hid hW0
  clear hW0
  go_wp2
  go_loopg [7, 12] (xs.length) (fun gg s7 s12 wr => ∃ i : Nat, s12 = .int .i64 i ∧ i ≤ xs.length ∧ xs.length - i ≤ gg ∧ Aside (wr.ownsRow W0.heap.size 34 5 s7 (alone (xs.take i) ys (fun x y => decide (x = y))).length ((alone (xs.take i) ys (fun x y => decide (x = y))).flatMap Ent.cells)) ∧ Aside (Below W0.heap.size W0 wr))
  case atStart => exact ⟨0, rfl, Nat.zero_le _, by omega, (show Aside _ from World.ownsRow_nil _ _ _ _), (show Aside _ from Below.refl _ _)⟩
  case round =>
    obtain ⟨i, rfl, hil, hgg, hrow, hB⟩ := hrel
    have hi0 : (0 : Int) ≤ (i : Int) := by omega
    have hwi : IntKind.i64.wrap ((i : Int) + 1) = (i : Int) + 1 := wrapNat (i + 1) (by omega)
    by_cases hlt : i < xs.length
    · have hlti : (i : Int) < (xs.length : Int) := by omega
      obtain ⟨bb, off, rfl, hbl, hcells⟩ := slAt_at (HA.out wr hB.out) hlt
      obtain ⟨x0, x1, x2, x3, x4⟩ := cellsEnt hcells i hlt
      have hst := alone_take xs ys (fun x y => decide (x = y)) i hlt
      have HKV : Hid ((alone (xs.take i) ys (fun x y => decide (x = y))).length ≤ 1000) := Lib.hid (by have := alone_len (xs.take i) ys (fun x y => decide (x = y)); rw [List.length_take] at this; omega)
      clear hcells
      generalize xs[i]! = x at x0 x1 x2 x3 x4 hst
      have hV1 : Below wr.heap.size wr (wr.alloc (.cells #[.int .i64 x.at_.t, .int .i64 x.at_.r, .string x.name, .int .i64 x.ino.t, .int .i64 x.ino.r] 34)) := ((New.refl wr).alloc _).below
      have hV0 := hB.out.trans (hV1.mono hB.out.size)
      have HX : Hid (∀ W, Below (wr.alloc (.cells #[.int .i64 x.at_.t, .int .i64 x.at_.r, .string x.name, .int .i64 x.ino.t, .int .i64 x.ino.r] 34)).heap.size (wr.alloc (.cells #[.int .i64 x.at_.t, .int .i64 x.at_.r, .string x.name, .int .i64 x.ino.t, .int .i64 x.ino.r] 34)) W → (W.cell? ⟨wr.heap.size, 0, none⟩ = some (.int .i64 x.at_.t) ∧ W.cell? ⟨wr.heap.size, 1, none⟩ = some (.int .i64 x.at_.r) ∧ W.cell? ⟨wr.heap.size, 2, none⟩ = some (.string x.name) ∧ W.cell? ⟨wr.heap.size, 3, none⟩ = some (.int .i64 x.ino.t) ∧ W.cell? ⟨wr.heap.size, 4, none⟩ = some (.int .i64 x.ino.r) ∧ wr.heap.size < W.heap.size)) := Lib.hid fun W hW => ⟨(hW.cell (p := ⟨_, 0, none⟩) (by simp)).trans (cell_new _ _ rfl _ _ 0 _ rfl), (hW.cell (p := ⟨_, 1, none⟩) (by simp)).trans (cell_new _ _ rfl _ _ 1 _ rfl), (hW.cell (p := ⟨_, 2, none⟩) (by simp)).trans (cell_new _ _ rfl _ _ 2 _ rfl), (hW.cell (p := ⟨_, 3, none⟩) (by simp)).trans (cell_new _ _ rfl _ _ 3 _ rfl), (hW.cell (p := ⟨_, 4, none⟩) (by simp)).trans (cell_new _ _ rfl _ _ 4 _ rfl), by have := hW.size; simp at this; omega⟩
      have hcon := containsEnt (fun y => decide (x = y)) 136 #[.pointer (some ⟨w.heap.size, 0, none⟩), .pointer (some ⟨wr.heap.size, 0, none⟩)] (enters_of Tryz.func136 (by kernel_rfl) rfl) vb ys (wr.alloc (.cells #[.int .i64 x.at_.t, .int .i64 x.at_.r, .string x.name, .int .i64 x.ino.t, .int .i64 x.ino.r] 34)) (HV.out _ hV0) hy
        (fun W y hW => aloneE1 w.heap.size wr.heap.size x y W (HF.out W (hV0.trans (hW.mono hV0.size))).1 (HF.out W (hV0.trans (hW.mono hV0.size))).2 (HX.out W hW))
      have hrow4 : Hid (∀ w4, Below (wr.alloc (.cells #[.int .i64 x.at_.t, .int .i64 x.at_.r, .string x.name, .int .i64 x.ino.t, .int .i64 x.ino.r] 34)).heap.size (wr.alloc (.cells #[.int .i64 x.at_.t, .int .i64 x.at_.r, .string x.name, .int .i64 x.ino.t, .int .i64 x.ino.r] 34)) w4 → w4.ownsRow W0.heap.size 34 5 u7 (alone (xs.take i) ys (fun x y => decide (x = y))).length ((alone (xs.take i) ys (fun x y => decide (x = y))).flatMap Ent.cells) ∧ Below W0.heap.size W0 w4) := Lib.hid fun w4 hb4 =>
        ⟨by
          have hro := hrow.out
          exact ownsRow_kept hro fun j hj => by
            rw [hb4.block j (by simp only [World.size_alloc]; omega)]; exact Below.heap_alloc _ _ _ (by omega), hV0.trans (hb4.mono hV0.size)⟩
      have HCON0 := Lib.hid hcon
      clear hcon hV0 hV1
      cases hany : ys.any (fun y => decide (x = y)) with
      | true =>
        rw [hany] at HCON0 hst
        have HCON := Lib.hid HCON0.out
        have HST := Lib.hid hst
        clear hst hany HCON0
        go_wp2_with fail
        refine HCON.out.mono ?_
        rintro e w4 ⟨rfl, hb4⟩
        have HR4 := Lib.hid (hrow4.out w4 hb4)
        clear hb4
        go_wp2
        go_roundg (xs.length - (i + 1))
        case measure => omega
        case rel => exact ⟨i + 1, by first | rfl | go_num, by omega, by omega, (show Aside _ from by have e := HST.out; rw [if_pos trivial, List.append_nil] at e; rw [e]; exact HR4.out.1), (show Aside _ from HR4.out.2)⟩
      | false =>
        rw [hany] at HCON0 hst
        have HCON := Lib.hid HCON0.out
        have HST := Lib.hid hst
        clear hst hany HCON0
        go_wp2_with fail
        refine HCON.out.mono ?_
        rintro e w4 ⟨rfl, hb4⟩
        have HR4 := Lib.hid (hrow4.out w4 hb4)
        obtain ⟨y0, y1, y2, y3, y4, yl⟩ := HX.out w4 hb4
        clear hb4
        generalize alone (xs.take i) ys (fun x y => decide (x = y)) = L at *
        go_wp2_with (at_builtin; refine wpList_append_own _ rfl _ _ 24 rfl W0.heap.size 34 i0 _ 5 48 Tryz.underlying24 hinf hz0 hz1 hz2 rfl (by decide) _ _ _ rfl (HR4.out.1.alloc _) ⟨w4.heap.size, 0, none⟩ 1 1 x.cells rfl rfl (cells_first w4 x.cells _) (Ent.one x) (by have := HKV.out; simp only [maxLen]; omega) (by have := HKV.out; omega) (by have := HR4.out.2.size; simp only [World.size_alloc]; omega) ?_; intro v' w5 hown' hgrow _; have HO := Lib.hid hown'; have HG := Lib.hid hgrow; clear hown' hgrow)
        go_roundg (xs.length - (i + 1))
        case measure => omega
        case rel =>
          refine ⟨i + 1, by first | rfl | go_num, by omega, by omega, (show Aside _ from ?_), (show Aside _ from ?_)⟩
          · have e := HST.out
            rw [if_neg (by decide)] at e
            rw [e]
            have h := HO.out
            exact (by simpa using h : w5.ownsRow W0.heap.size 34 5 v' (L ++ [x]).length ((L ++ [x]).flatMap Ent.cells))
          · refine (HR4.out.2.alloc HR4.out.2.size _).grown HG.out (by have := HR4.out.2.size; simp only [World.size_alloc]; omega) (fun j ej => rowGe HR4.out.1 ej)
    · have hlti : ¬ (i : Int) < (xs.length : Int) := by omega
      obtain rfl : i = xs.length := by omega
      have HR : Hid (wr.ownsRow W0.heap.size 34 5 u7 (alone xs ys (fun x y => decide (x = y))).length ((alone xs ys (fun x y => decide (x = y))).flatMap Ent.cells)) := Lib.hid (by have := hrow.out; rw [List.take_length] at this; exact this)
      go_wp2
      go_ret
      exact ⟨u7, rfl, ownsRow_mono HR.out HW.out.size, HW.out.trans (hB.out.mono HW.out.size)⟩

set_option maxRecDepth 100000 in
set_option maxHeartbeats 1000000 in
theorem aloneI1 (B C : Nat) (x y : Ino) (w : World) (hB : w.cell? ⟨B, 0, none⟩ = some (.func (.func 90) #[] #[])) (hBl : B < w.heap.size) (hC : (w.cell? ⟨C, 0, none⟩ = some (.int .i64 x.id.t) ∧ w.cell? ⟨C, 1, none⟩ = some (.int .i64 x.id.r) ∧ w.cell? ⟨C, 2, none⟩ = some (.int .i64 x.kind) ∧ w.cell? ⟨C, 3, none⟩ = some (.int .i64 x.links) ∧ w.cell? ⟨C, 4, none⟩ = some (.int .i64 x.mode) ∧ w.cell? ⟨C, 5, none⟩ = some (.string x.data) ∧ C < w.heap.size)) :
    Calls Tryz.prog 137 #[y.v, .pointer (some ⟨B, 0, none⟩), .pointer (some ⟨C, 0, none⟩)] w fun e w' => e = .returned (.bool (sameI x y)) ∧ Below w.heap.size w w' := by
  have hB1 : Below w.heap.size w (w.alloc (.cells #[.int .i64 y.id.t, .int .i64 y.id.r, .int .i64 y.kind, .int .i64 y.links, .int .i64 y.mode, .string y.data] 62)) := ((New.refl w).alloc _).below
  have h0 := (hB1.cell (p := ⟨B, 0, none⟩) hBl).trans hB
  obtain ⟨k0, k1, k2, k3, k4, k5, hl⟩ := hC
  have hc := uinode_any x y (w.alloc (.cells #[.int .i64 y.id.t, .int .i64 y.id.r, .int .i64 y.kind, .int .i64 y.links, .int .i64 y.mode, .string y.data] 62))
  have HC := Lib.hid hc
  have j0 := (hB1.cell (p := ⟨C, 0, none⟩) hl).trans k0
  have j1 := (hB1.cell (p := ⟨C, 1, none⟩) hl).trans k1
  have j2 := (hB1.cell (p := ⟨C, 2, none⟩) hl).trans k2
  have j3 := (hB1.cell (p := ⟨C, 3, none⟩) hl).trans k3
  have j4 := (hB1.cell (p := ⟨C, 4, none⟩) hl).trans k4
  have j5 := (hB1.cell (p := ⟨C, 5, none⟩) hl).trans k5
  have hl2 := Nat.lt_of_lt_of_le hl hB1.size
  have hb2 := Nat.lt_of_lt_of_le hBl hB1.size
  have HB1 := Lib.hid hB1
  clear hB1 k0 k1 k2 k3 k4 k5 hB hc
  unfold Ino.v at HC ⊢
  go_enter Tryz.func137, Tryz.ntmps137
  go_wp2_with fail
  refine HC.out.mono ?_
  rintro e w2 ⟨rfl, hb⟩
  have HB2 := Lib.hid (HB1.out.trans (hb.mono HB1.out.size))
  clear hb
  go_wp2
  go_ret
  exact ⟨rfl, HB2.out⟩

set_option maxRecDepth 100000 in
set_option maxHeartbeats 4000000 in
theorem aloneI (va vb : Value) (xs ys : List Ino) (w : World) (h1 : SlAt w 6 Ino.cells va xs) (h2 : SlAt w 6 Ino.cells vb ys) (hx : xs.length ≤ 1000) (hy : ys.length ≤ 1000) :
    Calls Tryz.prog 89 #[va, vb, .func (.func 90) #[] #[]] w fun e w' => ∃ u, e = .returned u ∧ w'.ownsRow w.heap.size 62 6 u (alone xs ys sameI).length ((alone xs ys sameI).flatMap Ino.cells) ∧ Below w.heap.size w w' := by
  obtain ⟨i0, hinf, hz0, hz1, hz2⟩ := info_parts infoIno
  obtain ⟨W0, hW0⟩ : ∃ W0, W0 = w.alloc (.cells #[.func (.func 90) #[] #[]] 121) := ⟨_, rfl⟩
  have HW : Hid (Below w.heap.size w W0) := Lib.hid (by rw [hW0]; exact ((New.refl w).alloc _).below)
  have HF : Hid (∀ W, Below W0.heap.size W0 W → W.cell? ⟨w.heap.size, 0, none⟩ = some (.func (.func 90) #[] #[]) ∧ w.heap.size < W.heap.size) := Lib.hid (by
    rw [hW0]; exact fun W hW => ⟨(hW.cell (p := ⟨w.heap.size, 0, none⟩) (by simp)).trans (cell_new _ _ rfl _ _ 0 _ rfl), by have := hW.size; simp only [World.size_alloc] at this; omega⟩)
  have HA : Hid (∀ W, Below W0.heap.size W0 W → SlAt W 6 Ino.cells va xs) := Lib.hid fun W hW => h1.below (HW.out.trans (hW.mono HW.out.size))
  have HV : Hid (∀ W, Below W0.heap.size W0 W → SlAt W 6 Ino.cells vb ys) := Lib.hid fun W hW => h2.below (HW.out.trans (hW.mono HW.out.size))
  obtain ⟨aa, ac, rfl⟩ := h1.len
  clear h1 h2
  go_enter Tryz.func89, Tryz.ntmps89
  go_wp2_with fail
  rw [← hW0]
  have HW0 := Lib.hid hW0
  clear hW0
  go_wp2
  go_loopg [7, 12] (xs.length) (fun gg s7 s12 wr => ∃ i : Nat, s12 = .int .i64 i ∧ i ≤ xs.length ∧ xs.length - i ≤ gg ∧ Aside (wr.ownsRow W0.heap.size 62 6 s7 (alone (xs.take i) ys sameI).length ((alone (xs.take i) ys sameI).flatMap Ino.cells)) ∧ Aside (Below W0.heap.size W0 wr))
  case atStart => exact ⟨0, rfl, Nat.zero_le _, by omega, (show Aside _ from World.ownsRow_nil _ _ _ _), (show Aside _ from Below.refl _ _)⟩
  case round =>
    obtain ⟨i, rfl, hil, hgg, hrow, hB⟩ := hrel
    have hi0 : (0 : Int) ≤ (i : Int) := by omega
    have hwi : IntKind.i64.wrap ((i : Int) + 1) = (i : Int) + 1 := wrapNat (i + 1) (by omega)
    by_cases hlt : i < xs.length
    · have hlti : (i : Int) < (xs.length : Int) := by omega
      obtain ⟨bb, off, rfl, hbl, hcells⟩ := slAt_at (HA.out wr hB.out) hlt
      obtain ⟨x0, x1, x2, x3, x4, x5⟩ := cellsIno hcells i hlt
      have hst := alone_take xs ys sameI i hlt
      have HKV : Hid ((alone (xs.take i) ys sameI).length ≤ 1000) := Lib.hid (by have := alone_len (xs.take i) ys sameI; rw [List.length_take] at this; omega)
      clear hcells
      generalize xs[i]! = x at x0 x1 x2 x3 x4 x5 hst
      have hV1 : Below wr.heap.size wr (wr.alloc (.cells #[.int .i64 x.id.t, .int .i64 x.id.r, .int .i64 x.kind, .int .i64 x.links, .int .i64 x.mode, .string x.data] 62)) := ((New.refl wr).alloc _).below
      have hV0 := hB.out.trans (hV1.mono hB.out.size)
      have HX : Hid (∀ W, Below (wr.alloc (.cells #[.int .i64 x.id.t, .int .i64 x.id.r, .int .i64 x.kind, .int .i64 x.links, .int .i64 x.mode, .string x.data] 62)).heap.size (wr.alloc (.cells #[.int .i64 x.id.t, .int .i64 x.id.r, .int .i64 x.kind, .int .i64 x.links, .int .i64 x.mode, .string x.data] 62)) W → (W.cell? ⟨wr.heap.size, 0, none⟩ = some (.int .i64 x.id.t) ∧ W.cell? ⟨wr.heap.size, 1, none⟩ = some (.int .i64 x.id.r) ∧ W.cell? ⟨wr.heap.size, 2, none⟩ = some (.int .i64 x.kind) ∧ W.cell? ⟨wr.heap.size, 3, none⟩ = some (.int .i64 x.links) ∧ W.cell? ⟨wr.heap.size, 4, none⟩ = some (.int .i64 x.mode) ∧ W.cell? ⟨wr.heap.size, 5, none⟩ = some (.string x.data) ∧ wr.heap.size < W.heap.size)) := Lib.hid fun W hW => ⟨(hW.cell (p := ⟨_, 0, none⟩) (by simp)).trans (cell_new _ _ rfl _ _ 0 _ rfl), (hW.cell (p := ⟨_, 1, none⟩) (by simp)).trans (cell_new _ _ rfl _ _ 1 _ rfl), (hW.cell (p := ⟨_, 2, none⟩) (by simp)).trans (cell_new _ _ rfl _ _ 2 _ rfl), (hW.cell (p := ⟨_, 3, none⟩) (by simp)).trans (cell_new _ _ rfl _ _ 3 _ rfl), (hW.cell (p := ⟨_, 4, none⟩) (by simp)).trans (cell_new _ _ rfl _ _ 4 _ rfl), (hW.cell (p := ⟨_, 5, none⟩) (by simp)).trans (cell_new _ _ rfl _ _ 5 _ rfl), by have := hW.size; simp at this; omega⟩
      have hcon := containsIno (fun y => sameI x y) 137 #[.pointer (some ⟨w.heap.size, 0, none⟩), .pointer (some ⟨wr.heap.size, 0, none⟩)] (enters_of Tryz.func137 (by kernel_rfl) rfl) vb ys (wr.alloc (.cells #[.int .i64 x.id.t, .int .i64 x.id.r, .int .i64 x.kind, .int .i64 x.links, .int .i64 x.mode, .string x.data] 62)) (HV.out _ hV0) hy
        (fun W y hW => aloneI1 w.heap.size wr.heap.size x y W (HF.out W (hV0.trans (hW.mono hV0.size))).1 (HF.out W (hV0.trans (hW.mono hV0.size))).2 (HX.out W hW))
      have hrow4 : Hid (∀ w4, Below (wr.alloc (.cells #[.int .i64 x.id.t, .int .i64 x.id.r, .int .i64 x.kind, .int .i64 x.links, .int .i64 x.mode, .string x.data] 62)).heap.size (wr.alloc (.cells #[.int .i64 x.id.t, .int .i64 x.id.r, .int .i64 x.kind, .int .i64 x.links, .int .i64 x.mode, .string x.data] 62)) w4 → w4.ownsRow W0.heap.size 62 6 u7 (alone (xs.take i) ys sameI).length ((alone (xs.take i) ys sameI).flatMap Ino.cells) ∧ Below W0.heap.size W0 w4) := Lib.hid fun w4 hb4 =>
        ⟨by
          have hro := hrow.out
          exact ownsRow_kept hro fun j hj => by
            rw [hb4.block j (by simp only [World.size_alloc]; omega)]; exact Below.heap_alloc _ _ _ (by omega), hV0.trans (hb4.mono hV0.size)⟩
      have HCON0 := Lib.hid hcon
      clear hcon hV0 hV1
      cases hany : ys.any (fun y => sameI x y) with
      | true =>
        rw [hany] at HCON0 hst
        have HCON := Lib.hid HCON0.out
        have HST := Lib.hid hst
        clear hst hany HCON0
        go_wp2_with fail
        refine HCON.out.mono ?_
        rintro e w4 ⟨rfl, hb4⟩
        have HR4 := Lib.hid (hrow4.out w4 hb4)
        clear hb4
        go_wp2
        go_roundg (xs.length - (i + 1))
        case measure => omega
        case rel => exact ⟨i + 1, by first | rfl | go_num, by omega, by omega, (show Aside _ from by have e := HST.out; rw [if_pos trivial, List.append_nil] at e; rw [e]; exact HR4.out.1), (show Aside _ from HR4.out.2)⟩
      | false =>
        rw [hany] at HCON0 hst
        have HCON := Lib.hid HCON0.out
        have HST := Lib.hid hst
        clear hst hany HCON0
        go_wp2_with fail
        refine HCON.out.mono ?_
        rintro e w4 ⟨rfl, hb4⟩
        have HR4 := Lib.hid (hrow4.out w4 hb4)
        obtain ⟨y0, y1, y2, y3, y4, y5, yl⟩ := HX.out w4 hb4
        clear hb4
        generalize alone (xs.take i) ys sameI = L at *
        go_wp2_with (at_builtin; refine wpList_append_own _ rfl _ _ 36 rfl W0.heap.size 62 i0 _ 6 56 Tryz.underlying36 hinf hz0 hz1 hz2 rfl (by decide) _ _ _ rfl (HR4.out.1.alloc _) ⟨w4.heap.size, 0, none⟩ 1 1 x.cells rfl rfl (cells_first w4 x.cells _) (Ino.one x) (by have := HKV.out; simp only [maxLen]; omega) (by have := HKV.out; omega) (by have := HR4.out.2.size; simp only [World.size_alloc]; omega) ?_; intro v' w5 hown' hgrow _; have HO := Lib.hid hown'; have HG := Lib.hid hgrow; clear hown' hgrow)
        go_roundg (xs.length - (i + 1))
        case measure => omega
        case rel =>
          refine ⟨i + 1, by first | rfl | go_num, by omega, by omega, (show Aside _ from ?_), (show Aside _ from ?_)⟩
          · have e := HST.out
            rw [if_neg (by decide)] at e
            rw [e]
            have h := HO.out
            exact (by simpa using h : w5.ownsRow W0.heap.size 62 6 v' (L ++ [x]).length ((L ++ [x]).flatMap Ino.cells))
          · refine (HR4.out.2.alloc HR4.out.2.size _).grown HG.out (by have := HR4.out.2.size; simp only [World.size_alloc]; omega) (fun j ej => rowGe HR4.out.1 ej)
    · have hlti : ¬ (i : Int) < (xs.length : Int) := by omega
      obtain rfl : i = xs.length := by omega
      have HR : Hid (wr.ownsRow W0.heap.size 62 6 u7 (alone xs ys sameI).length ((alone xs ys sameI).flatMap Ino.cells)) := Lib.hid (by have := hrow.out; rw [List.take_length] at this; exact this)
      go_wp2
      go_ret
      exact ⟨u7, rfl, ownsRow_mono HR.out HW.out.size, HW.out.trans (hB.out.mono HW.out.size)⟩

set_option maxRecDepth 100000 in
set_option maxHeartbeats 1000000 in
theorem aloneN1 (B C : Nat) (x y : Ino) (w : World) (hB : w.cell? ⟨B, 0, none⟩ = some (.func (.func 91) #[] #[])) (hBl : B < w.heap.size) (hC : (w.cell? ⟨C, 0, none⟩ = some (.int .i64 x.id.t) ∧ w.cell? ⟨C, 1, none⟩ = some (.int .i64 x.id.r) ∧ w.cell? ⟨C, 2, none⟩ = some (.int .i64 x.kind) ∧ w.cell? ⟨C, 3, none⟩ = some (.int .i64 x.links) ∧ w.cell? ⟨C, 4, none⟩ = some (.int .i64 x.mode) ∧ w.cell? ⟨C, 5, none⟩ = some (.string x.data) ∧ C < w.heap.size)) :
    Calls Tryz.prog 137 #[y.v, .pointer (some ⟨B, 0, none⟩), .pointer (some ⟨C, 0, none⟩)] w fun e w' => e = .returned (.bool (decide (x.id = y.id))) ∧ Below w.heap.size w w' := by
  have hB1 : Below w.heap.size w (w.alloc (.cells #[.int .i64 y.id.t, .int .i64 y.id.r, .int .i64 y.kind, .int .i64 y.links, .int .i64 y.mode, .string y.data] 62)) := ((New.refl w).alloc _).below
  have h0 := (hB1.cell (p := ⟨B, 0, none⟩) hBl).trans hB
  obtain ⟨k0, k1, k2, k3, k4, k5, hl⟩ := hC
  have hc := unumber_any x y (w.alloc (.cells #[.int .i64 y.id.t, .int .i64 y.id.r, .int .i64 y.kind, .int .i64 y.links, .int .i64 y.mode, .string y.data] 62))
  have HC := Lib.hid hc
  have j0 := (hB1.cell (p := ⟨C, 0, none⟩) hl).trans k0
  have j1 := (hB1.cell (p := ⟨C, 1, none⟩) hl).trans k1
  have j2 := (hB1.cell (p := ⟨C, 2, none⟩) hl).trans k2
  have j3 := (hB1.cell (p := ⟨C, 3, none⟩) hl).trans k3
  have j4 := (hB1.cell (p := ⟨C, 4, none⟩) hl).trans k4
  have j5 := (hB1.cell (p := ⟨C, 5, none⟩) hl).trans k5
  have hl2 := Nat.lt_of_lt_of_le hl hB1.size
  have hb2 := Nat.lt_of_lt_of_le hBl hB1.size
  have HB1 := Lib.hid hB1
  clear hB1 k0 k1 k2 k3 k4 k5 hB hc
  unfold Ino.v at HC ⊢
  go_enter Tryz.func137, Tryz.ntmps137
  go_wp2_with fail
  refine HC.out.mono ?_
  rintro e w2 ⟨rfl, hb⟩
  have HB2 := Lib.hid (HB1.out.trans (hb.mono HB1.out.size))
  clear hb
  go_wp2
  go_ret
  exact ⟨rfl, HB2.out⟩

set_option maxRecDepth 100000 in
set_option maxHeartbeats 4000000 in
theorem aloneN (va vb : Value) (xs ys : List Ino) (w : World) (h1 : SlAt w 6 Ino.cells va xs) (h2 : SlAt w 6 Ino.cells vb ys) (hx : xs.length ≤ 1000) (hy : ys.length ≤ 1000) :
    Calls Tryz.prog 89 #[va, vb, .func (.func 91) #[] #[]] w fun e w' => ∃ u, e = .returned u ∧ w'.ownsRow w.heap.size 62 6 u (alone xs ys (fun x y => decide (x.id = y.id))).length ((alone xs ys (fun x y => decide (x.id = y.id))).flatMap Ino.cells) ∧ Below w.heap.size w w' := by
  obtain ⟨i0, hinf, hz0, hz1, hz2⟩ := info_parts infoIno
  obtain ⟨W0, hW0⟩ : ∃ W0, W0 = w.alloc (.cells #[.func (.func 91) #[] #[]] 121) := ⟨_, rfl⟩
  have HW : Hid (Below w.heap.size w W0) := Lib.hid (by rw [hW0]; exact ((New.refl w).alloc _).below)
  have HF : Hid (∀ W, Below W0.heap.size W0 W → W.cell? ⟨w.heap.size, 0, none⟩ = some (.func (.func 91) #[] #[]) ∧ w.heap.size < W.heap.size) := Lib.hid (by
    rw [hW0]; exact fun W hW => ⟨(hW.cell (p := ⟨w.heap.size, 0, none⟩) (by simp)).trans (cell_new _ _ rfl _ _ 0 _ rfl), by have := hW.size; simp only [World.size_alloc] at this; omega⟩)
  have HA : Hid (∀ W, Below W0.heap.size W0 W → SlAt W 6 Ino.cells va xs) := Lib.hid fun W hW => h1.below (HW.out.trans (hW.mono HW.out.size))
  have HV : Hid (∀ W, Below W0.heap.size W0 W → SlAt W 6 Ino.cells vb ys) := Lib.hid fun W hW => h2.below (HW.out.trans (hW.mono HW.out.size))
  obtain ⟨aa, ac, rfl⟩ := h1.len
  clear h1 h2
  go_enter Tryz.func89, Tryz.ntmps89
  go_wp2_with fail
  rw [← hW0]
  have HW0 := Lib.hid hW0
  clear hW0
  go_wp2
  go_loopg [7, 12] (xs.length) (fun gg s7 s12 wr => ∃ i : Nat, s12 = .int .i64 i ∧ i ≤ xs.length ∧ xs.length - i ≤ gg ∧ Aside (wr.ownsRow W0.heap.size 62 6 s7 (alone (xs.take i) ys (fun x y => decide (x.id = y.id))).length ((alone (xs.take i) ys (fun x y => decide (x.id = y.id))).flatMap Ino.cells)) ∧ Aside (Below W0.heap.size W0 wr))
  case atStart => exact ⟨0, rfl, Nat.zero_le _, by omega, (show Aside _ from World.ownsRow_nil _ _ _ _), (show Aside _ from Below.refl _ _)⟩
  case round =>
    obtain ⟨i, rfl, hil, hgg, hrow, hB⟩ := hrel
    have hi0 : (0 : Int) ≤ (i : Int) := by omega
    have hwi : IntKind.i64.wrap ((i : Int) + 1) = (i : Int) + 1 := wrapNat (i + 1) (by omega)
    by_cases hlt : i < xs.length
    · have hlti : (i : Int) < (xs.length : Int) := by omega
      obtain ⟨bb, off, rfl, hbl, hcells⟩ := slAt_at (HA.out wr hB.out) hlt
      obtain ⟨x0, x1, x2, x3, x4, x5⟩ := cellsIno hcells i hlt
      have hst := alone_take xs ys (fun x y => decide (x.id = y.id)) i hlt
      have HKV : Hid ((alone (xs.take i) ys (fun x y => decide (x.id = y.id))).length ≤ 1000) := Lib.hid (by have := alone_len (xs.take i) ys (fun x y => decide (x.id = y.id)); rw [List.length_take] at this; omega)
      clear hcells
      generalize xs[i]! = x at x0 x1 x2 x3 x4 x5 hst
      have hV1 : Below wr.heap.size wr (wr.alloc (.cells #[.int .i64 x.id.t, .int .i64 x.id.r, .int .i64 x.kind, .int .i64 x.links, .int .i64 x.mode, .string x.data] 62)) := ((New.refl wr).alloc _).below
      have hV0 := hB.out.trans (hV1.mono hB.out.size)
      have HX : Hid (∀ W, Below (wr.alloc (.cells #[.int .i64 x.id.t, .int .i64 x.id.r, .int .i64 x.kind, .int .i64 x.links, .int .i64 x.mode, .string x.data] 62)).heap.size (wr.alloc (.cells #[.int .i64 x.id.t, .int .i64 x.id.r, .int .i64 x.kind, .int .i64 x.links, .int .i64 x.mode, .string x.data] 62)) W → (W.cell? ⟨wr.heap.size, 0, none⟩ = some (.int .i64 x.id.t) ∧ W.cell? ⟨wr.heap.size, 1, none⟩ = some (.int .i64 x.id.r) ∧ W.cell? ⟨wr.heap.size, 2, none⟩ = some (.int .i64 x.kind) ∧ W.cell? ⟨wr.heap.size, 3, none⟩ = some (.int .i64 x.links) ∧ W.cell? ⟨wr.heap.size, 4, none⟩ = some (.int .i64 x.mode) ∧ W.cell? ⟨wr.heap.size, 5, none⟩ = some (.string x.data) ∧ wr.heap.size < W.heap.size)) := Lib.hid fun W hW => ⟨(hW.cell (p := ⟨_, 0, none⟩) (by simp)).trans (cell_new _ _ rfl _ _ 0 _ rfl), (hW.cell (p := ⟨_, 1, none⟩) (by simp)).trans (cell_new _ _ rfl _ _ 1 _ rfl), (hW.cell (p := ⟨_, 2, none⟩) (by simp)).trans (cell_new _ _ rfl _ _ 2 _ rfl), (hW.cell (p := ⟨_, 3, none⟩) (by simp)).trans (cell_new _ _ rfl _ _ 3 _ rfl), (hW.cell (p := ⟨_, 4, none⟩) (by simp)).trans (cell_new _ _ rfl _ _ 4 _ rfl), (hW.cell (p := ⟨_, 5, none⟩) (by simp)).trans (cell_new _ _ rfl _ _ 5 _ rfl), by have := hW.size; simp at this; omega⟩
      have hcon := containsIno (fun y => decide (x.id = y.id)) 137 #[.pointer (some ⟨w.heap.size, 0, none⟩), .pointer (some ⟨wr.heap.size, 0, none⟩)] (enters_of Tryz.func137 (by kernel_rfl) rfl) vb ys (wr.alloc (.cells #[.int .i64 x.id.t, .int .i64 x.id.r, .int .i64 x.kind, .int .i64 x.links, .int .i64 x.mode, .string x.data] 62)) (HV.out _ hV0) hy
        (fun W y hW => aloneN1 w.heap.size wr.heap.size x y W (HF.out W (hV0.trans (hW.mono hV0.size))).1 (HF.out W (hV0.trans (hW.mono hV0.size))).2 (HX.out W hW))
      have hrow4 : Hid (∀ w4, Below (wr.alloc (.cells #[.int .i64 x.id.t, .int .i64 x.id.r, .int .i64 x.kind, .int .i64 x.links, .int .i64 x.mode, .string x.data] 62)).heap.size (wr.alloc (.cells #[.int .i64 x.id.t, .int .i64 x.id.r, .int .i64 x.kind, .int .i64 x.links, .int .i64 x.mode, .string x.data] 62)) w4 → w4.ownsRow W0.heap.size 62 6 u7 (alone (xs.take i) ys (fun x y => decide (x.id = y.id))).length ((alone (xs.take i) ys (fun x y => decide (x.id = y.id))).flatMap Ino.cells) ∧ Below W0.heap.size W0 w4) := Lib.hid fun w4 hb4 =>
        ⟨by
          have hro := hrow.out
          exact ownsRow_kept hro fun j hj => by
            rw [hb4.block j (by simp only [World.size_alloc]; omega)]; exact Below.heap_alloc _ _ _ (by omega), hV0.trans (hb4.mono hV0.size)⟩
      have HCON0 := Lib.hid hcon
      clear hcon hV0 hV1
      cases hany : ys.any (fun y => decide (x.id = y.id)) with
      | true =>
        rw [hany] at HCON0 hst
        have HCON := Lib.hid HCON0.out
        have HST := Lib.hid hst
        clear hst hany HCON0
        go_wp2_with fail
        refine HCON.out.mono ?_
        rintro e w4 ⟨rfl, hb4⟩
        have HR4 := Lib.hid (hrow4.out w4 hb4)
        clear hb4
        go_wp2
        go_roundg (xs.length - (i + 1))
        case measure => omega
        case rel => exact ⟨i + 1, by first | rfl | go_num, by omega, by omega, (show Aside _ from by have e := HST.out; rw [if_pos trivial, List.append_nil] at e; rw [e]; exact HR4.out.1), (show Aside _ from HR4.out.2)⟩
      | false =>
        rw [hany] at HCON0 hst
        have HCON := Lib.hid HCON0.out
        have HST := Lib.hid hst
        clear hst hany HCON0
        go_wp2_with fail
        refine HCON.out.mono ?_
        rintro e w4 ⟨rfl, hb4⟩
        have HR4 := Lib.hid (hrow4.out w4 hb4)
        obtain ⟨y0, y1, y2, y3, y4, y5, yl⟩ := HX.out w4 hb4
        clear hb4
        generalize alone (xs.take i) ys (fun x y => decide (x.id = y.id)) = L at *
        go_wp2_with (at_builtin; refine wpList_append_own _ rfl _ _ 36 rfl W0.heap.size 62 i0 _ 6 56 Tryz.underlying36 hinf hz0 hz1 hz2 rfl (by decide) _ _ _ rfl (HR4.out.1.alloc _) ⟨w4.heap.size, 0, none⟩ 1 1 x.cells rfl rfl (cells_first w4 x.cells _) (Ino.one x) (by have := HKV.out; simp only [maxLen]; omega) (by have := HKV.out; omega) (by have := HR4.out.2.size; simp only [World.size_alloc]; omega) ?_; intro v' w5 hown' hgrow _; have HO := Lib.hid hown'; have HG := Lib.hid hgrow; clear hown' hgrow)
        go_roundg (xs.length - (i + 1))
        case measure => omega
        case rel =>
          refine ⟨i + 1, by first | rfl | go_num, by omega, by omega, (show Aside _ from ?_), (show Aside _ from ?_)⟩
          · have e := HST.out
            rw [if_neg (by decide)] at e
            rw [e]
            have h := HO.out
            exact (by simpa using h : w5.ownsRow W0.heap.size 62 6 v' (L ++ [x]).length ((L ++ [x]).flatMap Ino.cells))
          · refine (HR4.out.2.alloc HR4.out.2.size _).grown HG.out (by have := HR4.out.2.size; simp only [World.size_alloc]; omega) (fun j ej => rowGe HR4.out.1 ej)
    · have hlti : ¬ (i : Int) < (xs.length : Int) := by omega
      obtain rfl : i = xs.length := by omega
      have HR : Hid (wr.ownsRow W0.heap.size 62 6 u7 (alone xs ys (fun x y => decide (x.id = y.id))).length ((alone xs ys (fun x y => decide (x.id = y.id))).flatMap Ino.cells)) := Lib.hid (by have := hrow.out; rw [List.take_length] at this; exact this)
      go_wp2
      go_ret
      exact ⟨u7, rfl, ownsRow_mono HR.out HW.out.size, HW.out.trans (hB.out.mono HW.out.size)⟩
end Go.Proofs.YtlokljaeknmdpaaGreat
