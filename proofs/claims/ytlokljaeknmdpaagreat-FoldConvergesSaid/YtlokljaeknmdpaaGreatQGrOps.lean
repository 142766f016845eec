/-
  graph.List, Parent, Under; condition: the graph is in order.
-/
import Derived.Test.YtlokljaeknmdpaaGreatQDel
namespace Go.Proofs.YtlokljaeknmdpaaGreat
open Go.RowKit Go.Shelf

theorem eqSt (a b : St) : (a.t == b.t && a.r == b.r) = decide (a = b) := by
  obtain ⟨a1, a2⟩ := a
  obtain ⟨b1, b2⟩ := b
  rw [Bool.eq_iff_iff]
  simp

set_option maxRecDepth 100000 in
set_option maxHeartbeats 400000 in
theorem list1_any (x : Ent) (id : St) (Ba : Nat) (w : World) (hB : Ba < w.heap.size) (h0 : w.cell? ⟨Ba, 0, none⟩ = some (.int .i64 id.t)) (h1 : w.cell? ⟨Ba, 1, none⟩ = some (.int .i64 id.r)) :
    Calls Tryz.prog 176 #[x.v, .pointer (some ⟨Ba, 0, none⟩)] w fun e w' => e = .returned (.bool (!decide (x.at_ = id))) ∧ Below w.heap.size w w' := by
  rw [← eqSt]
  unfold Ent.v
  go_enter Tryz.func176, Tryz.ntmps176
  go_wp2
  all_goals
    go_ret
    exact ⟨by simp [*], (Below.refl _ _).alloc (Nat.le_refl _) _⟩

set_option maxRecDepth 100000 in
set_option maxHeartbeats 400000 in
theorem list_any (gb mI mE : Nat) (g : Gr) (id : St) (w : World) (h : GrAt w gb mI mE g) (hs : RisesE g.e) (hl : g.e.length ≤ 1000) :
    Calls Tryz.prog 135 #[.pointer (some ⟨gb, 0, none⟩), id.v] w fun e w' => ∃ v : Value, e = .returned v ∧ w'.ownsRow w.heap.size 34 5 v (g.list id).length ((g.list id).flatMap Ent.cells) ∧ Below w.heap.size w w' := by
  have HE := Lib.hid (entries_any gb mI mE g (w.alloc (.cells #[.int .i64 id.t, .int .i64 id.r] 31)) (h.new (New.alloc' w _)) hs hl)
  have HD : Hid (∀ (v : Value) (W : World), Below (w.alloc (.cells #[.int .i64 id.t, .int .i64 id.r] 31)).heap.size (w.alloc (.cells #[.int .i64 id.t, .int .i64 id.r] 31)) W → W.ownsRow (w.alloc (.cells #[.int .i64 id.t, .int .i64 id.r] 31)).heap.size 34 5 v g.e.length (g.e.flatMap Ent.cells) →
      Calls Tryz.prog 175 #[v, .func (.func 176) #[] #[.pointer (some ⟨w.heap.size, 0, none⟩)]] W fun e w' => ∃ v' : Value, e = .returned v' ∧ w'.ownsRow (w.alloc (.cells #[.int .i64 id.t, .int .i64 id.r] 31)).heap.size 34 5 v' (g.list id).length ((g.list id).flatMap Ent.cells) ∧ Below (w.alloc (.cells #[.int .i64 id.t, .int .i64 id.r] 31)).heap.size W w') := Lib.hid fun v W hW hr => by
    have := deleteFunc_any (fun x => !decide (x.at_ = id)) 176 #[.pointer (some ⟨w.heap.size, 0, none⟩)] (enters_of Tryz.func176 (by kernel_rfl) rfl) _ v g.e W hW.size hr hl (fun W' x hb => by
      have hb2 := hW.trans hb
      have a := after1 hb2
      exact list1_any x id w.heap.size W' (by have := hb2.size; simp at this; omega) (a.1 0 _ rfl) (a.1 1 _ rfl))
    have e : (g.e.filter fun x => !(!decide (x.at_ = id))) = g.list id := by
      unfold Gr.list
      congr 1
      funext x
      simp
    rw [e] at this
    exact this
  clear h
  unfold St.v
  go_enter Tryz.func135, Tryz.ntmps135
  go_wp2_with (first
    | (go_at_call 175; refine HD2.out.mono ?_; rintro e w2 ⟨v', rfl, h1, h2⟩; have H1 := Lib.hid h1; have H2 := Lib.hid h2; clear h1 h2)
    | (go_at_call 23; refine HE.out.mono ?_; rintro e w1 ⟨v, rfl, h1, h2⟩; have HB := Lib.hid h2; have HD2 := Lib.hid (HD.out v w1 h2 h1); clear h1 h2))
  go_ret
  exact ⟨v', rfl, ownsRow_mono H1.out (by simp), (((Below.refl _ w).alloc (Nat.le_refl _) _).trans (HB.out.mono (by simp))).trans (H2.out.mono (by simp))⟩

theorem slAt_own {w : World} {B : Nat} {v : Value} {zs : List Ent} (h : w.ownsRow B 34 5 v zs.length (zs.flatMap Ent.cells)) : SlAt w 5 Ent.cells v zs := SlAt.of_row (fun _ => rfl) h
theorem slAt_ownI {w : World} {B : Nat} {v : Value} {zs : List Ino} (h : w.ownsRow B 62 6 v zs.length (zs.flatMap Ino.cells)) : SlAt w 6 Ino.cells v zs := SlAt.of_row (fun _ => rfl) h

theorem below_set2 {B k : Nat} {w W : World} (h : Below B w W) (hk : B ≤ k) (v0 v1 : Value) : Below B w ((W.setCell ⟨k, 0, none⟩ v0).setCell ⟨k, 1, none⟩ v1) :=
  (h.setCell (p := ⟨k, 0, none⟩) hk v0).setCell (p := ⟨k, 1, none⟩) hk v1
theorem heap_set2 {W : World} {k : Nat} {a b : Value} {t : TypeId} {fz : Nat × Nat} (h : W.heap[k]? = some (.cells #[a, b] t fz)) (v0 v1 : Value) : ((W.setCell ⟨k, 0, none⟩ v0).setCell ⟨k, 1, none⟩ v1).heap[k]? = some (.cells #[v0, v1] t fz) :=
  heap_setCell_at (heap_setCell_at h 0 v0) 1 v1
theorem heap_set2_other {W : World} {k j : Nat} (h : j ≠ k) (v0 v1 : Value) : ((W.setCell ⟨k, 0, none⟩ v0).setCell ⟨k, 1, none⟩ v1).heap[j]? = W.heap[j]? :=
  (heap_setCell_other _ ⟨k, 1, none⟩ j _ h).trans (heap_setCell_other _ ⟨k, 0, none⟩ j _ h)
theorem St.three (x d : St) : x = d ∨ (x ≠ d ∧ (x.t == d.t) = false) ∨ ∃ r, x = ⟨d.t, r⟩ ∧ (⟨d.t, r⟩ : St) ≠ d ∧ (r == d.r) = false := by
  obtain ⟨a, b⟩ := x
  obtain ⟨c, e⟩ := d
  simp only [St.mk.injEq, beq_eq_false_iff_ne, ne_eq]
  by_cases h1 : a = c
  · by_cases h2 : b = e
    · exact .inl ⟨h1, h2⟩
    · exact .inr (.inr ⟨b, ⟨h1, rfl⟩, by simp [h2], h2⟩)
  · exact .inr (.inl ⟨by simp [h1], h1⟩)
theorem find_first {α : Type} [Inhabited α] (p : α → Bool) : ∀ (l : List α) (k : Nat), k < l.length → p l[k]! = true → (∀ j, j < k → p l[j]! = false) → l.find? p = some l[k]!
  | [], _, h, _, _ => absurd h (Nat.not_lt_zero _)
  | a :: l, 0, _, h, _ => by
    have : p a = true := by simpa using h
    rw [List.find?_cons, this]; simp
  | a :: l, k + 1, hk, h, hb => by
    have h0 : p a = false := by simpa using hb 0 (Nat.succ_pos _)
    rw [List.find?_cons, h0]
    have := find_first p l k (by simpa using hk) (by simpa using h) (fun j hj => by simpa using hb (j + 1) (by omega))
    simpa using this
theorem find_never {α : Type} [Inhabited α] (p : α → Bool) (l : List α) (h : ∀ j, j < l.length → p l[j]! = false) : l.find? p = none := by
  rw [List.find?_eq_none]
  intro x hx
  obtain ⟨j, hj, rfl⟩ := List.getElem_of_mem hx
  have := h j hj
  rw [getElem!_pos l j hj] at this
  simp [this]

set_option maxRecDepth 100000 in
set_option maxHeartbeats 2000000 in
theorem parent_any (gb mI mE : Nat) (g : Gr) (id : St) (w : World) (h : GrAt w gb mI mE g) (hn : RisesN g.n) (hs : RisesE g.e) (hl : g.e.length ≤ 1000) :
    Calls Tryz.prog 159 #[.pointer (some ⟨gb, 0, none⟩), id.v] w fun e w' => e = .returned (.tuple #[((g.parent id).getD ⟨0, 0⟩).v, .bool (g.parent id).isSome]) ∧ Below w.heap.size w w' := by
  have hN2 : New w ((w.alloc (.cells #[.int .i64 id.t, .int .i64 id.r] 31)).alloc (.cells #[.int .i64 0, .int .i64 0] 31)) := (New.alloc' w _).alloc _
  have HDr := Lib.hid (directory_g gb mI mE g id _ (h.new hN2) hn)
  have HE : Hid (∀ W, New ((w.alloc (.cells #[.int .i64 id.t, .int .i64 id.r] 31)).alloc (.cells #[.int .i64 0, .int .i64 0] 31)) W → Calls Tryz.prog 23 #[.pointer (some ⟨gb, 0, none⟩)] W fun e w' => ∃ v : Value, e = .returned v ∧ SlAt w' 5 Ent.cells v g.e ∧ Below W.heap.size W w') := Lib.hid fun W hW => (entries_any gb mI mE g W (h.new (hN2.trans hW)) hs hl).mono fun e w' ⟨v, h1, h2, h3⟩ => ⟨v, h1, slAt_own h2, h3⟩
  have HB0 := Lib.hid hN2.below
  have hlen : (g.e.length : Int) ≤ 1000 := by omega
  clear hN2 h
  unfold Gr.parent
  unfold St.v at HDr ⊢
  cases hd : g.isDir id with
  | false =>
    rw [hd] at HDr
    clear hd
    go_enter Tryz.func159, Tryz.ntmps159
    go_wp2_with (go_at_call 187; refine HDr.out.mono ?_; rintro e w1 ⟨rfl, hN⟩; obtain ⟨hc, hf⟩ := bnew hN; have HN := Lib.hid hN.below; clear hN)
    refine bodyPost_ret (v := .tuple #[(.agg #[.int .i64 0, .int .i64 0]), .bool false]) (by simp [results, Tryz.results159, go_sem, hc]) rfl ⟨rfl, ?_⟩
    exact below_set2 (HB0.out.trans (HN.out.mono HB0.out.size)) (Nat.le_succ _) _ _
  | true =>
    rw [hd] at HDr
    clear hd
    simp only [if_true]
    have HW : Hid (∀ W, Below ((w.alloc (.cells #[.int .i64 id.t, .int .i64 id.r] 31)).alloc (.cells #[.int .i64 0, .int .i64 0] 31)).heap.size ((w.alloc (.cells #[.int .i64 id.t, .int .i64 id.r] 31)).alloc (.cells #[.int .i64 0, .int .i64 0] 31)) W → W.cell? ⟨w.heap.size, 0, none⟩ = some (.int .i64 id.t) ∧ W.cell? ⟨w.heap.size, 1, none⟩ = some (.int .i64 id.r) ∧
        W.cell? ⟨w.heap.size + 1, 0, none⟩ = some (.int .i64 0) ∧ W.cell? ⟨w.heap.size + 1, 1, none⟩ = some (.int .i64 0) ∧ (∀ i, W.frozen? ⟨w.heap.size + 1, i, none⟩ = false) ∧ w.heap.size + 1 < W.heap.size) := Lib.hid fun W hW => by
      have hs := hW.size
      simp only [World.size_alloc] at hs
      have e1 : W.heap[w.heap.size + 1]? = some (.cells #[.int .i64 0, .int .i64 0] 31 (0, 0)) := (hW.block _ (by simp)).trans (by have := World.alloc_heap_new (w.alloc (.cells #[.int .i64 id.t, .int .i64 id.r] 31)) (.cells #[.int .i64 0, .int .i64 0] 31); simpa using this)
      have e0 : W.heap[w.heap.size]? = some (.cells #[.int .i64 id.t, .int .i64 id.r] 31 (0, 0)) := (hW.block _ (by simp only [World.size_alloc]; omega)).trans ((Below.heap_alloc _ _ _ (by simp)).trans (World.alloc_heap_new w (.cells #[.int .i64 id.t, .int .i64 id.r] 31)))
      exact ⟨cell_at e0 0 _ rfl, cell_at e0 1 _ rfl, cell_at e1 0 _ rfl, cell_at e1 1 _ rfl, fun i => frozen_at e1 i, by omega⟩
    go_enter Tryz.func159, Tryz.ntmps159
    go_wp2_with (first
      | (go_at_call 187; refine HDr.out.mono ?_; rintro e w1 ⟨rfl, hN⟩; have HE1 := Lib.hid (HE.out w1 hN); have HB1 := Lib.hid hN.below; clear hN)
      | (go_at_call 23; refine HE1.out.mono ?_; rintro e w2 ⟨v, rfl, h1, h2⟩; have HS := Lib.hid h1; have HB2 := Lib.hid (HB1.out.trans (h2.mono HB1.out.size)); obtain ⟨a, c, rfl⟩ := h1.len; clear h1 h2))
    clear HE1 HE HDr
    go_loopg [16] g.e.length (fun gg s16 wr => ∃ k : Nat, s16 = .int .i64 k ∧ k ≤ g.e.length ∧ g.e.length - k ≤ gg ∧ Aside (Below w2.heap.size w2 wr) ∧ Aside (∀ j, j < k → g.e[j]!.ino ≠ id))
    case atStart => exact ⟨0, rfl, Nat.zero_le _, by omega, Below.refl _ _, fun j hj => absurd hj (Nat.not_lt_zero _)⟩
    case round =>
      obtain ⟨k, rfl, hk, hgg, hB, hno⟩ := hrel
      have hBW := HB2.out.trans (hB.out.mono HB2.out.size)
      obtain ⟨c0, c1, r0, r1, fr, hsz⟩ := HW.out wr hBW
      have hsz0 : w.heap.size < wr.heap.size := by omega
      have f0 := fr 0
      have f1 := fr 1
      have HBW := Lib.hid hBW
      clear fr hBW
      by_cases hlt : k < g.e.length
      · have hlti : (k : Int) < (g.e.length : Int) := by omega
        have hk0 : (0 : Int) ≤ (k : Int) := by omega
        have hwk : IntKind.i64.wrap ((k : Int) + 1) = (k : Int) + 1 := wrapNat (k + 1) (by omega)
        obtain ⟨b, off, rfl, hbl, hcells⟩ : ∃ b off, a = some ⟨b, off, none⟩ ∧ b < wr.heap.size ∧ ∀ j, j < g.e.length → ∀ i u, (Ent.cells g.e[j]!)[i]? = some u → wr.cell? ⟨b, off + j * 5 + i, none⟩ = some u := by
          rcases HS.out.below hB.out with ⟨_, _, _, h0⟩ | ⟨b, off, c', h0, _, _, h3, h4⟩
          · rw [h0] at hlt; exact absurd hlt (Nat.not_lt_zero _)
          · simp at h0; exact ⟨b, off, h0.1, h3, h4⟩
        obtain ⟨x0, x1, x2, x3, x4⟩ := cellsEnt hcells k hlt
        clear hcells
        obtain ⟨x, hX⟩ : ∃ x, g.e[k]! = x := ⟨_, rfl⟩
        rw [hX] at x0 x1 x2 x3 x4
        have HX := Lib.hid hX
        clear hX
        go_wp2
        · have hxi : x.ino = id := by
            have h1 : x.ino.t = id.t := by assumption
            have h2 : x.ino.r = id.r := by assumption
            obtain ⟨i1, i2⟩ := id
            obtain ⟨_, _, j1, j2⟩ := x
            simp only at h1 h2
            simp [h1, h2]
          have hfi : (g.e.find? fun y => decide (y.ino = id)).map (·.at_) = some x.at_ := by
            rw [find_first (fun y : Ent => decide (y.ino = id)) g.e k hlt (by rw [HX.out]; simpa using hxi) (fun j hj => by simpa using hno.out j hj), HX.out]; rfl
          simp only [hfi, Option.getD_some, Option.isSome_some]
          refine bodyPost_ret (v := .tuple #[(.agg #[.int .i64 x.at_.t, .int .i64 x.at_.r]), .bool true]) (by simp [results, Tryz.results159, go_sem, r0, r1, hsz]) rfl ⟨rfl, ?_⟩
          exact (below_set2 (HB0.out.trans (HBW.out.mono HB0.out.size)) (Nat.le_succ _) _ _).alloc (by simp [World.setCell]; omega) _
        all_goals
          have hxi : x.ino ≠ id := by
            intro h
            subst h
            first
              | (have h1 : ¬ x.ino.t = x.ino.t := by assumption
                 exact h1 rfl)
              | (have h1 : ¬ x.ino.r = x.ino.r := by assumption
                 exact h1 rfl)
          go_roundg (g.e.length - (k + 1))
          case measure => omega
          case rel => exact ⟨k + 1, by first | rfl | go_num, by omega, by omega, (show Aside _ from hB.out.alloc hB.out.size _), (show Aside _ from fun j hj => by rcases Nat.lt_succ_iff_lt_or_eq.1 hj with h | h; exact hno.out j h; rw [h, HX.out]; exact hxi)⟩
      · have hlti : ¬ (k : Int) < (g.e.length : Int) := by omega
        go_wp2
        have hfi : (g.e.find? fun y => decide (y.ino = id)) = none := find_never _ _ fun j hj => by simpa using hno.out j (by omega)
        simp only [hfi, Option.map_none, Option.getD_none, Option.isSome_none]
        refine bodyPost_ret (v := .tuple #[(.agg #[.int .i64 0, .int .i64 0]), .bool false]) (by simp [results, Tryz.results159, go_sem, r0, r1]) rfl ⟨rfl, ?_⟩
        exact below_set2 (HB0.out.trans (HBW.out.mono HB0.out.size)) (Nat.le_succ _) _ _

set_option maxRecDepth 100000 in
set_option maxHeartbeats 2000000 in
theorem under_any (gb mI mE : Nat) (g : Gr) (a d : St) (w : World) (h : GrAt w gb mI mE g) (hok : g.Ok) (hl : g.e.length ≤ 1000) :
    Calls Tryz.prog 108 #[.pointer (some ⟨gb, 0, none⟩), a.v, d.v] w fun e w' => e = .returned (.bool (g.under a d)) ∧ Below w.heap.size w w' := by
  have HP : Hid (∀ (id : St) W, Below w.heap.size w W → Calls Tryz.prog 159 #[.pointer (some ⟨gb, 0, none⟩), (.agg #[.int .i64 id.t, .int .i64 id.r])] W fun e w' => e = .returned (.tuple #[((g.parent id).getD ⟨0, 0⟩).v, .bool (g.parent id).isSome]) ∧ Below W.heap.size W w') := Lib.hid fun id W hW => parent_any gb mI mE g id W (h.below hW) hok.sn hok.se hl
  have HOK := Lib.hid hok
  obtain ⟨r, hr⟩ := hok.ends_up
  have HR := Lib.hid hr
  have hbd : ∀ W, Below ((w.alloc (.cells #[.int .i64 a.t, .int .i64 a.r] 31)).alloc (.cells #[.int .i64 d.t, .int .i64 d.r] 31)).heap.size ((w.alloc (.cells #[.int .i64 a.t, .int .i64 a.r] 31)).alloc (.cells #[.int .i64 d.t, .int .i64 d.r] 31)) W → True := fun _ _ => trivial
  clear hr hok h hbd
  unfold St.v
  go_enter Tryz.func108, Tryz.ntmps108
  go_wp2
  -- slot 4: the box of what is looked at (it turns), slot 5: the box of d
  go_loopg [7] (r a + 1) (fun gg s7 wr => ∃ (o : Option St) (x : St), s7 = .bool o.isSome ∧ (o.isSome = true → o = some x ∧ r x + 1 ≤ gg) ∧ Aside (Below w.heap.size w wr) ∧ Aside (wr.heap[w.heap.size]? = some (.cells #[.int .i64 x.t, .int .i64 x.r] 31 (0, 0)) ∧ wr.heap[w.heap.size + 1]? = some (.cells #[.int .i64 d.t, .int .i64 d.r] 31 (0, 0))) ∧
      Aside (match o with | some x => (g.Under d a ↔ g.Under d x) | none => ¬ g.Under d a))
  case atStart =>
    refine ⟨some a, a, rfl, fun _ => ⟨rfl, Nat.le_refl _⟩, (show Aside _ from ((Below.refl _ w).alloc (Nat.le_refl _) _).alloc (by simp) _), (show Aside _ from ⟨?_, ?_⟩), (show Aside _ from Iff.rfl)⟩
    · exact (Below.heap_alloc _ _ _ (by simp)).trans (World.alloc_heap_new w (.cells #[.int .i64 a.t, .int .i64 a.r] 31))
    · have := World.alloc_heap_new (w.alloc (.cells #[.int .i64 a.t, .int .i64 a.r] 31)) (.cells #[.int .i64 d.t, .int .i64 d.r] 31)
      simpa using this
  case round =>
    obtain ⟨o, x, rfl, hox, hB, hcs, hU⟩ := hrel
    cases o with
    | none =>
      clear hox
      go_wp2
      go_ret
      refine ⟨?_, hB.out⟩
      have : g.under a d = false := by
        rw [Bool.eq_false_iff]
        intro h
        exact hU.out (Gr.under_iff.1 h)
      rw [this]
      rfl
    | some x' =>
      obtain ⟨hxx, hgg⟩ := hox rfl
      obtain rfl : x' = x := Option.some.inj hxx
      clear hox hxx
      have hsz : w.heap.size + 1 < wr.heap.size := (Array.getElem?_eq_some_iff.1 hcs.out.2).1
      have hsz0 : w.heap.size < wr.heap.size := by omega
      have c0 : wr.cell? ⟨w.heap.size, 0, none⟩ = some (.int .i64 x'.t) := cell_at hcs.out.1 0 _ rfl
      have c1 : wr.cell? ⟨w.heap.size, 1, none⟩ = some (.int .i64 x'.r) := cell_at hcs.out.1 1 _ rfl
      have d0 : wr.cell? ⟨w.heap.size + 1, 0, none⟩ = some (.int .i64 d.t) := cell_at hcs.out.2 0 _ rfl
      have d1 : wr.cell? ⟨w.heap.size + 1, 1, none⟩ = some (.int .i64 d.r) := cell_at hcs.out.2 1 _ rfl
      have hpar := HP.out x' wr hB.out
      have HF : Hid (∀ W, Below wr.heap.size wr W → W.cell? ⟨w.heap.size, 0, none⟩ = some (.int .i64 x'.t) ∧ W.cell? ⟨w.heap.size, 1, none⟩ = some (.int .i64 x'.r) ∧ W.frozen? ⟨w.heap.size, 0, none⟩ = false ∧ W.frozen? ⟨w.heap.size, 1, none⟩ = false ∧ w.heap.size < W.heap.size) := Lib.hid fun W hW => by
        have e := (hW.block _ hsz0).trans hcs.out.1
        exact ⟨cell_at e 0 _ rfl, cell_at e 1 _ rfl, frozen_at e 0, frozen_at e 1, (Array.getElem?_eq_some_iff.1 e).1⟩
      rcases St.three x' d with rfl | hne
      · clear hpar HF hgg
        go_wp2
        go_ret
        have : g.under a x' = true := Gr.under_iff.2 (hU.out.2 .here)
        rw [this]
        exact ⟨rfl, hB.out⟩
      · have HNE : Hid (x' ≠ d) := Lib.hid (by rcases hne with ⟨h, _⟩ | ⟨r, rfl, h, _⟩ <;> exact h)
        have hnx : ∀ p, g.parent x' = some p → r p + 1 ≤ r x' := fun p hp => HR.out _ _ hp
        have hup : ∀ p, g.parent x' = some p → (g.Under d a ↔ g.Under d p) := fun p hp => hU.out.trans ⟨fun h => h.up HNE.out hp, fun h => .step hp h⟩
        have hno : g.parent x' = none → ¬ g.Under d a := fun hp h => by
          rcases (hU.out.1 h).inv with h | ⟨p, h, _⟩
          · exact HNE.out h
          · rw [hp] at h; cases h
        have HNX := Lib.hid hnx
        have HUP := Lib.hid hup
        have HNO := Lib.hid hno
        have HCS := Lib.hid hcs.out
        clear hnx hup hno
        generalize hpo : g.parent x' = po at hpar HNX HUP HNO
        have HPO : Hid (∀ p, po = some p → r p + 1 < gk) := Lib.hid fun p hp => by have := HNX.out p hp; omega
        have hgk : 0 < gk := by omega
        clear hpo HNX
        unfold St.v at hpar
        rcases hne with ⟨_, e0⟩ | ⟨xr, hxe, _, e1⟩
        rotate_left 1
        subst hxe
        all_goals
          go_wp2_with (go_at_call 159; refine hpar.mono ?_; rintro e w1 ⟨rfl, hb⟩; obtain ⟨q0, q1, f0, f1, hs1⟩ := HF.out w1 hb; have HB1 := Lib.hid hb; clear hb)
          have HB2 : Hid (Below w.heap.size w w1) := Lib.hid (hB.out.trans (HB1.out.mono hB.out.size))
          have HC2 : Hid (w1.heap[w.heap.size + 1]? = some (.cells #[.int .i64 d.t, .int .i64 d.r] 31 (0, 0))) := Lib.hid ((HB1.out.block _ hsz).trans HCS.out.2)
          have HC1 := Lib.hid ((HB1.out.block _ hsz0).trans HCS.out.1)
          cases po with
          | none =>
            go_roundg 0
            case measure => omega
            case rel => exact ⟨none, ⟨0, 0⟩, rfl, (fun h => by cases h), (show Aside _ from below_set2 HB2.out (Nat.le_refl _) _ _), (show Aside _ from ⟨heap_set2 HC1.out _ _, (heap_set2_other (by omega) _ _).trans HC2.out⟩), (show Aside _ from HNO.out rfl)⟩
          | some p =>
            go_roundg (r p + 1)
            case measure => have := HPO.out p rfl; omega
            case rel => exact ⟨some p, p, rfl, (fun _ => ⟨rfl, Nat.le_refl _⟩), (show Aside _ from below_set2 HB2.out (Nat.le_refl _) _ _), (show Aside _ from ⟨heap_set2 HC1.out _ _, (heap_set2_other (by omega) _ _).trans HC2.out⟩), (show Aside _ from HUP.out p rfl)⟩
end Go.Proofs.YtlokljaeknmdpaaGreat
