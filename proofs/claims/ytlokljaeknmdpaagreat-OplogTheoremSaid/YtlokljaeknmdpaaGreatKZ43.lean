/-
  The log of operations in memory; no condition. · slices.Clone at records; what a log tells: Graph, Base, Ops, Floor; condition: the log is in order. · The iterator of slices.Backward at a list of records; condition: at most 1000 of them.
-/
import Derived.Test.YtlokljaeknmdpaaGreatKZ35
import Derived.Test.YtlokljaeknmdpaaGreatKZ40
import Derived.Test.YtlokljaeknmdpaaGreatKZ41
import Derived.Test.YtlokljaeknmdpaaGreatKZ42
import Derived.ArgAppend
import Derived.Test.YtlokljaeknmdpaaGreatKZ13
/-! ## Log -/
namespace Go.Proofs.YtlokljaeknmdpaaGreat
open Go.RowKit Go.Shelf Go.Proofs
open L12 (Raw Raw.cells infoRec)

/-- all blocks but three are kept -/
structure But3 (a b c : Nat) (w w' : World) : Prop where
  os : w'.os = w.os
  tape : w'.tape = w.tape
  output : w'.output = w.output
  size : w.heap.size ≤ w'.heap.size
  block : ∀ k, k < w.heap.size → k ≠ a → k ≠ b → k ≠ c → w'.heap[k]? = w.heap[k]?
section
variable {a b c : Nat} {w w' w'' : World}
theorem But3.refl (w : World) : But3 a b c w w := ⟨rfl, rfl, rfl, Nat.le_refl _, fun _ _ _ _ _ => rfl⟩
theorem But3.trans (h : But3 a b c w w') (k : But3 a b c w' w'') : But3 a b c w w'' :=
  ⟨k.os.trans h.os, k.tape.trans h.tape, k.output.trans h.output, Nat.le_trans h.size k.size, fun i hi h1 h2 h3 => (k.block i (Nat.lt_of_lt_of_le hi h.size) h1 h2 h3).trans (h.block i hi h1 h2 h3)⟩
theorem But3.of_below (h : Below w.heap.size w w') : But3 a b c w w' := ⟨h.os, h.tape, h.output, h.size, fun k hk _ _ _ => h.block k hk⟩
theorem But3.of_turn (h : Turn (Maps2 b c) w w') : But3 a b c w w' := ⟨h.os, h.tape, h.output, h.size, fun k hk _ h2 h3 => h.block k hk fun hm => hm.elim h2 h3⟩
theorem But3.below {B : Nat} (h : But3 a b c w w') (hB : B ≤ w.heap.size) (h1 : B ≤ a) (h2 : B ≤ b) (h3 : B ≤ c) : Below B w w' :=
  ⟨h.os, h.tape, h.output, h.size, fun k hk => h.block k (by omega) (by omega) (by omega) (by omega)⟩
theorem But3.setCell (h : But3 a b c w w') (i : Nat) (v : Value) : But3 a b c w (w'.setCell ⟨a, i, none⟩ v) :=
  ⟨h.os, h.tape, h.output, by rw [size_setCell']; exact h.size, fun k hk h1 h2 h3 => (Below.heap_setCell _ _ _ k h1).trans (h.block k hk h1 h2 h3)⟩
/-- a row of another type is kept -/
theorem row_but {B k n : Nat} {t : TypeId} {v : Value} {xs : List Value} (h : w.ownsRow B t k v n xs) (hk : ∀ (j : Nat) (cs : Array Value) (fz : Nat × Nat), w.heap[j]? = some (Obj.cells cs t fz) → w'.heap[j]? = w.heap[j]?) : w'.ownsRow B t k v n xs := by
  refine ⟨h.1, ?_⟩
  rcases h.2 with h0 | ⟨g, cap, cur, hv, hb, hh, rest⟩
  · exact .inl h0
  · exact .inr ⟨g, cap, cur, hv, hb, (hk g _ _ hh).trans hh, rest⟩
/-- what lies at a log's block and at its graph's maps -/
def LogBlocks (w : World) (a b c : Nat) : Prop := (∃ cs fz, w.heap[a]? = some (Obj.cells cs 132 fz)) ∧ (∃ es n, w.heap[b]? = some (Obj.map es n)) ∧ ∃ es n, w.heap[c]? = some (Obj.map es n)
theorem But3.rows (h : But3 a b c w w') (hl : LogBlocks w a b c) {B k n : Nat} {t : TypeId} {v : Value} {xs : List Value} (ht : t ≠ 132) (hr : w.ownsRow B t k v n xs) : w'.ownsRow B t k v n xs := by
  obtain ⟨⟨c1, f1, h1⟩, ⟨e2, n2, h2⟩, ⟨e3, n3, h3⟩⟩ := hl
  refine row_but hr fun j cs fz hj => h.block j (Array.getElem?_eq_some_iff.1 hj).1 ?_ ?_ ?_
  · rintro rfl; rw [hj] at h1; simp only [Option.some.injEq, Obj.cells.injEq] at h1; exact ht h1.2.1
  · rintro rfl; rw [hj] at h2; cases h2
  · rintro rfl; rw [hj] at h3; cases h3
theorem But3.cellsAt (h : But3 a b c w w') (hl : LogBlocks w a b c) {j : Nat} {t : TypeId} {cs : Array Value} {fz : Nat × Nat} (ht : t ≠ 132) (hj : w.heap[j]? = some (.cells cs t fz)) : w'.heap[j]? = some (.cells cs t fz) := by
  obtain ⟨⟨c1, f1, h1⟩, ⟨e2, n2, h2⟩, ⟨e3, n3, h3⟩⟩ := hl
  refine (h.block j (Array.getElem?_eq_some_iff.1 hj).1 ?_ ?_ ?_).trans hj
  · rintro rfl; rw [hj] at h1; simp only [Option.some.injEq, Obj.cells.injEq] at h1; exact ht h1.2.1
  · rintro rfl; rw [hj] at h2; cases h2
  · rintro rfl; rw [hj] at h3; cases h3
theorem But3.recAt (h : But3 a b c w w') (hl : LogBlocks w a b c) {B : Nat} {v1 v2 v3 v4 : Value} {r : Rec} (hr : RecAt B w v1 v2 v3 v4 r) : RecAt B w' v1 v2 v3 v4 r :=
  ⟨h.rows hl (by decide) hr.1, h.rows hl (by decide) hr.2.1, h.rows hl (by decide) hr.2.2.1, h.rows hl (by decide) hr.2.2.2⟩
theorem GrAt.maps {gb mI mE : Nat} {g : Gr} (h : GrAt w gb mI mE g) : (∃ es n, w.heap[mI]? = some (Obj.map es n)) ∧ ∃ es n, w.heap[mE]? = some (Obj.map es n) := by
  obtain ⟨kI, ⟨eI, cI, hI, _⟩, _⟩ := h.nodes
  obtain ⟨kE, ⟨eE, cE, hE, _⟩, _⟩ := h.ents
  exact ⟨⟨_, _, hI⟩, _, _, hE⟩
/-- another graph is kept -/
theorem But3.graph (h : But3 a b c w w') (hl : LogBlocks w a b c) {gb mI mE : Nat} {g : Gr} (hg : GrAt w gb mI mE g) (h1 : mI ≠ b) (h2 : mI ≠ c) (h3 : mE ≠ b) (h4 : mE ≠ c) : GrAt w' gb mI mE g := by
  obtain ⟨⟨e1, n1, k1⟩, ⟨e2, n2, k2⟩⟩ := hg.maps
  have hl' := hl
  obtain ⟨⟨c1, f1, m1⟩, _⟩ := hl'
  refine hg.kept ((h.cellsAt hl (by decide) hg.box).trans hg.box.symm) (h.block _ hg.lt.2.1 ?_ h1 h2) (h.block _ hg.lt.2.2 ?_ h3 h4)
  · rintro rfl; rw [k1] at m1; cases m1
  · rintro rfl; rw [k2] at m1; cases m1
end

/-- the graph behind the first operations -/
noncomputable def gAt (base : Gr) (l : List Op) (j : Nat) : Gr := (l.take j).foldl Gr.apply base
theorem gAt_step (base : Gr) (l : List Op) (j : Nat) (h : j < l.length) : gAt base l (j + 1) = (gAt base l j).apply l[j]! := fold_step base l j h
theorem gAt_ok {base : Gr} (h : base.Ok) (l : List Op) (j : Nat) : (gAt base l j).Ok := runs_ok _ h
theorem gAt_thin {base : Gr} (h : base.Thin) (l : List Op) (j : Nat) : (gAt base l j).Thin := runs_thin _ h
theorem gAt_all (base : Gr) (l : List Op) : gAt base l l.length = l.foldl Gr.apply base := by unfold gAt; rw [List.take_length]
theorem gAt_back {base : Gr} (h : base.Ok) (l : List Op) (q : Nat) (hq : q < l.length) : (gAt base l (q + 1)).back (diffOf (gAt base l q) (gAt base l (q + 1))) = gAt base l q := by
  rw [gAt_step base l q hq]
  exact (gAt_ok h l q).back_apply l[q]!
theorem gAt_congr (base : Gr) {l l' : List Op} {j : Nat} (h : l.take j = l'.take j) : gAt base l j = gAt base l' j := by unfold gAt; rw [h]
theorem gAt_drop (base : Gr) (l : List Op) (k j : Nat) : gAt (gAt base l k) (l.drop k) j = gAt base l (k + j) := by
  unfold gAt
  rw [List.take_add, List.foldl_append]
/-- the records of the first n operations -/
def RecsOf (B : Nat) (base : Gr) (l : List Op) (n : Nat) (rs : List Raw) (w : World) : Prop := rs.length = n ∧ ∀ j, j < n → RecAt B w rs[j]!.a rs[j]!.b rs[j]!.c rs[j]!.d (diffOf (gAt base l j) (gAt base l (j + 1)))
theorem RecsOf.to {B C n : Nat} {base : Gr} {l : List Op} {rs : List Raw} {w w' : World} (h : RecsOf B base l n rs w) (hk : ∀ v1 v2 v3 v4 r, RecAt B w v1 v2 v3 v4 r → RecAt C w' v1 v2 v3 v4 r) : RecsOf C base l n rs w' := ⟨h.1, fun j hj => hk _ _ _ _ _ (h.2 j hj)⟩
theorem RecsOf.snoc {B n : Nat} {base : Gr} {l : List Op} {rs : List Raw} {w : World} (h : RecsOf B base l n rs w) {v1 v2 v3 v4 : Value} (e : Int) (hr : RecAt B w v1 v2 v3 v4 (diffOf (gAt base l n) (gAt base l (n + 1)))) :
    RecsOf B base l (n + 1) (rs ++ [⟨v1, v2, v3, v4, e⟩]) w := by
  refine ⟨by rw [List.length_append, h.1]; rfl, fun j hj => ?_⟩
  have hl := h.1
  by_cases hjn : j < n
  · have e : (rs ++ [(⟨v1, v2, v3, v4, e⟩ : Raw)])[j]! = rs[j]! := by
      rw [getElem!_pos _ j (by rw [List.length_append]; omega), getElem!_pos rs j (by omega), List.getElem_append_left (by omega)]
    rw [e]
    exact h.2 j hjn
  · obtain rfl : j = n := by omega
    have e : (rs ++ [(⟨v1, v2, v3, v4, e⟩ : Raw)])[j]! = ⟨v1, v2, v3, v4, e⟩ := by
      rw [getElem!_pos _ j (by rw [List.length_append, List.length_singleton]; omega), List.getElem_append_right (by omega)]
      simp [hl]
    rw [e]
    exact hr
theorem RecsOf.take {B n k : Nat} {base : Gr} {l l' : List Op} {rs : List Raw} {w : World} (h : RecsOf B base l n rs w) (hk : k ≤ n) (hl : ∀ j, j ≤ k → l'.take j = l.take j) : RecsOf B base l' k (rs.take k) w := by
  have h1 := h.1
  refine ⟨by rw [List.length_take]; omega, fun j hj => ?_⟩
  have e : (rs.take k)[j]! = rs[j]! := by
    rw [getElem!_pos _ j (by rw [List.length_take]; omega), getElem!_pos rs j (by omega), List.getElem_take]
  rw [e, gAt_congr base (hl j (by omega)), gAt_congr base (hl (j + 1) (by omega))]
  exact h.2 j (by omega)
theorem RecsOf.drop {B n k : Nat} {base : Gr} {l : List Op} {rs : List Raw} {w : World} (h : RecsOf B base l n rs w) (hk : k ≤ n) : RecsOf B (gAt base l k) (l.drop k) (n - k) (rs.drop k) w := by
  have h1 := h.1
  refine ⟨by rw [List.length_drop]; omega, fun j hj => ?_⟩
  have e : (rs.drop k)[j]! = rs[k + j]! := by
    rw [getElem!_pos _ j (by rw [List.length_drop]; omega), getElem!_pos rs (k + j) (by omega), List.getElem_drop]
  rw [e, gAt_drop, gAt_drop]
  exact h.2 (k + j) (by omega)

/-- a log, its blocks from B on -/
structure LogAt (B : Nat) (w : World) (lb gb mI mE : Nat) (L : Lg) : Prop where
  parts : ∃ bb bI bE vo vr rs, w.heap[lb]? = some (.cells #[.pointer (some ⟨bb, 0, none⟩), .pointer (some ⟨gb, 0, none⟩), .int .i64 L.floor.t, .int .i64 L.floor.r, vo, vr] 132 (0, 0)) ∧ GrAt w bb bI bE L.base ∧
    OpsRow B vo L.ops w ∧ w.ownsRow B 44 5 vr L.ops.length (rs.flatMap Raw.cells) ∧ RecsOf B L.base L.ops L.ops.length rs w ∧ (B ≤ bb ∧ B ≤ bI ∧ B ≤ bE) ∧ (bI ≠ mI ∧ bI ≠ mE ∧ bE ≠ mI ∧ bE ≠ mE)
  g : GrAt w gb mI mE L.g
  ok : L.Ok
  small : ∀ o ∈ L.ops, o.Small
  few : L.ops.length ≤ 500
  ge : B ≤ lb ∧ B ≤ gb ∧ B ≤ mI ∧ B ≤ mE
section
variable {B : Nat} {w w' : World} {lb gb mI mE : Nat} {L : Lg}
theorem LogAt.blocks (h : LogAt B w lb gb mI mE L) : LogBlocks w lb mI mE := by
  obtain ⟨bb, bI, bE, vo, vr, rs, h1, _⟩ := h.parts
  exact ⟨⟨_, _, h1⟩, h.g.maps⟩
theorem LogAt.lt (h : LogAt B w lb gb mI mE L) : lb < w.heap.size ∧ gb < w.heap.size ∧ mI < w.heap.size ∧ mE < w.heap.size := by
  obtain ⟨bb, bI, bE, vo, vr, rs, h1, _⟩ := h.parts
  exact ⟨(Array.getElem?_eq_some_iff.1 h1).1, h.g.lt.1, h.g.lt.2.1, h.g.lt.2.2⟩
theorem LogAt.kept (h : LogAt B w lb gb mI mE L) (hk : ∀ j, B ≤ j → j < w.heap.size → w'.heap[j]? = w.heap[j]?) : LogAt B w' lb gb mI mE L := by
  obtain ⟨bb, bI, bE, vo, vr, rs, h1, h2, h3, h4, h5, h6, h7⟩ := h.parts
  have hg := h.g.lt
  have hb := h2.lt
  have hl := h.lt.1
  exact ⟨⟨bb, bI, bE, vo, vr, rs, (hk _ h.ge.1 hl).trans h1, h2.kept (hk _ h6.1 hb.1) (hk _ h6.2.1 hb.2.1) (hk _ h6.2.2 hb.2.2), ownsRow_keep h3 hk, ownsRow_keep h4 hk, h5.to fun _ _ _ _ _ hr => hr.kept hk, h6, h7⟩,
    h.g.kept (hk _ h.ge.2.1 hg.1) (hk _ h.ge.2.2.1 hg.2.1) (hk _ h.ge.2.2.2 hg.2.2), h.ok, h.small, h.few, h.ge⟩
theorem LogAt.below (h : LogAt B w lb gb mI mE L) (hb : Below w.heap.size w w') : LogAt B w' lb gb mI mE L := h.kept fun j _ hj => hb.block j hj
theorem LogAt.mono {C : Nat} (h : LogAt B w lb gb mI mE L) (hC : C ≤ B) : LogAt C w lb gb mI mE L := by
  obtain ⟨bb, bI, bE, vo, vr, rs, h1, h2, h3, h4, h5, h6, h7⟩ := h.parts
  exact ⟨⟨bb, bI, bE, vo, vr, rs, h1, h2, h3.mono hC, ownsRow_mono h4 hC, h5.to fun _ _ _ _ _ hr => hr.mono hC, by omega, h7⟩, h.g, h.ok, h.small, h.few, by have := h.ge; omega⟩
end
theorem log_cells {W : World} {B : Nat} {a b c d e f : Value} {t : TypeId} {fz : Nat × Nat} (h : W.heap[B]? = some (.cells #[a, b, c, d, e, f] t fz)) : W.cell? ⟨B, 0, none⟩ = some a ∧ W.cell? ⟨B, 1, none⟩ = some b ∧ W.cell? ⟨B, 2, none⟩ = some c ∧ W.cell? ⟨B, 3, none⟩ = some d ∧ W.cell? ⟨B, 4, none⟩ = some e ∧ W.cell? ⟨B, 5, none⟩ = some f := by
  simp [World.cell?, h]

theorem row_len5 {W : World} {B k n : Nat} {t : TypeId} {v : Value} {xs : List Value} (h : W.ownsRow B t k v n xs) : ∃ a c, v = .slice a n c := by
  rcases h.2 with ⟨rfl, rfl⟩ | ⟨g, cap, cur, rfl, _⟩
  · exact ⟨_, _, rfl⟩
  · exact ⟨_, _, rfl⟩
/-- a row of the call's own, or a slice with no room -/
def Fit (B : Nat) (w : World) (v : Value) (n : Nat) (xs : List Value) : Prop :=
  w.ownsRow B 44 5 v n xs ∨ (xs.length = n * 5 ∧ ∃ ao, v = .slice ao n n ∧ (ao = none → n = 0) ∧ ∀ b, ao = some b → ∀ j u, xs[j]? = some u → w.cell? (b.add j) = some u)
theorem Fit.shape {B : Nat} {w : World} {v : Value} {n : Nat} {xs : List Value} (h : Fit B w v n xs) : ∃ a c, v = .slice a n c := by
  rcases h with h | ⟨_, ao, rfl, _⟩
  · exact row_len5 h
  · exact ⟨_, _, rfl⟩
end Go.Proofs.YtlokljaeknmdpaaGreat

/-! ## LogA -/
namespace Go.Proofs.YtlokljaeknmdpaaGreat
open Go.RowKit Go.Shelf Go.Proofs
open L12 (Raw Raw.cells infoRec)

set_option maxRecDepth 100000 in
set_option maxHeartbeats 4000000 in
theorem clone_rec (v : Value) (l : List Raw) (w : World) (h : SlAt w 5 Raw.cells v l) (hl : l.length ≤ 1000) (hone : ∀ r ∈ l, ∀ u ∈ r.cells, u.oneCell' = true) :
    Calls Tryz.prog 100 #[v] w fun e w' => ∃ v', e = .returned v' ∧ w'.ownsRow w.heap.size 44 5 v' l.length (l.flatMap Raw.cells) ∧ Below w.heap.size w w' := by
  obtain ⟨i0, hinf, hz0, hz1, hz2⟩ := info_parts infoRec
  have hlen : (l.flatMap Raw.cells).length = l.length * 5 := flat_len (f := Raw.cells) (k := 5) (fun _ => rfl) l
  have hone : ∀ v ∈ l.flatMap Raw.cells, v.oneCell' = true := fun v hv => by
    obtain ⟨x, hx1, hx⟩ := List.mem_flatMap.1 hv
    exact hone x hx1 v hx
  have hsrc : ∀ a c, v = .slice (some a) l.length c → ∀ (W : World), (∀ x y, w.cell? x = some y → W.cell? x = some y) → ∀ j u, (l.flatMap Raw.cells)[j]? = some u → W.cell? (a.add j) = some u := fun a c hv W hW j u hj => by
    rcases h with ⟨_, _, _, h0⟩ | ⟨b, off, c', h0, _, _, _, h4⟩
    · rw [h0] at hj; simp at hj
    · rw [hv] at h0
      simp at h0
      obtain ⟨rfl, _⟩ := h0
      rw [Addr.add_lit]
      have hjl : j < l.length * 5 := by rw [← hlen]; exact (List.getElem?_eq_some_iff.1 hj).1
      have hq : j / 5 < l.length := by omega
      have := hW _ _ (h4 (j / 5) hq (j % 5) u (by
        have e := flatMap_at Raw.cells 5 (fun _ => rfl) l (j / 5) (j % 5) hq (by omega)
        rw [show j / 5 * 5 + j % 5 = j by omega] at e
        rw [← e]; exact hj))
      rw [← this]
      congr 2; omega
  obtain ⟨a, c, rfl⟩ := h.len
  have hnone : a = none → l = [] := fun e => by
    rcases h with ⟨_, _, _, h0⟩ | ⟨b, off, c', h0, _⟩
    · exact h0
    · rw [e] at h0; simp at h0
  clear h
  have q22 : ∀ (w : World) (a : Option Addr) (n c n' c' : Nat), (binOp .eql 42 (.slice a n c) (.slice none n' c')).run Tryz.prog w = .ok (.bool a.isNone) w := fun w a n c n' c' => Lib.run_eql_slice_nil w _ _ a n c n' c' Tryz.underlying42
  cases a with
  | none =>
    obtain rfl := hnone rfl
    go_enter Tryz.func100, Tryz.ntmps100
    go_wp2
    go_ret
    exact ⟨_, rfl, World.ownsRow_nil _ _ _ _, Below.refl _ _⟩
  | some a =>
    have hs := Lib.hid (hsrc a c rfl)
    clear hsrc hnone
    generalize l.flatMap Raw.cells = L at *
    generalize l.length = n at *
    go_enter Tryz.func100, Tryz.ntmps100
    go_wp2_with (at_builtin; refine wpList_append_own _ rfl _ _ 42 rfl w.heap.size 44 i0 _ 5 104 Tryz.underlying42 hinf hz0 hz1 hz2 rfl (by decide) _ _ _ rfl (World.ownsRow_made w #[] 0 (Nat.le_refl _) (Nat.zero_le _) (by simp)) a n c L rfl ?qc1 ?qc2 ?qc3 ?qc4 ?qc5 ?qc6 ?_)
    case qc1 => exact hlen
    case qc2 => exact hs.out _ fun x y hx => Lib.cell?_alloc_some _ hx
    case qc3 => exact hone
    case qc4 => rw [Nat.zero_add]; simp only [maxLen]; omega
    case qc5 => rw [Nat.zero_add]; omega
    case qc6 => simp
    intro v' w1 hown hgrow _
    go_wp2
    go_ret
    exact ⟨v', rfl, by simpa using hown, ((Below.refl _ w).alloc (Nat.le_refl _) _).grown hgrow (by simp) (by intro k hk; simp [Value.ownBlock] at hk; omega)⟩

/-- of a record in a row all parts are one cell -/
theorem RecsOf.one {B n : Nat} {base : Gr} {l : List Op} {rs : List Raw} {w : World} (h : RecsOf B base l n rs w) : ∀ r ∈ rs, ∀ u ∈ r.cells, u.oneCell' = true := by
  intro r hr u hu
  obtain ⟨j, hj, e⟩ := List.getElem_of_mem hr
  have h1 := h.2 j (by have := h.1; omega)
  rw [getElem!_pos rs j hj, e] at h1
  obtain ⟨a1, c1, e1⟩ := row_len5 h1.1
  obtain ⟨a2, c2, e2⟩ := row_len5 h1.2.1
  obtain ⟨a3, c3, e3⟩ := row_len5 h1.2.2.1
  obtain ⟨a4, c4, e4⟩ := row_len5 h1.2.2.2
  simp only [Raw.cells, List.mem_cons, List.not_mem_nil, or_false] at hu
  rcases hu with rfl | rfl | rfl | rfl | rfl
  · rw [e1]; rfl
  · rw [e2]; rfl
  · rw [e3]; rfl
  · rw [e4]; rfl
  · rfl

set_option maxRecDepth 100000 in
set_option maxHeartbeats 2000000 in
theorem graph_l (B lb gb mI mE : Nat) (L : Lg) (w : World) (h : LogAt B w lb gb mI mE L) : Calls Tryz.prog 49 #[.pointer (some ⟨lb, 0, none⟩)] w (MadeGr w L.g) := by
  have HC := Lib.hid (copy_g gb mI mE L.g w h.g)
  obtain ⟨bb, bI, bE, vo, vr, rs, h1, _⟩ := h.parts
  obtain ⟨c0, c1, c2, c3, c4, c5⟩ := log_cells h1
  clear h h1
  go_enter Tryz.func49, Tryz.ntmps49
  go_wp2_with fail
  refine HC.out.mono ?_
  rintro e w2 ⟨v2, rfl, k1, k2⟩
  have HK := Lib.hid k1
  have HB := Lib.hid k2
  clear k1 k2
  go_wp2
  go_ret
  exact ⟨_, rfl, HK.out, HB.out⟩

set_option maxRecDepth 100000 in
set_option maxHeartbeats 2000000 in
theorem base_l (B lb gb mI mE : Nat) (L : Lg) (w : World) (h : LogAt B w lb gb mI mE L) : Calls Tryz.prog 60 #[.pointer (some ⟨lb, 0, none⟩)] w (MadeGr w L.base) := by
  obtain ⟨bb, bI, bE, vo, vr, rs, h1, h2, _⟩ := h.parts
  have HC := Lib.hid (copy_g bb bI bE L.base w h2)
  obtain ⟨c0, c1, c2, c3, c4, c5⟩ := log_cells h1
  clear h h1 h2
  go_enter Tryz.func60, Tryz.ntmps60
  go_wp2_with fail
  refine HC.out.mono ?_
  rintro e w2 ⟨v2, rfl, k1, k2⟩
  have HK := Lib.hid k1
  have HB := Lib.hid k2
  clear k1 k2
  go_wp2
  go_ret
  exact ⟨_, rfl, HK.out, HB.out⟩

set_option maxRecDepth 100000 in
set_option maxHeartbeats 2000000 in
theorem ops_l (B lb gb mI mE : Nat) (L : Lg) (w : World) (h : LogAt B w lb gb mI mE L) : Calls Tryz.prog 50 #[.pointer (some ⟨lb, 0, none⟩)] w fun e w' => ∃ v', e = .returned v' ∧ OpsRow w.heap.size v' L.ops w' ∧ Below w.heap.size w w' := by
  obtain ⟨bb, bI, bE, vo, vr, rs, h1, _, h3, _⟩ := h.parts
  have HC := Lib.hid (clone_any vo L.ops w h3.sl (by have := h.few; omega))
  obtain ⟨c0, c1, c2, c3, c4, c5⟩ := log_cells h1
  clear h h1 h3
  go_enter Tryz.func50, Tryz.ntmps50
  go_wp2_with fail
  refine HC.out.mono ?_
  rintro e w2 ⟨v2, rfl, k1, k2⟩
  have HK := Lib.hid k1
  have HB := Lib.hid k2
  clear k1 k2
  go_wp2
  go_ret
  exact ⟨_, rfl, HK.out, HB.out⟩

set_option maxRecDepth 100000 in
set_option maxHeartbeats 2000000 in
theorem floor_l (B lb gb mI mE : Nat) (L : Lg) (w : World) (h : LogAt B w lb gb mI mE L) : Calls Tryz.prog 58 #[.pointer (some ⟨lb, 0, none⟩)] w fun e w' => e = .returned L.floor.v ∧ Below w.heap.size w w' := by
  obtain ⟨bb, bI, bE, vo, vr, rs, h1, _⟩ := h.parts
  obtain ⟨c0, c1, c2, c3, c4, c5⟩ := log_cells h1
  have hl := h.lt.1
  clear h h1
  unfold St.v
  go_enter Tryz.func58, Tryz.ntmps58
  go_wp2
  (try simp only [Exit.inBlock, Exit.then])
  refine bodyPost_ret (results_cell_row rfl _ _ w.heap.size 31 _ _ _ rfl (World.alloc_heap_new w _) Tryz.underlying31 rfl (by kernel_rfl)) rfl ?_
  exact ⟨rfl, (Below.refl _ w).alloc (Nat.le_refl _) _⟩
end Go.Proofs.YtlokljaeknmdpaaGreat

/-! ## BackR -/
namespace Go.Proofs.YtlokljaeknmdpaaGreat
open Go.RowKit Go.Shelf Go.Proofs
open L12 (Raw Raw.cells infoRec)

attribute [local go_sem] Oper.semAt_some

/-- the numbers of the first k of what comes -/
def backToR (n k : Nat) : List Nat := (List.range k).map fun j => n - 1 - j
theorem backToR_succ (n m k : Nat) (h : m + 1 + k = n) : backToR n (k + 1) = backToR n k ++ [m] := by
  have e : n - 1 - k = m := by omega
  simp [backToR, List.range_succ, e]
theorem backToR_len (n k : Nat) : (backToR n k).length = k := by simp [backToR]
def Raw.v (r : Raw) : Value := .agg #[r.a, r.b, r.c, r.d, .int .i64 r.e]
theorem cellsRaw {w : World} {zs : List Raw} {b off : Nat} (hc : ∀ j, j < zs.length → ∀ i u, (Raw.cells zs[j]!)[i]? = some u → w.cell? ⟨b, off + j * 5 + i, none⟩ = some u) (j : Nat) (hj : j < zs.length) :
    w.cell? ⟨b, off + j * 5, none⟩ = some zs[j]!.a ∧ w.cell? ⟨b, off + j * 5 + 1, none⟩ = some zs[j]!.b ∧ w.cell? ⟨b, off + j * 5 + 2, none⟩ = some zs[j]!.c ∧ w.cell? ⟨b, off + j * 5 + 3, none⟩ = some zs[j]!.d ∧ w.cell? ⟨b, off + j * 5 + 4, none⟩ = some (.int .i64 zs[j]!.e) := by
  have h := hc j hj
  generalize zs[j]! = x at h
  exact ⟨h 0 _ rfl, h 1 _ rfl, h 2 _ rfl, h 3 _ rfl, h 4 _ rfl⟩
/-- the parts are slices -/
def Raw.Flat (r : Raw) : Prop := ∃ p1 p2 p3 p4 n1 n2 n3 n4 c1 c2 c3 c4, r.a = .slice p1 n1 c1 ∧ r.b = .slice p2 n2 c2 ∧ r.c = .slice p3 n3 c3 ∧ r.d = .slice p4 n4 c4

set_option maxRecDepth 100000 in
set_option maxHeartbeats 1000000 in
theorem backR_in (F : Fence) (n : Nat) (hf : F.fn 154) (hro : F.round = none) (hn : 1 ≤ n) (l Bn n₁ : Nat) (v : Value) (xs : List Raw) (J Jx : List Nat → World → Prop) (W0 W : World)
    (hY : ∀ (pre : List Nat) (x : Nat) W1, J pre W1 → pre.length < xs.length → YieldAt F (n - 1) Tryz.prog l #[.int .i64 x, Raw.v xs[x]!] W1 fun e W' =>
      (e = .returned (.bool true) ∧ J (pre ++ [x]) W' ∧ CellsKept n₁ W1 W') ∨ (e = .returned (.bool false) ∧ Jx (pre ++ [x]) W'))
    (hz : xs.length ≤ 1000) (hfl : ∀ x ∈ xs, Raw.Flat x) (hs : SlAt W0 5 Raw.cells v xs) (hn1 : W0.heap.size ≤ n₁) (hW0 : CellsKept W0.heap.size W0 W) (hBn : Bn < n₁) (hc : W.cell? ⟨Bn, 0, none⟩ = some v) (h0 : J [] W) :
    CallsIn F n Tryz.prog 154 #[.func (.yield l) #[] #[], .pointer (some ⟨Bn, 0, none⟩)] W fun e W' => (∃ v, e = .returned v) ∧
      ((∃ ys, ys = backToR xs.length xs.length ∧ J ys W') ∨ (∃ pre, True ∧ Jx pre W')) := by
  obtain ⟨ea, ec, rfl⟩ := hs.len
  have HS := Lib.hid hs
  have HW0 := Lib.hid hW0
  have HJ0 := Lib.hid h0
  have HY := Lib.hid hY
  have HFL := Lib.hid hfl
  clear hs hW0 h0 hY hfl
  have hw0 : IntKind.i64.wrap ((xs.length : Int) - 1) = (xs.length : Int) - 1 := wrapInt _ (by omega) (by omega)
  refine callsIn_of_wp Tryz.func154 rfl hf ?_ hro
  simp only [Tryz.ntmps154, List.size_toArray, List.length_cons, List.length_nil, Nat.reduceAdd, Nat.reduceSub, Array.replicate_succ, Array.replicate_zero, List.push_toArray, List.append_toArray, List.nil_append, List.cons_append]
  gi_wp2
  gi_loopw [3] (fun p wr => ∃ (k m : Nat), m + k = xs.length ∧ p = .int .i64 ((m : Int) - 1) ∧ Hid (J (backToR xs.length k) wr) ∧ Hid (CellsKept n₁ W wr)) (fun p _ => (intOf p + 1).toNat)
  case atStart => exact ⟨0, xs.length, by omega, rfl, HJ0, Lib.hid (CellsKept.refl _ _)⟩
  case round =>
    obtain ⟨k, m, hkm, rfl, hj, hck⟩ := hrel
    cases m with
    | zero =>
      have hk : k = xs.length := by omega
      subst hk
      gi_wp2
      go_end0
      exact ⟨⟨_, rfl⟩, .inl ⟨_, rfl, hj.out⟩⟩
    | succ m =>
      have hmi : (m : Int) < (xs.length : Int) := by omega
      have hm0 : (0 : Int) ≤ (m : Int) := by omega
      have hm1 : ((m + 1 : Nat) : Int) - 1 = (m : Int) := by omega
      have hw : IntKind.i64.wrap ((m : Int) - 1) = (m : Int) - 1 := wrapInt _ (by omega) (by omega)
      rw [hm1]
      obtain ⟨b, off, hea, hbl, hcells⟩ : ∃ b off, ea = some ⟨b, off, none⟩ ∧ b < W0.heap.size ∧ ∀ j, j < xs.length → ∀ i u, (Raw.cells xs[j]!)[i]? = some u → wr.cell? ⟨b, off + j * 5 + i, none⟩ = some u := by
        rcases HS.out with ⟨_, _, _, h0⟩ | ⟨b, off, c', h0, _, _, h3, h4⟩
        · rw [h0] at hkm; simp at hkm
        · simp at h0
          exact ⟨b, off, h0.1, h3, fun j hj i u hu => (hck.out.cell _ (show b < n₁ by omega)).trans ((HW0.out.cell _ h3).trans (h4 j hj i u hu))⟩
      subst hea
      obtain ⟨x0, x1, x2, x3, x4⟩ := cellsRaw hcells m (by omega)
      obtain ⟨p1, p2, p3, p4, q1, q2, q3, q4, r1, r2, r3, r4, ea, eb, ec', ed⟩ := HFL.out xs[m]! (getElem!_mem (by omega))
      clear hcells
      have hc' : wr.cell? ⟨Bn, 0, none⟩ = some (.slice (some ⟨b, off, none⟩) xs.length ec) := (hck.out.cell _ hBn).trans hc
      have hsucc := Lib.hid (backToR_succ xs.length m k hkm)
      have hlen : (backToR xs.length k).length < xs.length := by rw [backToR_len]; omega
      have hyy := HY.out (backToR xs.length k) m wr hj.out hlen
      generalize xs[m]! = X at x0 x1 x2 x3 x4 ea eb ec' ed hyy
      rw [ea] at x0
      rw [eb] at x1
      rw [ec'] at x2
      rw [ed] at x3
      dsimp only [Raw.v] at hyy
      rw [ea, eb, ec', ed] at hyy
      obtain ⟨fn, tmps, assign, body, hy, hRR⟩ := hyy
      clear ea eb ec' ed
      gi_wp2
      refine hRR.mono ?_
      rintro e W4 (⟨rfl, hJ4, hk4⟩ | ⟨rfl, hJx4⟩)
      · have HJ4 := Lib.hid hJ4
        have HK4 := Lib.hid (hck.out.trans hk4)
        clear hJ4 hk4
        gi_wp2
        go_roundw
        case rel => exact ⟨k + 1, m, by omega, rfl, Lib.hid (by rw [hsucc.out]; exact HJ4.out), HK4⟩
        case measure => simp [intOf]
      · gi_wp2
        refine bodyPost_ret (results_none rfl _ _ _) rfl ?_
        exact ⟨⟨_, rfl⟩, .inr ⟨_, trivial, hJx4⟩⟩

/-- slices.Backward's value -/
theorem backwardR (a : Option Addr) (k c : Nat) (w : World) :
    Calls Tryz.prog 101 #[.slice a k c] w fun e w' => e = .returned (.func (.func 154) #[] #[.pointer (some ⟨w.heap.size, 0, none⟩)]) ∧ w' = w.alloc (.cells #[.slice a k c] 42) := by
  go_enter Tryz.func101, Tryz.ntmps101
  go_wp2
  go_ret
  exact ⟨rfl, rfl⟩

theorem backR_stops (F : Fence) (n : Nat) (hf : F.fn 154) (hro : F.round = none) (hn : 1 ≤ n) (Bn n₁ : Nat) (v : Value) (xs : List Raw) (w W0 : World) (hz : xs.length ≤ 1000) (hfl : ∀ x ∈ xs, Raw.Flat x) (hs : SlAt w 5 Raw.cells v xs) (hw : Below w.heap.size w W0) (hn1 : n₁ = W0.heap.size) (hBn : Bn < n₁) (hc : W0.cell? ⟨Bn, 0, none⟩ = some v) :
    SeqStopsK F n Tryz.prog 154 #[.pointer (some ⟨Bn, 0, none⟩)] (fun p : Nat => #[.int .i64 p, Raw.v xs[p]!]) (CellsKept n₁) (fun ys => ys = backToR xs.length xs.length) (fun _ => True) xs.length W0 := fun l J Jx W hW _ _ hY h0 => by
  subst hn1
  exact backR_in F n hf hro hn l Bn W0.heap.size v xs J Jx w W hY hz hfl hs hw.size ⟨Nat.le_trans hw.size hW.size, fun a ha => (World.cell?_of_block (hW.block _ (Nat.lt_of_lt_of_le ha hw.size))).trans (World.cell?_of_block (hw.block _ ha))⟩ hBn ((hW.cell (p := ⟨Bn, 0, none⟩) hBn).trans hc) h0
end Go.Proofs.YtlokljaeknmdpaaGreat
