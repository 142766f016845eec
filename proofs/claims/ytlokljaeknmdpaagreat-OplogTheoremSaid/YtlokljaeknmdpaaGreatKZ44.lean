/-
  (*oplog.Log).Add where nothing is added; condition: the log is in order. · Operations taken back, plainly, and what of it lies in memory; no condition. · append of one record to a row of the call's own, or to a slice that is full; what is kept by it; no condition. · A region that draws its order and ends in one operation that all others come ahead of: what its loads read holds till then; no condition.
-/
import Derived.Test.YtlokljaeknmdpaaGreatKZ43
import Derived.Deep.RegionHeld3
import Derived.Deep.LoopGhost
import Derived.BigQuiet
import Derived.StillTailTactics
import Derived.Lib.QuietBelow
import Derived.Test.YtlokljaeknmdpaaGreatKZ14
/-! ## LogB -/
namespace Go.Proofs.YtlokljaeknmdpaaGreat
open Go.RowKit Go.Shelf Go.Sort Go.Proofs
open L12 (Raw Raw.cells infoRec)

/-- the box of a log's pointer, the box of an operation, a log's block -/
def AddBox (W : World) (n lb : Nat) (o : Op) (c : Array Value) : Prop := W.heap[n]? = some (.cells #[.pointer (some ⟨lb, 0, none⟩)] 71 (0, 0)) ∧ W.heap[n + 1]? = some (.cells o.cells.toArray 47 (0, 0)) ∧ W.heap[lb]? = some (.cells c 132 (0, 0))
theorem op_cells {W : World} {n : Nat} {o : Op} {t : TypeId} {fz : Nat × Nat} (h : W.heap[n]? = some (.cells o.cells.toArray t fz)) : (W.cell? ⟨n, 0, none⟩ = some (.int .i64 o.stamp.t) ∧ W.cell? ⟨n, 1, none⟩ = some (.int .i64 o.stamp.r) ∧ W.cell? ⟨n, 2, none⟩ = some (.int .i64 o.kind) ∧ W.cell? ⟨n, 3, none⟩ = some (.int .i64 o.at_.t) ∧ W.cell? ⟨n, 4, none⟩ = some (.int .i64 o.at_.r) ∧ W.cell? ⟨n, 5, none⟩ = some (.int .i64 o.ino.t) ∧ W.cell? ⟨n, 6, none⟩ = some (.int .i64 o.ino.r) ∧ W.cell? ⟨n, 7, none⟩ = some (.int .i64 o.to.t) ∧ W.cell? ⟨n, 8, none⟩ = some (.int .i64 o.to.r) ∧ W.cell? ⟨n, 9, none⟩ = some (.string o.name) ∧ W.cell? ⟨n, 10, none⟩ = some (.string o.new) ∧ W.cell? ⟨n, 11, none⟩ = some (.int .i64 o.off) ∧ W.cell? ⟨n, 12, none⟩ = some (.string o.data) ∧ n < W.heap.size) :=
  ⟨cell_at h 0 _ rfl, cell_at h 1 _ rfl, cell_at h 2 _ rfl, cell_at h 3 _ rfl, cell_at h 4 _ rfl, cell_at h 5 _ rfl, cell_at h 6 _ rfl, cell_at h 7 _ rfl, cell_at h 8 _ rfl, cell_at h 9 _ rfl, cell_at h 10 _ rfl, cell_at h 11 _ rfl, cell_at h 12 _ rfl, (Array.getElem?_eq_some_iff.1 h).1⟩
theorem AddBox.turn {W W' : World} {n lb : Nat} {o : Op} {c : Array Value} {mI mE : Nat} (h : AddBox W n lb o c) (ht : Turn (Maps2 mI mE) W W') (h1 : (∃ es k, W.heap[mI]? = some (Obj.map es k))) (h2 : (∃ es k, W.heap[mE]? = some (Obj.map es k))) : AddBox W' n lb o c := by
  obtain ⟨es1, k1, h1⟩ := h1
  obtain ⟨es2, k2, h2⟩ := h2
  have hk : ∀ j (cs : Array Value) t fz, W.heap[j]? = some (Obj.cells cs t fz) → W'.heap[j]? = some (Obj.cells cs t fz) := fun j cs t fz hj => (ht.block j (Array.getElem?_eq_some_iff.1 hj).1 (fun hm => by
    rcases hm with rfl | rfl
    · rw [h1] at hj; cases hj
    · rw [h2] at hj; cases hj)).trans hj
  exact ⟨hk _ _ _ _ h.1, hk _ _ _ _ h.2.1, hk _ _ _ _ h.2.2⟩
theorem AddBox.below {W W' : World} {n lb : Nat} {o : Op} {c : Array Value} (h : AddBox W n lb o c) (ht : Below W.heap.size W W') : AddBox W' n lb o c :=
  ⟨(ht.block _ (Array.getElem?_eq_some_iff.1 h.1).1).trans h.1, (ht.block _ (Array.getElem?_eq_some_iff.1 h.2.1).1).trans h.2.1, (ht.block _ (Array.getElem?_eq_some_iff.1 h.2.2).1).trans h.2.2⟩
theorem AddBox.cells {W : World} {n lb : Nat} {o : Op} {c0 c1 c2 c3 c4 c5 : Value} (h : AddBox W n lb o #[c0, c1, c2, c3, c4, c5]) : (W.cell? ⟨n, 0, none⟩ = some (.pointer (some ⟨lb, 0, none⟩)) ∧ (W.cell? ⟨lb, 0, none⟩ = some c0 ∧ W.cell? ⟨lb, 1, none⟩ = some c1 ∧ W.cell? ⟨lb, 2, none⟩ = some c2 ∧ W.cell? ⟨lb, 3, none⟩ = some c3 ∧ W.cell? ⟨lb, 4, none⟩ = some c4 ∧ W.cell? ⟨lb, 5, none⟩ = some c5)) ∧ (W.cell? ⟨n + 1, 0, none⟩ = some (.int .i64 o.stamp.t) ∧ W.cell? ⟨n + 1, 1, none⟩ = some (.int .i64 o.stamp.r) ∧ W.cell? ⟨n + 1, 2, none⟩ = some (.int .i64 o.kind) ∧ W.cell? ⟨n + 1, 3, none⟩ = some (.int .i64 o.at_.t) ∧ W.cell? ⟨n + 1, 4, none⟩ = some (.int .i64 o.at_.r) ∧ W.cell? ⟨n + 1, 5, none⟩ = some (.int .i64 o.ino.t) ∧ W.cell? ⟨n + 1, 6, none⟩ = some (.int .i64 o.ino.r) ∧ W.cell? ⟨n + 1, 7, none⟩ = some (.int .i64 o.to.t) ∧ W.cell? ⟨n + 1, 8, none⟩ = some (.int .i64 o.to.r) ∧ W.cell? ⟨n + 1, 9, none⟩ = some (.string o.name) ∧ W.cell? ⟨n + 1, 10, none⟩ = some (.string o.new) ∧ W.cell? ⟨n + 1, 11, none⟩ = some (.int .i64 o.off) ∧ W.cell? ⟨n + 1, 12, none⟩ = some (.string o.data) ∧ n + 1 < W.heap.size) :=
  ⟨⟨cell_at h.1 0 _ rfl, log_cells h.2.2⟩, op_cells h.2.1⟩
theorem addBox_new (w : World) (lb : Nat) (o : Op) (c : Array Value) (h : w.heap[lb]? = some (.cells c 132 (0, 0))) : AddBox ((w.alloc (.cells #[.pointer (some ⟨lb, 0, none⟩)] 71)).alloc (.cells #[.int .i64 o.stamp.t, .int .i64 o.stamp.r, .int .i64 o.kind, .int .i64 o.at_.t, .int .i64 o.at_.r, .int .i64 o.ino.t, .int .i64 o.ino.r, .int .i64 o.to.t, .int .i64 o.to.r, .string o.name, .string o.new, .int .i64 o.off, .string o.data] 47)) w.heap.size lb o c := by
  have hl := (Array.getElem?_eq_some_iff.1 h).1
  refine ⟨?_, ?_, ?_⟩
  · rw [Below.heap_alloc _ _ _ (by simp)]; exact World.alloc_heap_new w _
  · have := World.alloc_heap_new (w.alloc (.cells #[.pointer (some ⟨lb, 0, none⟩)] 71)) (.cells #[.int .i64 o.stamp.t, .int .i64 o.stamp.r, .int .i64 o.kind, .int .i64 o.at_.t, .int .i64 o.at_.r, .int .i64 o.ino.t, .int .i64 o.ino.r, .int .i64 o.to.t, .int .i64 o.to.r, .string o.name, .string o.new, .int .i64 o.off, .string o.data] 47)
    rw [World.size_alloc] at this
    exact this
  · rw [Below.heap_alloc _ _ _ (by simp only [World.size_alloc]; omega), Below.heap_alloc _ _ _ hl]; exact h
theorem cmpSt_le {a b : St} : decide (cmpSt a.t a.r b.t b.r ≤ 0) = !decide (ltSt b a) := by
  have h := cmpSt_gtr (a := a) (b := b)
  by_cases hl : ltSt b a
  · rw [decide_eq_true hl, decide_eq_true_eq] at h
    rw [decide_eq_true hl, Bool.not_true, decide_eq_false_iff_not]; omega
  · rw [decide_eq_false hl, decide_eq_false_iff_not] at h
    rw [decide_eq_false hl, Bool.not_false, decide_eq_true_eq]; omega

set_option maxRecDepth 100000 in
set_option maxHeartbeats 4000000 in
theorem add_may_not (B lb gb mI mE : Nat) (L : Lg) (o : Op) (w : World) (h : LogAt B w lb gb mI mE L) (hs : o.Small) (hm : opMay o = false) :
    Calls Tryz.prog 54 #[.pointer (some ⟨lb, 0, none⟩), o.v] w fun e w' => e = .returned (.bool false) ∧ Below w.heap.size w w' := by
  obtain ⟨bb, bI, bE, vo, vr, rs, h1, h2, h3, h4, h5, h6, h7⟩ := h.parts
  have hbx := addBox_new w lb o _ h1
  obtain ⟨W0, hW0⟩ : ∃ W0, W0 = ((w.alloc (.cells #[.pointer (some ⟨lb, 0, none⟩)] 71)).alloc (.cells #[.int .i64 o.stamp.t, .int .i64 o.stamp.r, .int .i64 o.kind, .int .i64 o.at_.t, .int .i64 o.at_.r, .int .i64 o.ino.t, .int .i64 o.ino.r, .int .i64 o.to.t, .int .i64 o.to.r, .string o.name, .string o.new, .int .i64 o.off, .string o.data] 47)) := ⟨_, rfl⟩
  rw [← hW0] at hbx
  have HBW : Hid (Below w.heap.size w W0 ∧ w.heap.size ≤ W0.heap.size) := Lib.hid ⟨by rw [hW0]; exact ((Below.refl _ _).alloc (Nat.le_refl _) _).alloc (by simp) _, by rw [hW0]; simp only [World.size_alloc]; omega⟩
  have HM := Lib.hid (fun W => opMay_any o W hs)
  rw [hm] at HM
  unfold Op.v at HM ⊢
  have HJ : Hid (∀ W, Below W0.heap.size W0 W → (fun W : World => (W.cell? ⟨w.heap.size, 0, none⟩ = some (.pointer (some ⟨lb, 0, none⟩)) ∧ (W.cell? ⟨lb, 0, none⟩ = some (.pointer (some ⟨bb, 0, none⟩)) ∧ W.cell? ⟨lb, 1, none⟩ = some (.pointer (some ⟨gb, 0, none⟩)) ∧ W.cell? ⟨lb, 2, none⟩ = some (.int .i64 L.floor.t) ∧ W.cell? ⟨lb, 3, none⟩ = some (.int .i64 L.floor.r) ∧ W.cell? ⟨lb, 4, none⟩ = some (vo) ∧ W.cell? ⟨lb, 5, none⟩ = some (vr))) ∧ (W.cell? ⟨w.heap.size + 1, 0, none⟩ = some (.int .i64 o.stamp.t) ∧ W.cell? ⟨w.heap.size + 1, 1, none⟩ = some (.int .i64 o.stamp.r) ∧ W.cell? ⟨w.heap.size + 1, 2, none⟩ = some (.int .i64 o.kind) ∧ W.cell? ⟨w.heap.size + 1, 3, none⟩ = some (.int .i64 o.at_.t) ∧ W.cell? ⟨w.heap.size + 1, 4, none⟩ = some (.int .i64 o.at_.r) ∧ W.cell? ⟨w.heap.size + 1, 5, none⟩ = some (.int .i64 o.ino.t) ∧ W.cell? ⟨w.heap.size + 1, 6, none⟩ = some (.int .i64 o.ino.r) ∧ W.cell? ⟨w.heap.size + 1, 7, none⟩ = some (.int .i64 o.to.t) ∧ W.cell? ⟨w.heap.size + 1, 8, none⟩ = some (.int .i64 o.to.r) ∧ W.cell? ⟨w.heap.size + 1, 9, none⟩ = some (.string o.name) ∧ W.cell? ⟨w.heap.size + 1, 10, none⟩ = some (.string o.new) ∧ W.cell? ⟨w.heap.size + 1, 11, none⟩ = some (.int .i64 o.off) ∧ W.cell? ⟨w.heap.size + 1, 12, none⟩ = some (.string o.data) ∧ w.heap.size + 1 < W.heap.size)) W) := Lib.hid fun W hW => (hbx.below hW).cells
  have HBQ : Hid (Below W0.heap.size W0 W0) := Lib.hid (Below.refl _ _)
  clear h h1 h2 h3 h4 h5 h6 h7 hm hs hbx
  go_enter Tryz.func54, Tryz.ntmps54
  go_wp2_with fail
  rw [← hW0]
  clear hW0
  have q0 : ∀ d os, (grow (redrawn W0 d) os).cell? ⟨w.heap.size, 0, none⟩ = some (.pointer (some ⟨lb, 0, none⟩)) := fun d os => (HJ.out _ (below_regrown W0 d os)).1.1
  have q1 : ∀ d os, (grow (redrawn W0 d) os).cell? ⟨lb, 0, none⟩ = some (.pointer (some ⟨bb, 0, none⟩)) := fun d os => (HJ.out _ (below_regrown W0 d os)).1.2.1
  have q2 : ∀ d os, (grow (redrawn W0 d) os).cell? ⟨lb, 1, none⟩ = some (.pointer (some ⟨gb, 0, none⟩)) := fun d os => (HJ.out _ (below_regrown W0 d os)).1.2.2.1
  have q3 : ∀ d os, (grow (redrawn W0 d) os).cell? ⟨lb, 2, none⟩ = some (.int .i64 L.floor.t) := fun d os => (HJ.out _ (below_regrown W0 d os)).1.2.2.2.1
  have q4 : ∀ d os, (grow (redrawn W0 d) os).cell? ⟨lb, 3, none⟩ = some (.int .i64 L.floor.r) := fun d os => (HJ.out _ (below_regrown W0 d os)).1.2.2.2.2.1
  have q5 : ∀ d os, (grow (redrawn W0 d) os).cell? ⟨lb, 4, none⟩ = some (vo) := fun d os => (HJ.out _ (below_regrown W0 d os)).1.2.2.2.2.2.1
  have q6 : ∀ d os, (grow (redrawn W0 d) os).cell? ⟨lb, 5, none⟩ = some (vr) := fun d os => (HJ.out _ (below_regrown W0 d os)).1.2.2.2.2.2.2
  have q7 : ∀ d os, (grow (redrawn W0 d) os).cell? ⟨w.heap.size + 1, 0, none⟩ = some (.int .i64 o.stamp.t) := fun d os => (HJ.out _ (below_regrown W0 d os)).2.1
  have q8 : ∀ d os, (grow (redrawn W0 d) os).cell? ⟨w.heap.size + 1, 1, none⟩ = some (.int .i64 o.stamp.r) := fun d os => (HJ.out _ (below_regrown W0 d os)).2.2.1
  have q9 : ∀ d os, (grow (redrawn W0 d) os).cell? ⟨w.heap.size + 1, 2, none⟩ = some (.int .i64 o.kind) := fun d os => (HJ.out _ (below_regrown W0 d os)).2.2.2.1
  have q10 : ∀ d os, (grow (redrawn W0 d) os).cell? ⟨w.heap.size + 1, 3, none⟩ = some (.int .i64 o.at_.t) := fun d os => (HJ.out _ (below_regrown W0 d os)).2.2.2.2.1
  have q11 : ∀ d os, (grow (redrawn W0 d) os).cell? ⟨w.heap.size + 1, 4, none⟩ = some (.int .i64 o.at_.r) := fun d os => (HJ.out _ (below_regrown W0 d os)).2.2.2.2.2.1
  have q12 : ∀ d os, (grow (redrawn W0 d) os).cell? ⟨w.heap.size + 1, 5, none⟩ = some (.int .i64 o.ino.t) := fun d os => (HJ.out _ (below_regrown W0 d os)).2.2.2.2.2.2.1
  have q13 : ∀ d os, (grow (redrawn W0 d) os).cell? ⟨w.heap.size + 1, 6, none⟩ = some (.int .i64 o.ino.r) := fun d os => (HJ.out _ (below_regrown W0 d os)).2.2.2.2.2.2.2.1
  have q14 : ∀ d os, (grow (redrawn W0 d) os).cell? ⟨w.heap.size + 1, 7, none⟩ = some (.int .i64 o.to.t) := fun d os => (HJ.out _ (below_regrown W0 d os)).2.2.2.2.2.2.2.2.1
  have q15 : ∀ d os, (grow (redrawn W0 d) os).cell? ⟨w.heap.size + 1, 8, none⟩ = some (.int .i64 o.to.r) := fun d os => (HJ.out _ (below_regrown W0 d os)).2.2.2.2.2.2.2.2.2.1
  have q16 : ∀ d os, (grow (redrawn W0 d) os).cell? ⟨w.heap.size + 1, 9, none⟩ = some (.string o.name) := fun d os => (HJ.out _ (below_regrown W0 d os)).2.2.2.2.2.2.2.2.2.2.1
  have q17 : ∀ d os, (grow (redrawn W0 d) os).cell? ⟨w.heap.size + 1, 10, none⟩ = some (.string o.new) := fun d os => (HJ.out _ (below_regrown W0 d os)).2.2.2.2.2.2.2.2.2.2.2.1
  have q18 : ∀ d os, (grow (redrawn W0 d) os).cell? ⟨w.heap.size + 1, 11, none⟩ = some (.int .i64 o.off) := fun d os => (HJ.out _ (below_regrown W0 d os)).2.2.2.2.2.2.2.2.2.2.2.2.1
  have q19 : ∀ d os, (grow (redrawn W0 d) os).cell? ⟨w.heap.size + 1, 12, none⟩ = some (.string o.data) := fun d os => (HJ.out _ (below_regrown W0 d os)).2.2.2.2.2.2.2.2.2.2.2.2.2.1
  have HCQ : ∀ d os, Calls Tryz.prog 93 #[(.agg #[.int .i64 o.stamp.t, .int .i64 o.stamp.r, .int .i64 o.kind, .int .i64 o.at_.t, .int .i64 o.at_.r, .int .i64 o.ino.t, .int .i64 o.ino.r, .int .i64 o.to.t, .int .i64 o.to.r, .string o.name, .string o.new, .int .i64 o.off, .string o.data])] (grow (redrawn W0 d) os) fun e w'' => e = .returned (.bool false) ∧ ∃ p : Regrown, w'' = grow (redrawn W0 p.d) p.os := fun d os => Calls.regrown_of (HM.out _)
  refine wp_region_quiet_below (by kernel_rfl) (by kernel_rfl) ?_
  repeat (first | go_big_quiet_step (exact HCQ _ _) | quiet_step (exact HCQ _ _))
  refine wpQuiet_nil ?_
  intro _ hw'
  obtain ⟨⟨dq, osq⟩, hw''⟩ := hw'
  subst hw''
  go_wp2
  go_ret
  exact ⟨rfl, HBW.out.1.trans ((below_regrown W0 dq osq).mono HBW.out.2)⟩

set_option maxRecDepth 100000 in
set_option maxHeartbeats 4000000 in
theorem add_low (B lb gb mI mE : Nat) (L : Lg) (o : Op) (w : World) (h : LogAt B w lb gb mI mE L) (hs : o.Small) (hm : opMay o = true) (hc : ¬ ltSt L.floor o.stamp) :
    Calls Tryz.prog 54 #[.pointer (some ⟨lb, 0, none⟩), o.v] w fun e w' => e = .returned (.bool false) ∧ Below w.heap.size w w' := by
  obtain ⟨bb, bI, bE, vo, vr, rs, h1, h2, h3, h4, h5, h6, h7⟩ := h.parts
  have hbx := addBox_new w lb o _ h1
  obtain ⟨W0, hW0⟩ : ∃ W0, W0 = ((w.alloc (.cells #[.pointer (some ⟨lb, 0, none⟩)] 71)).alloc (.cells #[.int .i64 o.stamp.t, .int .i64 o.stamp.r, .int .i64 o.kind, .int .i64 o.at_.t, .int .i64 o.at_.r, .int .i64 o.ino.t, .int .i64 o.ino.r, .int .i64 o.to.t, .int .i64 o.to.r, .string o.name, .string o.new, .int .i64 o.off, .string o.data] 47)) := ⟨_, rfl⟩
  rw [← hW0] at hbx
  have HBW : Hid (Below w.heap.size w W0 ∧ w.heap.size ≤ W0.heap.size) := Lib.hid ⟨by rw [hW0]; exact ((Below.refl _ _).alloc (Nat.le_refl _) _).alloc (by simp) _, by rw [hW0]; simp only [World.size_alloc]; omega⟩
  have HM := Lib.hid (fun W => opMay_any o W hs)
  rw [hm] at HM
  have hcl := cmpSt_le (a := o.stamp) (b := L.floor)
  rw [decide_eq_false hc, Bool.not_false] at hcl
  unfold Op.v at HM ⊢
  have HJ : Hid (∀ W, Below W0.heap.size W0 W → (fun W : World => (W.cell? ⟨w.heap.size, 0, none⟩ = some (.pointer (some ⟨lb, 0, none⟩)) ∧ (W.cell? ⟨lb, 0, none⟩ = some (.pointer (some ⟨bb, 0, none⟩)) ∧ W.cell? ⟨lb, 1, none⟩ = some (.pointer (some ⟨gb, 0, none⟩)) ∧ W.cell? ⟨lb, 2, none⟩ = some (.int .i64 L.floor.t) ∧ W.cell? ⟨lb, 3, none⟩ = some (.int .i64 L.floor.r) ∧ W.cell? ⟨lb, 4, none⟩ = some (vo) ∧ W.cell? ⟨lb, 5, none⟩ = some (vr))) ∧ (W.cell? ⟨w.heap.size + 1, 0, none⟩ = some (.int .i64 o.stamp.t) ∧ W.cell? ⟨w.heap.size + 1, 1, none⟩ = some (.int .i64 o.stamp.r) ∧ W.cell? ⟨w.heap.size + 1, 2, none⟩ = some (.int .i64 o.kind) ∧ W.cell? ⟨w.heap.size + 1, 3, none⟩ = some (.int .i64 o.at_.t) ∧ W.cell? ⟨w.heap.size + 1, 4, none⟩ = some (.int .i64 o.at_.r) ∧ W.cell? ⟨w.heap.size + 1, 5, none⟩ = some (.int .i64 o.ino.t) ∧ W.cell? ⟨w.heap.size + 1, 6, none⟩ = some (.int .i64 o.ino.r) ∧ W.cell? ⟨w.heap.size + 1, 7, none⟩ = some (.int .i64 o.to.t) ∧ W.cell? ⟨w.heap.size + 1, 8, none⟩ = some (.int .i64 o.to.r) ∧ W.cell? ⟨w.heap.size + 1, 9, none⟩ = some (.string o.name) ∧ W.cell? ⟨w.heap.size + 1, 10, none⟩ = some (.string o.new) ∧ W.cell? ⟨w.heap.size + 1, 11, none⟩ = some (.int .i64 o.off) ∧ W.cell? ⟨w.heap.size + 1, 12, none⟩ = some (.string o.data) ∧ w.heap.size + 1 < W.heap.size)) W) := Lib.hid fun W hW => (hbx.below hW).cells
  have HBQ : Hid (Below W0.heap.size W0 W0) := Lib.hid (Below.refl _ _)
  clear h h1 h2 h3 h4 h5 h6 h7 hm hs hbx hc
  go_enter Tryz.func54, Tryz.ntmps54
  go_wp2_with fail
  rw [← hW0]
  clear hW0
  have q0 : ∀ d os, (grow (redrawn W0 d) os).cell? ⟨w.heap.size, 0, none⟩ = some (.pointer (some ⟨lb, 0, none⟩)) := fun d os => (HJ.out _ (below_regrown W0 d os)).1.1
  have q1 : ∀ d os, (grow (redrawn W0 d) os).cell? ⟨lb, 0, none⟩ = some (.pointer (some ⟨bb, 0, none⟩)) := fun d os => (HJ.out _ (below_regrown W0 d os)).1.2.1
  have q2 : ∀ d os, (grow (redrawn W0 d) os).cell? ⟨lb, 1, none⟩ = some (.pointer (some ⟨gb, 0, none⟩)) := fun d os => (HJ.out _ (below_regrown W0 d os)).1.2.2.1
  have q3 : ∀ d os, (grow (redrawn W0 d) os).cell? ⟨lb, 2, none⟩ = some (.int .i64 L.floor.t) := fun d os => (HJ.out _ (below_regrown W0 d os)).1.2.2.2.1
  have q4 : ∀ d os, (grow (redrawn W0 d) os).cell? ⟨lb, 3, none⟩ = some (.int .i64 L.floor.r) := fun d os => (HJ.out _ (below_regrown W0 d os)).1.2.2.2.2.1
  have q5 : ∀ d os, (grow (redrawn W0 d) os).cell? ⟨lb, 4, none⟩ = some (vo) := fun d os => (HJ.out _ (below_regrown W0 d os)).1.2.2.2.2.2.1
  have q6 : ∀ d os, (grow (redrawn W0 d) os).cell? ⟨lb, 5, none⟩ = some (vr) := fun d os => (HJ.out _ (below_regrown W0 d os)).1.2.2.2.2.2.2
  have q7 : ∀ d os, (grow (redrawn W0 d) os).cell? ⟨w.heap.size + 1, 0, none⟩ = some (.int .i64 o.stamp.t) := fun d os => (HJ.out _ (below_regrown W0 d os)).2.1
  have q8 : ∀ d os, (grow (redrawn W0 d) os).cell? ⟨w.heap.size + 1, 1, none⟩ = some (.int .i64 o.stamp.r) := fun d os => (HJ.out _ (below_regrown W0 d os)).2.2.1
  have q9 : ∀ d os, (grow (redrawn W0 d) os).cell? ⟨w.heap.size + 1, 2, none⟩ = some (.int .i64 o.kind) := fun d os => (HJ.out _ (below_regrown W0 d os)).2.2.2.1
  have q10 : ∀ d os, (grow (redrawn W0 d) os).cell? ⟨w.heap.size + 1, 3, none⟩ = some (.int .i64 o.at_.t) := fun d os => (HJ.out _ (below_regrown W0 d os)).2.2.2.2.1
  have q11 : ∀ d os, (grow (redrawn W0 d) os).cell? ⟨w.heap.size + 1, 4, none⟩ = some (.int .i64 o.at_.r) := fun d os => (HJ.out _ (below_regrown W0 d os)).2.2.2.2.2.1
  have q12 : ∀ d os, (grow (redrawn W0 d) os).cell? ⟨w.heap.size + 1, 5, none⟩ = some (.int .i64 o.ino.t) := fun d os => (HJ.out _ (below_regrown W0 d os)).2.2.2.2.2.2.1
  have q13 : ∀ d os, (grow (redrawn W0 d) os).cell? ⟨w.heap.size + 1, 6, none⟩ = some (.int .i64 o.ino.r) := fun d os => (HJ.out _ (below_regrown W0 d os)).2.2.2.2.2.2.2.1
  have q14 : ∀ d os, (grow (redrawn W0 d) os).cell? ⟨w.heap.size + 1, 7, none⟩ = some (.int .i64 o.to.t) := fun d os => (HJ.out _ (below_regrown W0 d os)).2.2.2.2.2.2.2.2.1
  have q15 : ∀ d os, (grow (redrawn W0 d) os).cell? ⟨w.heap.size + 1, 8, none⟩ = some (.int .i64 o.to.r) := fun d os => (HJ.out _ (below_regrown W0 d os)).2.2.2.2.2.2.2.2.2.1
  have q16 : ∀ d os, (grow (redrawn W0 d) os).cell? ⟨w.heap.size + 1, 9, none⟩ = some (.string o.name) := fun d os => (HJ.out _ (below_regrown W0 d os)).2.2.2.2.2.2.2.2.2.2.1
  have q17 : ∀ d os, (grow (redrawn W0 d) os).cell? ⟨w.heap.size + 1, 10, none⟩ = some (.string o.new) := fun d os => (HJ.out _ (below_regrown W0 d os)).2.2.2.2.2.2.2.2.2.2.2.1
  have q18 : ∀ d os, (grow (redrawn W0 d) os).cell? ⟨w.heap.size + 1, 11, none⟩ = some (.int .i64 o.off) := fun d os => (HJ.out _ (below_regrown W0 d os)).2.2.2.2.2.2.2.2.2.2.2.2.1
  have q19 : ∀ d os, (grow (redrawn W0 d) os).cell? ⟨w.heap.size + 1, 12, none⟩ = some (.string o.data) := fun d os => (HJ.out _ (below_regrown W0 d os)).2.2.2.2.2.2.2.2.2.2.2.2.2.1
  have HCQ : ∀ d os, Calls Tryz.prog 93 #[(.agg #[.int .i64 o.stamp.t, .int .i64 o.stamp.r, .int .i64 o.kind, .int .i64 o.at_.t, .int .i64 o.at_.r, .int .i64 o.ino.t, .int .i64 o.ino.r, .int .i64 o.to.t, .int .i64 o.to.r, .string o.name, .string o.new, .int .i64 o.off, .string o.data])] (grow (redrawn W0 d) os) fun e w'' => e = .returned (.bool true) ∧ ∃ p : Regrown, w'' = grow (redrawn W0 p.d) p.os := fun d os => Calls.regrown_of (HM.out _)
  have HCC : ∀ d os, Calls Tryz.prog 59 #[(.agg #[.int .i64 o.stamp.t, .int .i64 o.stamp.r]), (.agg #[.int .i64 L.floor.t, .int .i64 L.floor.r])] (grow (redrawn W0 d) os) fun e w'' => e = .returned (.int .i64 (cmpSt o.stamp.t o.stamp.r L.floor.t L.floor.r)) ∧ ∃ p : Regrown, w'' = grow (redrawn W0 p.d) p.os := fun d os => Calls.regrown_of ((stCompare_any _ _ _ _ _).mono fun e w' h => ⟨h.1, h.2.below⟩)
  refine wp_region_quiet_below (by kernel_rfl) (by kernel_rfl) ?_
  repeat (first | go_big_quiet_step (first | exact HCQ _ _ | exact HCC _ _) | quiet_step (first | exact HCQ _ _ | exact HCC _ _))
  refine wpQuiet_nil ?_
  intro _ hw'
  obtain ⟨⟨dq, osq⟩, hw''⟩ := hw'
  subst hw''
  go_wp2
  go_ret
  exact ⟨rfl, HBW.out.1.trans ((below_regrown W0 dq osq).mono HBW.out.2)⟩

set_option maxRecDepth 100000 in
set_option maxHeartbeats 4000000 in
theorem add_there_l (B lb gb mI mE : Nat) (L : Lg) (o : Op) (w : World) (h : LogAt B w lb gb mI mE L) (hs : o.Small) (hm : opMay o = true) (hc : ltSt L.floor o.stamp) (hb : putB L.ops o = false) :
    Calls Tryz.prog 54 #[.pointer (some ⟨lb, 0, none⟩), o.v] w fun e w' => e = .returned (.bool false) ∧ Below w.heap.size w w' := by
  obtain ⟨bb, bI, bE, vo, vr, rs, h1, h2, h3, h4, h5, h6, h7⟩ := h.parts
  have hbx := addBox_new w lb o _ h1
  obtain ⟨W0, hW0⟩ : ∃ W0, W0 = ((w.alloc (.cells #[.pointer (some ⟨lb, 0, none⟩)] 71)).alloc (.cells #[.int .i64 o.stamp.t, .int .i64 o.stamp.r, .int .i64 o.kind, .int .i64 o.at_.t, .int .i64 o.at_.r, .int .i64 o.ino.t, .int .i64 o.ino.r, .int .i64 o.to.t, .int .i64 o.to.r, .string o.name, .string o.new, .int .i64 o.off, .string o.data] 47)) := ⟨_, rfl⟩
  rw [← hW0] at hbx
  have HBW : Hid (Below w.heap.size w W0 ∧ w.heap.size ≤ W0.heap.size) := Lib.hid ⟨by rw [hW0]; exact ((Below.refl _ _).alloc (Nat.le_refl _) _).alloc (by simp) _, by rw [hW0]; simp only [World.size_alloc]; omega⟩
  have HM := Lib.hid (fun W => opMay_any o W hs)
  rw [hm] at HM
  have hcl := cmpSt_le (a := o.stamp) (b := L.floor)
  rw [decide_eq_true hc, Bool.not_true] at hcl
  have HZ0 : Hid (W0.heap.size = w.heap.size + 2) := Lib.hid (by rw [hW0]; simp only [World.size_alloc])
  have HPUT : Hid (∀ W, Below W0.heap.size W0 W → Calls Tryz.prog 37 #[vo, (.agg #[.int .i64 o.stamp.t, .int .i64 o.stamp.r, .int .i64 o.kind, .int .i64 o.at_.t, .int .i64 o.at_.r, .int .i64 o.ino.t, .int .i64 o.ino.r, .int .i64 o.to.t, .int .i64 o.to.r, .string o.name, .string o.new, .int .i64 o.off, .string o.data])] W fun e w' => ∃ v', e = .returned (.tuple #[v', .int .i64 (placeOf L.ops o), .bool (putB L.ops o)]) ∧ (putB L.ops o = false → v' = vo) ∧
      (putB L.ops o = true → w'.ownsRow W.heap.size 47 13 v' (putOp L.ops o).length ((putOp L.ops o).flatMap Op.cells)) ∧ Below W0.heap.size W0 w') := Lib.hid fun W hW =>
    (put_any vo L.ops o W ((h3.sl.below HBW.out.1).below hW) h.ok.rises (by have := h.few; omega) hs).mono fun e w' ⟨v', k1, k2, k3, k4⟩ => ⟨v', k1, k2, k3, hW.trans (k4.mono hW.size)⟩
  have HPL : Hid (placeOf L.ops o ≤ L.ops.length ∧ L.ops.length ≤ 500) := Lib.hid ⟨place_le L.ops o, h.few⟩
  unfold Op.v at HM ⊢
  have HJ : Hid (∀ W, Below W0.heap.size W0 W → (fun W : World => (W.cell? ⟨w.heap.size, 0, none⟩ = some (.pointer (some ⟨lb, 0, none⟩)) ∧ (W.cell? ⟨lb, 0, none⟩ = some (.pointer (some ⟨bb, 0, none⟩)) ∧ W.cell? ⟨lb, 1, none⟩ = some (.pointer (some ⟨gb, 0, none⟩)) ∧ W.cell? ⟨lb, 2, none⟩ = some (.int .i64 L.floor.t) ∧ W.cell? ⟨lb, 3, none⟩ = some (.int .i64 L.floor.r) ∧ W.cell? ⟨lb, 4, none⟩ = some (vo) ∧ W.cell? ⟨lb, 5, none⟩ = some (vr))) ∧ (W.cell? ⟨w.heap.size + 1, 0, none⟩ = some (.int .i64 o.stamp.t) ∧ W.cell? ⟨w.heap.size + 1, 1, none⟩ = some (.int .i64 o.stamp.r) ∧ W.cell? ⟨w.heap.size + 1, 2, none⟩ = some (.int .i64 o.kind) ∧ W.cell? ⟨w.heap.size + 1, 3, none⟩ = some (.int .i64 o.at_.t) ∧ W.cell? ⟨w.heap.size + 1, 4, none⟩ = some (.int .i64 o.at_.r) ∧ W.cell? ⟨w.heap.size + 1, 5, none⟩ = some (.int .i64 o.ino.t) ∧ W.cell? ⟨w.heap.size + 1, 6, none⟩ = some (.int .i64 o.ino.r) ∧ W.cell? ⟨w.heap.size + 1, 7, none⟩ = some (.int .i64 o.to.t) ∧ W.cell? ⟨w.heap.size + 1, 8, none⟩ = some (.int .i64 o.to.r) ∧ W.cell? ⟨w.heap.size + 1, 9, none⟩ = some (.string o.name) ∧ W.cell? ⟨w.heap.size + 1, 10, none⟩ = some (.string o.new) ∧ W.cell? ⟨w.heap.size + 1, 11, none⟩ = some (.int .i64 o.off) ∧ W.cell? ⟨w.heap.size + 1, 12, none⟩ = some (.string o.data) ∧ w.heap.size + 1 < W.heap.size)) W) := Lib.hid fun W hW => (hbx.below hW).cells
  have HBQ : Hid (Below W0.heap.size W0 W0) := Lib.hid (Below.refl _ _)
  rw [hb] at HPUT
  clear h h1 h2 h3 h4 h5 h6 h7 hm hs hbx hc hb
  go_enter Tryz.func54, Tryz.ntmps54
  go_wp2_with fail
  rw [← hW0]
  clear hW0
  have q0 : ∀ d os, (grow (redrawn W0 d) os).cell? ⟨w.heap.size, 0, none⟩ = some (.pointer (some ⟨lb, 0, none⟩)) := fun d os => (HJ.out _ (below_regrown W0 d os)).1.1
  have q1 : ∀ d os, (grow (redrawn W0 d) os).cell? ⟨lb, 0, none⟩ = some (.pointer (some ⟨bb, 0, none⟩)) := fun d os => (HJ.out _ (below_regrown W0 d os)).1.2.1
  have q2 : ∀ d os, (grow (redrawn W0 d) os).cell? ⟨lb, 1, none⟩ = some (.pointer (some ⟨gb, 0, none⟩)) := fun d os => (HJ.out _ (below_regrown W0 d os)).1.2.2.1
  have q3 : ∀ d os, (grow (redrawn W0 d) os).cell? ⟨lb, 2, none⟩ = some (.int .i64 L.floor.t) := fun d os => (HJ.out _ (below_regrown W0 d os)).1.2.2.2.1
  have q4 : ∀ d os, (grow (redrawn W0 d) os).cell? ⟨lb, 3, none⟩ = some (.int .i64 L.floor.r) := fun d os => (HJ.out _ (below_regrown W0 d os)).1.2.2.2.2.1
  have q5 : ∀ d os, (grow (redrawn W0 d) os).cell? ⟨lb, 4, none⟩ = some (vo) := fun d os => (HJ.out _ (below_regrown W0 d os)).1.2.2.2.2.2.1
  have q6 : ∀ d os, (grow (redrawn W0 d) os).cell? ⟨lb, 5, none⟩ = some (vr) := fun d os => (HJ.out _ (below_regrown W0 d os)).1.2.2.2.2.2.2
  have q7 : ∀ d os, (grow (redrawn W0 d) os).cell? ⟨w.heap.size + 1, 0, none⟩ = some (.int .i64 o.stamp.t) := fun d os => (HJ.out _ (below_regrown W0 d os)).2.1
  have q8 : ∀ d os, (grow (redrawn W0 d) os).cell? ⟨w.heap.size + 1, 1, none⟩ = some (.int .i64 o.stamp.r) := fun d os => (HJ.out _ (below_regrown W0 d os)).2.2.1
  have q9 : ∀ d os, (grow (redrawn W0 d) os).cell? ⟨w.heap.size + 1, 2, none⟩ = some (.int .i64 o.kind) := fun d os => (HJ.out _ (below_regrown W0 d os)).2.2.2.1
  have q10 : ∀ d os, (grow (redrawn W0 d) os).cell? ⟨w.heap.size + 1, 3, none⟩ = some (.int .i64 o.at_.t) := fun d os => (HJ.out _ (below_regrown W0 d os)).2.2.2.2.1
  have q11 : ∀ d os, (grow (redrawn W0 d) os).cell? ⟨w.heap.size + 1, 4, none⟩ = some (.int .i64 o.at_.r) := fun d os => (HJ.out _ (below_regrown W0 d os)).2.2.2.2.2.1
  have q12 : ∀ d os, (grow (redrawn W0 d) os).cell? ⟨w.heap.size + 1, 5, none⟩ = some (.int .i64 o.ino.t) := fun d os => (HJ.out _ (below_regrown W0 d os)).2.2.2.2.2.2.1
  have q13 : ∀ d os, (grow (redrawn W0 d) os).cell? ⟨w.heap.size + 1, 6, none⟩ = some (.int .i64 o.ino.r) := fun d os => (HJ.out _ (below_regrown W0 d os)).2.2.2.2.2.2.2.1
  have q14 : ∀ d os, (grow (redrawn W0 d) os).cell? ⟨w.heap.size + 1, 7, none⟩ = some (.int .i64 o.to.t) := fun d os => (HJ.out _ (below_regrown W0 d os)).2.2.2.2.2.2.2.2.1
  have q15 : ∀ d os, (grow (redrawn W0 d) os).cell? ⟨w.heap.size + 1, 8, none⟩ = some (.int .i64 o.to.r) := fun d os => (HJ.out _ (below_regrown W0 d os)).2.2.2.2.2.2.2.2.2.1
  have q16 : ∀ d os, (grow (redrawn W0 d) os).cell? ⟨w.heap.size + 1, 9, none⟩ = some (.string o.name) := fun d os => (HJ.out _ (below_regrown W0 d os)).2.2.2.2.2.2.2.2.2.2.1
  have q17 : ∀ d os, (grow (redrawn W0 d) os).cell? ⟨w.heap.size + 1, 10, none⟩ = some (.string o.new) := fun d os => (HJ.out _ (below_regrown W0 d os)).2.2.2.2.2.2.2.2.2.2.2.1
  have q18 : ∀ d os, (grow (redrawn W0 d) os).cell? ⟨w.heap.size + 1, 11, none⟩ = some (.int .i64 o.off) := fun d os => (HJ.out _ (below_regrown W0 d os)).2.2.2.2.2.2.2.2.2.2.2.2.1
  have q19 : ∀ d os, (grow (redrawn W0 d) os).cell? ⟨w.heap.size + 1, 12, none⟩ = some (.string o.data) := fun d os => (HJ.out _ (below_regrown W0 d os)).2.2.2.2.2.2.2.2.2.2.2.2.2.1
  have HCQ : ∀ d os, Calls Tryz.prog 93 #[(.agg #[.int .i64 o.stamp.t, .int .i64 o.stamp.r, .int .i64 o.kind, .int .i64 o.at_.t, .int .i64 o.at_.r, .int .i64 o.ino.t, .int .i64 o.ino.r, .int .i64 o.to.t, .int .i64 o.to.r, .string o.name, .string o.new, .int .i64 o.off, .string o.data])] (grow (redrawn W0 d) os) fun e w'' => e = .returned (.bool true) ∧ ∃ p : Regrown, w'' = grow (redrawn W0 p.d) p.os := fun d os => Calls.regrown_of (HM.out _)
  have HCC : ∀ d os, Calls Tryz.prog 59 #[(.agg #[.int .i64 o.stamp.t, .int .i64 o.stamp.r]), (.agg #[.int .i64 L.floor.t, .int .i64 L.floor.r])] (grow (redrawn W0 d) os) fun e w'' => e = .returned (.int .i64 (cmpSt o.stamp.t o.stamp.r L.floor.t L.floor.r)) ∧ ∃ p : Regrown, w'' = grow (redrawn W0 p.d) p.os := fun d os => Calls.regrown_of ((stCompare_any _ _ _ _ _).mono fun e w' h => ⟨h.1, h.2.below⟩)
  refine wp_region_quiet_below (by kernel_rfl) (by kernel_rfl) ?_
  repeat (first | go_big_quiet_step (first | exact HCQ _ _ | exact HCC _ _) | quiet_step (first | exact HCQ _ _ | exact HCC _ _))
  refine wpQuiet_nil ?_
  intro _ hw'
  obtain ⟨⟨dq, osq⟩, hw''⟩ := hw'
  subst hw''
  obtain ⟨W1, hW1⟩ : ∃ W1, W1 = grow (redrawn W0 dq) osq := ⟨_, rfl⟩
  have HB1 : Hid (Below W0.heap.size W0 W1) := Lib.hid (by rw [hW1]; exact below_regrown W0 dq osq)
  have HBW1 : Hid (Below w.heap.size w W1 ∧ w.heap.size + 2 ≤ W1.heap.size) := Lib.hid ⟨HBW.out.1.trans (HB1.out.mono HBW.out.2), by have := HB1.out.size; have := HZ0.out; omega⟩
  rw [← hW1]
  clear hW1 HCQ HCC q0 q1 q2 q3 q4 q5 q6 q7 q8 q9 q10 q11 q12 q13 q14 q15 q16 q17 q18 q19
  obtain ⟨⟨_, _, _, _, _, _, _⟩, _, _, _, _, _, _, _, _, _, _, _, _, _, _⟩ := HJ.out W1 HB1.out
  go_wp2_with fail
  go_region_held3 (fun W : World => (W.cell? ⟨w.heap.size, 0, none⟩ = some (.pointer (some ⟨lb, 0, none⟩)) ∧ (W.cell? ⟨lb, 0, none⟩ = some (.pointer (some ⟨bb, 0, none⟩)) ∧ W.cell? ⟨lb, 1, none⟩ = some (.pointer (some ⟨gb, 0, none⟩)) ∧ W.cell? ⟨lb, 2, none⟩ = some (.int .i64 L.floor.t) ∧ W.cell? ⟨lb, 3, none⟩ = some (.int .i64 L.floor.r) ∧ W.cell? ⟨lb, 4, none⟩ = some (vo) ∧ W.cell? ⟨lb, 5, none⟩ = some (vr))) ∧ (W.cell? ⟨w.heap.size + 1, 0, none⟩ = some (.int .i64 o.stamp.t) ∧ W.cell? ⟨w.heap.size + 1, 1, none⟩ = some (.int .i64 o.stamp.r) ∧ W.cell? ⟨w.heap.size + 1, 2, none⟩ = some (.int .i64 o.kind) ∧ W.cell? ⟨w.heap.size + 1, 3, none⟩ = some (.int .i64 o.at_.t) ∧ W.cell? ⟨w.heap.size + 1, 4, none⟩ = some (.int .i64 o.at_.r) ∧ W.cell? ⟨w.heap.size + 1, 5, none⟩ = some (.int .i64 o.ino.t) ∧ W.cell? ⟨w.heap.size + 1, 6, none⟩ = some (.int .i64 o.ino.r) ∧ W.cell? ⟨w.heap.size + 1, 7, none⟩ = some (.int .i64 o.to.t) ∧ W.cell? ⟨w.heap.size + 1, 8, none⟩ = some (.int .i64 o.to.r) ∧ W.cell? ⟨w.heap.size + 1, 9, none⟩ = some (.string o.name) ∧ W.cell? ⟨w.heap.size + 1, 10, none⟩ = some (.string o.new) ∧ W.cell? ⟨w.heap.size + 1, 11, none⟩ = some (.int .i64 o.off) ∧ W.cell? ⟨w.heap.size + 1, 12, none⟩ = some (.string o.data) ∧ w.heap.size + 1 < W.heap.size)) (first | exact HJ.out _ (by first | exact HB2.out | exact HB1.out.drew) | go_keep) (first
    | (go_at_call 37; with_reducible refine Calls.mono (HPUT.out _ (by first | exact HB1.out.drew | exact HB1.out)) ?_; rintro e w2 ⟨v2, rfl, hf2, ht2, hb2⟩; have HF2 := Lib.hid hf2; have HT2 := Lib.hid ht2; have HB2 : Hid (Below W0.heap.size W0 w2) := Lib.hid hb2; clear hf2 ht2 hb2))
  obtain rfl := HF2.out trivial
  go_wp2
  go_ret
  exact ⟨rfl, HBW.out.1.trans (HB2.out.mono HBW.out.2)⟩
end Go.Proofs.YtlokljaeknmdpaaGreat

/-! ## LogT -/
namespace Go.Proofs.YtlokljaeknmdpaaGreat
open Go.RowKit Go.Shelf Go.Sort Go.Proofs
open L12 (Raw Raw.cells infoRec)

set_option linter.unusedVariables false

/-- the record of the operation number k + j -/
noncomputable def recOf (base : Gr) (l : List Op) (k m j : Nat) : Rec := if j < m then diffOf (gAt base l (k + j)) (gAt base l (k + j + 1)) else ⟨[], [], [], [], 0⟩
noncomputable def gBack (base : Gr) (l : List Op) (k m : Nat) (g : Gr) (pre : List Nat) : Gr := pre.foldl (fun g j => g.back (recOf base l k m j)) g
theorem back_ok {g : Gr} (h : g.Ok) (r : Rec) : (g.back r).Ok :=
  fold_ok Gr.tie (fun g x h => h.tieD _) _ (fold_ok Gr.remake (fun g x h => remake_ok g x h) _ (fold_ok Gr.drop (fun g x h => h.dropD _) _ (fold_ok (fun (g : Gr) (x : Ent) => g.untie x.pl) (fun g x h => h.untieD _) _ h)))
theorem gBack_snoc (base : Gr) (l : List Op) (k m : Nat) (g : Gr) (pre : List Nat) (j : Nat) : gBack base l k m g (pre ++ [j]) = (gBack base l k m g pre).back (recOf base l k m j) := by
  unfold gBack; rw [List.foldl_append]; rfl
theorem gBack_ok (base : Gr) (l : List Op) (k m : Nat) : ∀ (pre : List Nat) {g : Gr}, g.Ok → (gBack base l k m g pre).Ok
  | [], _, h => h
  | j :: pre, _, h => gBack_ok base l k m pre (back_ok h _)
theorem gBack_part {base : Gr} (h : base.Ok) (l : List Op) (k m : Nat) (hk : k + m = l.length) : ∀ t, t ≤ m → gBack base l k m (gAt base l l.length) (backToR m t) = gAt base l (k + (m - t))
  | 0, _ => by rw [Nat.sub_zero, hk]; rfl
  | t + 1, ht => by
    rw [backToR_succ m (m - (t + 1)) t (by omega), gBack_snoc, gBack_part h l k m hk t (by omega)]
    have e : k + (m - t) = k + (m - (t + 1)) + 1 := by omega
    rw [e]
    unfold recOf
    rw [if_pos (by omega)]
    exact gAt_back h l (k + (m - (t + 1))) (by omega)
theorem gBack_all {base : Gr} (h : base.Ok) (l : List Op) (k m : Nat) (hk : k + m = l.length) : gBack base l k m (gAt base l l.length) (backToR m m) = gAt base l k := by
  rw [gBack_part h l k m hk m (Nat.le_refl _), Nat.sub_self, Nat.add_zero]
theorem recOf_small {base : Gr} (h : base.Ok) (l : List Op) (k m j : Nat) : ((recOf base l k m j).lost.length ≤ 1000 ∧ (recOf base l k m j).made.length ≤ 1000 ∧ (recOf base l k m j).was.length ≤ 1000 ∧ (recOf base l k m j).new.length ≤ 1000) ∧ ∀ x ∈ (recOf base l k m j).lost, x.name.size ≤ maxLen := by
  unfold recOf
  split
  · exact L12.diff_small (gAt_ok h l _) (gAt_ok h l _)
  · exact ⟨⟨Nat.zero_le _, Nat.zero_le _, Nat.zero_le _, Nat.zero_le _⟩, fun x hx => by cases hx⟩
theorem rec_sl {W : World} {B n : Nat} {base : Gr} {l : List Op} {rs : List Raw} (h : RecsOf B base l n rs W) (k : Nat) (j : Nat) :
    (SlAt W 5 Ent.cells (rs.drop k)[j]!.a (recOf base l k (n - k) j).lost ∧ SlAt W 5 Ent.cells (rs.drop k)[j]!.b (recOf base l k (n - k) j).made ∧ SlAt W 6 Ino.cells (rs.drop k)[j]!.c (recOf base l k (n - k) j).was ∧ SlAt W 2 St.cells (rs.drop k)[j]!.d (recOf base l k (n - k) j).new) ∧ Raw.Flat (rs.drop k)[j]! := by
  have h1 := h.1
  unfold recOf
  by_cases hj : j < n - k
  · have e : (rs.drop k)[j]! = rs[k + j]! := by
      rw [getElem!_pos _ j (by rw [List.length_drop]; omega), getElem!_pos rs (k + j) (by omega), List.getElem_drop]
    rw [if_pos hj, e]
    have h2 := h.2 (k + j) (by omega)
    obtain ⟨a1, c1, e1⟩ := row_len5 h2.1
    obtain ⟨a2, c2, e2⟩ := row_len5 h2.2.1
    obtain ⟨a3, c3, e3⟩ := row_len5 h2.2.2.1
    obtain ⟨a4, c4, e4⟩ := row_len5 h2.2.2.2
    exact ⟨h2.sl, _, _, _, _, _, _, _, _, _, _, _, _, e1, e2, e3, e4⟩
  · have e : (rs.drop k)[j]! = default := getElem!_neg _ _ (by rw [List.length_drop]; omega)
    rw [if_neg hj, e]
    exact ⟨⟨.inl ⟨_, _, rfl, rfl⟩, .inl ⟨_, _, rfl, rfl⟩, .inl ⟨_, _, rfl, rfl⟩, .inl ⟨_, _, rfl, rfl⟩⟩, _, _, _, _, _, _, _, _, _, _, _, _, rfl, rfl, rfl, rfl⟩
/-- a slice cut off at its head -/
theorem sl_cut {α : Type} [Inhabited α] {w : World} {n : Nat} {enc : α → List Value} {a : Option Addr} {m c : Nat} {zs : List α} (h : SlAt w n enc (.slice a m c) zs) (hm : m = zs.length) {k : Nat} (hk : k ≤ zs.length) {va : Option Addr} (hva : (if c = k then a else Option.map (fun x => x.add (k * n)) a) = va) :
    SlAt w n enc (.slice va (m - k) (c - k)) (zs.drop k) := by
  subst hm
  by_cases hkl : k < zs.length
  · rcases h with ⟨_, _, h0, h1⟩ | ⟨b, off, c', h0, h1, h2, h3, h4⟩
    · rw [h1] at hkl; exact absurd hkl (Nat.not_lt_zero _)
    · simp only [Value.slice.injEq, true_and] at h0
      obtain ⟨rfl, rfl⟩ := h0
      rw [if_neg (by omega)] at hva
      subst hva
      have := SlAt.drop (n := n) (enc := enc) (.inr ⟨b, off, c, rfl, h1, h2, h3, h4⟩ : SlAt w n enc (.slice (some ⟨b, off, none⟩) zs.length c) zs) hkl
      rw [Option.map_some, Addr.add_lit]
      exact this
  · have : k = zs.length := by omega
    subst this
    rw [Nat.sub_self, List.drop_length]
    exact .inl ⟨_, _, rfl, rfl⟩
/-- what holds between two rounds of the loop that takes operations back -/
structure BackInv (W3 : World) (gb mI mE : Nat) (G : List Nat → Gr) (pre : List Nat) (W : World) : Prop where
  turn : Turn (Maps2 mI mE) W3 W
  g : GrAt W gb mI mE (G pre)
theorem backInv_own {W3 : World} {gb mI mE : Nat} {G : List Nat → Gr} (h1 : mI < W3.heap.size) (h2 : mE < W3.heap.size) (h3 : gb < W3.heap.size) : OwnFrom W3.heap.size (fun pre W => BackInv W3 gb mI mE G pre W) := by
  intro pre W W' row h hg hr
  have hk : ∀ k, k < W3.heap.size → W'.heap[k]? = W.heap[k]? := fun k hk => hg.block k (Nat.lt_of_lt_of_le hk h.turn.size) fun e => by have := (hr k e.symm).1; omega
  refine ⟨⟨hg.os.trans h.turn.os, hg.tape.trans h.turn.tape, hg.output.trans h.turn.output, Nat.le_trans h.turn.size hg.size, fun k hk1 hs => (hk k hk1).trans (h.turn.block k hk1 hs), fun a ha => (World.cell?_of_block (hk _ ha)).trans (h.turn.cell a ha), fun a ha => (World.frozen?_of_block (hk _ ha)).trans (h.turn.frozen a ha)⟩, h.g.kept (hk _ h3) (hk _ h1) (hk _ h2)⟩
end Go.Proofs.YtlokljaeknmdpaaGreat

/-! ## LogF -/
namespace Go.Proofs.YtlokljaeknmdpaaGreat
open Go.RowKit Go.Shelf Go.Proofs
open L12 (Raw Raw.cells infoRec)

set_option linter.unusedVariables false

/-- the block that grows is a row of records of the call's own -/
def RowFrom (B : Nat) (w : World) (row : Option Nat) : Prop := ∀ k, row = some k → B ≤ k ∧ ∃ cs fz, w.heap[k]? = some (Obj.cells cs 44 fz)
theorem own_rowFrom {B n : Nat} {w : World} {v : Value} {xs : List Value} (h : w.ownsRow B 44 5 v n xs) : RowFrom B w v.ownBlock := by
  intro k hk
  rcases h.2 with ⟨rfl, _⟩ | ⟨g, cap, cur, rfl, hb, hh, _⟩
  · simp [Value.ownBlock] at hk
  · have : g = k := by simpa [Value.ownBlock] using hk
    subst this
    exact ⟨hb, _, _, hh⟩
theorem run_append_fit {w : World} (ty : TypeId) (B n : Nat) (v : Value) (xs : List Value) (hf : Fit B w v n xs) (hB : B ≤ w.heap.size) (r : Raw) (ad : Addr) (hvb : ∀ j u, r.cells[j]? = some u → w.cell? (ad.add j) = some u) (h1 : ∀ u ∈ r.cells, u.oneCell' = true) (hn : n ≤ 1000) :
    ∃ v' w' row, (Builtin.append_ #[42, 42] ty #[v, .slice (some ad) 1 1]).run Tryz.prog w = .ok v' w' ∧ w'.ownsRow B 44 5 v' (n + 1) (xs ++ r.cells) ∧ w.grownBy w' row ∧ RowFrom B w row := by
  obtain ⟨i0, hinf, hz0, hz1, hz2⟩ := info_parts infoRec
  rcases hf with hf | ⟨hl, ao, rfl, hnone, hcs⟩
  · obtain ⟨v', w', hr, h2, h3, _⟩ := run_append_own_at (P := Tryz.prog) w B 42 ty 44 i0 _ 5 104 Tryz.underlying42 hinf hz0 hz1 hz2 rfl (by decide) v n xs hf ad 1 1 r.cells rfl hvb h1 (by simp only [maxLen]; omega) (by omega) hB
    exact ⟨v', w', _, hr, h2, h3, own_rowFrom hf⟩
  · cases ao with
    | none =>
      obtain rfl := hnone rfl
      have hx : xs = [] := List.eq_nil_of_length_eq_zero (by omega)
      subst hx
      obtain ⟨v', w', hr, h2, h3, _⟩ := run_append_own_at (P := Tryz.prog) w B 42 ty 44 i0 _ 5 104 Tryz.underlying42 hinf hz0 hz1 hz2 rfl (by decide) (.slice none 0 0) 0 [] (World.ownsRow_nil _ _ _ _) ad 1 1 r.cells rfl hvb h1 (by simp only [maxLen]; omega) (by omega) hB
      exact ⟨v', w', _, hr, h2, h3, own_rowFrom (World.ownsRow_nil _ _ _ _)⟩
    | some b =>
      obtain ⟨v', w', hr, h2, h3⟩ := run_append_arg_grows (P := Tryz.prog) w 42 ty 44 i0 _ 5 104 Tryz.underlying42 hinf hz0 hz1 hz2 rfl (by decide) b n n xs hl (fun j u hj => hcs b rfl j u hj) ad 1 1 r.cells rfl hvb (by omega) (by simp only [maxLen]; omega) (by omega)
      exact ⟨v', w', none, hr, ownsRow_mono h2 hB, h3, fun k hk => by cases hk⟩
/-- append at a step of a region that draws its order -/
theorem step_append_fit {w : World} {ops : Array Oper} {o : Oper} {a : Act} {K : Act → World → Prop} {Q : Exit → Act → World → Prop} {E : Prop} (hgd : o.guard = none) (s x : Operand)
    (hop : o.op = Op.call { callee := Callee.builtin Builtin.append, args := #[s, x], argTypes := #[42, 42] }) (B n : Nat) (v : Value) (xs : List Value) (hs : a.eval s = v) (hf : Fit B w v n xs) (hB : B ≤ w.heap.size)
    (r : Raw) (ad : Addr) (hx : a.eval x = .slice (some ad) 1 1) (hvb : ∀ j u, r.cells[j]? = some u → w.cell? (ad.add j) = some u) (h1 : ∀ u ∈ r.cells, u.oneCell' = true) (hn : n ≤ 1000)
    (hK : ∀ v' w' row, w'.ownsRow B 44 5 v' (n + 1) (xs ++ r.cells) → w.grownBy w' row → RowFrom B w row → K (a.put o.dst v') w') :
    if Region.wanted o (yielded ops a.tmps) = true then Oper.wp Tryz.prog o a w K Q else E := by
  obtain ⟨v', w', row, hr, h2, h3, h4⟩ := run_append_fit o.type B n v xs hf hB r ad hvb h1 hn
  have hw : Region.wanted o (yielded ops a.tmps) = true := by simp [Region.wanted, hgd]
  rw [if_pos hw]
  unfold Oper.wp execOp
  simp only [hop, resolve, invoke, builtin, Sem.run_bind, Sem.run_pure, Result.andThen_ok, List.map_toArray, List.map_cons, List.map_nil, hs, hx, hr]
  exact hK _ _ _ h2 h3 h4
theorem wp_append_fit {w : World} {o : Oper} {a : Act} {K : Act → World → Prop} {Q : Exit → Act → World → Prop} (hgd : o.guard = none) (s x : Operand)
    (hop : o.op = Op.call { callee := Callee.builtin Builtin.append, args := #[s, x], argTypes := #[42, 42] }) (B n : Nat) (v : Value) (xs : List Value) (hs : a.eval s = v) (hf : Fit B w v n xs) (hB : B ≤ w.heap.size)
    (r : Raw) (ad : Addr) (hx : a.eval x = .slice (some ad) 1 1) (hvb : ∀ j u, r.cells[j]? = some u → w.cell? (ad.add j) = some u) (h1 : ∀ u ∈ r.cells, u.oneCell' = true) (hn : n ≤ 1000)
    (hK : ∀ v' w' row, w'.ownsRow B 44 5 v' (n + 1) (xs ++ r.cells) → w.grownBy w' row → RowFrom B w row → K (a.put o.dst v') w') : Oper.wp Tryz.prog o a w K Q := by
  have h := step_append_fit (ops := #[]) (E := True) (Q := Q) hgd s x hop B n v xs hs hf hB r ad hx hvb h1 hn hK
  rwa [if_pos (by simp [Region.wanted, hgd])] at h
/-- what is of another type is kept where a row of records grows -/
theorem grown_row {w w' : World} {row : Option Nat} {B : Nat} (hg : w.grownBy w' row) (hrow : RowFrom B w row) {C k n : Nat} {t : TypeId} {v : Value} {xs : List Value} (ht : t ≠ 44) (hr : w.ownsRow C t k v n xs) : w'.ownsRow C t k v n xs := by
  refine row_but hr fun j cs fz hj => hg.block j (Array.getElem?_eq_some_iff.1 hj).1 fun e => ?_
  obtain ⟨_, cs', fz', h⟩ := hrow j e.symm
  rw [hj] at h
  simp only [Option.some.injEq, Obj.cells.injEq] at h
  exact ht h.2.1
theorem grown_rec {w w' : World} {row : Option Nat} {B : Nat} (hg : w.grownBy w' row) (hrow : RowFrom B w row) {C : Nat} {v1 v2 v3 v4 : Value} {r : Rec} (hr : RecAt C w v1 v2 v3 v4 r) : RecAt C w' v1 v2 v3 v4 r :=
  ⟨grown_row hg hrow (by decide) hr.1, grown_row hg hrow (by decide) hr.2.1, grown_row hg hrow (by decide) hr.2.2.1, grown_row hg hrow (by decide) hr.2.2.2⟩
theorem grown_graph {w w' : World} {row : Option Nat} {B : Nat} (hg : w.grownBy w' row) (hrow : RowFrom B w row) {gb mI mE : Nat} {g : Gr} (h : GrAt w gb mI mE g) : GrAt w' gb mI mE g := by
  obtain ⟨⟨e1, n1, k1⟩, ⟨e2, n2, k2⟩⟩ := h.maps
  refine h.kept (hg.block _ h.lt.1 fun e => ?_) (hg.block _ h.lt.2.1 fun e => ?_) (hg.block _ h.lt.2.2 fun e => ?_)
  · obtain ⟨_, cs', fz', k⟩ := hrow _ e.symm
    have hb := h.box
    rw [k] at hb
    simp only [Option.some.injEq, Obj.cells.injEq] at hb
    exact absurd hb.2.1 (by decide)
  · obtain ⟨_, cs', fz', k⟩ := hrow _ e.symm
    rw [k1] at k; cases k
  · obtain ⟨_, cs', fz', k⟩ := hrow _ e.symm
    rw [k2] at k; cases k
theorem But3.grown {a b c : Nat} {w w' w'' : World} {row : Option Nat} (h : But3 a b c w w') (hg : w'.grownBy w'' row) (hrow : RowFrom w.heap.size w' row) : But3 a b c w w'' :=
  ⟨hg.os.trans h.os, hg.tape.trans h.tape, hg.output.trans h.output, Nat.le_trans h.size hg.size, fun k hk h1 h2 h3 => (hg.block k (Nat.lt_of_lt_of_le hk h.size) fun e => by have := (hrow k e.symm).1; omega).trans (h.block k hk h1 h2 h3)⟩
/-- where a slice of records is full, what is appended lies in a new row -/
theorem Fit.of_full {B : Nat} {w : World} {v : Value} {a : Option Addr} {n : Nat} {xs : List Raw} (hv : v = .slice a n n) (h : SlAt w 5 Raw.cells v xs) (hn : n = xs.length) : Fit B w v n (xs.flatMap Raw.cells) := by
  subst hv
  have hl : (xs.flatMap Raw.cells).length = n * 5 := by rw [flat_len (f := Raw.cells) (k := 5) (fun _ => rfl), hn]
  refine .inr ⟨hl, a, rfl, fun e => ?_, fun b hb j u hj => ?_⟩
  · rcases h with ⟨_, _, h0, h1⟩ | ⟨b, off, c', h0, _⟩
    · rw [hn, h1]; rfl
    · rw [e] at h0; simp at h0
  · subst hb
    rcases h with ⟨_, _, h0, h1⟩ | ⟨b', off, c', h0, _, _, h3, h4⟩
    · rw [h1] at hj; simp at hj
    · simp only [Value.slice.injEq, Option.some.injEq] at h0
      obtain ⟨rfl, _⟩ := h0
      rw [Addr.add_lit]
      have hjl : j < xs.length * 5 := by rw [← hn, ← hl]; exact (List.getElem?_eq_some_iff.1 hj).1
      have hq : j / 5 < xs.length := by omega
      have := h4 (j / 5) hq (j % 5) u (by
        have e := flatMap_at Raw.cells 5 (fun _ => rfl) xs (j / 5) (j % 5) hq (by omega)
        rw [show j / 5 * 5 + j % 5 = j by omega] at e
        rw [← e]; exact hj)
      rw [← this]
      congr 2; omega

/-- what holds while records are made anew, but of the graph and of the records' slice -/
structure AddCom (B : Nat) (w : World) (lb mI mE bb gb bI bE : Nat) (L : Lg) (ops : List Op) (vo : Value) (D n : Nat) (vr : Value) (rs : List Raw) (W : World) : Prop where
  b3 : But3 lb mI mE w W
  box : W.heap[lb]? = some (.cells #[.pointer (some ⟨bb, 0, none⟩), .pointer (some ⟨gb, 0, none⟩), .int .i64 L.floor.t, .int .i64 L.floor.r, vo, vr] 132 (0, 0))
  ptr : W.heap[w.heap.size]? = some (.cells #[.pointer (some ⟨lb, 0, none⟩)] 71 (0, 0))
  maps : (∃ es n, W.heap[mI]? = some (Obj.map es n)) ∧ ∃ es n, W.heap[mE]? = some (Obj.map es n)
  base : GrAt W bb bI bE L.base
  recs : RecsOf B L.base ops n rs W
  row : OpsRow w.heap.size vo ops W
  df : W.heap[D]? = some (.deferred (some []))
  lt : lb < w.heap.size ∧ mI < w.heap.size ∧ mE < w.heap.size ∧ w.heap.size ≤ D
  ne : bI ≠ mI ∧ bI ≠ mE ∧ bE ≠ mI ∧ bE ≠ mE
section
variable {B : Nat} {w W W' : World} {lb mI mE bb gb bI bE : Nat} {L : Lg} {ops : List Op} {vo vr : Value} {D n : Nat} {rs : List Raw}
theorem AddCom.blocks (h : AddCom B w lb mI mE bb gb bI bE L ops vo D n vr rs W) : LogBlocks W lb mI mE := ⟨⟨_, _, h.box⟩, h.maps⟩
theorem AddCom.lbne (h : AddCom B w lb mI mE bb gb bI bE L ops vo D n vr rs W) : lb ≠ mI ∧ lb ≠ mE := by
  obtain ⟨⟨e1, n1, k1⟩, ⟨e2, n2, k2⟩⟩ := h.maps
  constructor
  · rintro rfl; rw [h.box] at k1; cases k1
  · rintro rfl; rw [h.box] at k2; cases k2
theorem AddCom.turn (h : AddCom B w lb mI mE bb gb bI bE L ops vo D n vr rs W) (hT : Turn (Maps2 mI mE) W W') (hm : (∃ es n, W'.heap[mI]? = some (Obj.map es n)) ∧ ∃ es n, W'.heap[mE]? = some (Obj.map es n)) : AddCom B w lb mI mE bb gb bI bE L ops vo D n vr rs W' := by
  have hb : But3 lb mI mE W W' := But3.of_turn hT
  have hn := h.lbne
  have hl := h.lt
  exact ⟨h.b3.trans hb, (hT.block _ (Array.getElem?_eq_some_iff.1 h.box).1 fun e => e.elim hn.1 hn.2).trans h.box, (hT.block _ (Array.getElem?_eq_some_iff.1 h.ptr).1 fun e => by rcases e with e | e <;> omega).trans h.ptr, hm,
    hb.graph h.blocks h.base h.ne.1 h.ne.2.1 h.ne.2.2.1 h.ne.2.2.2, h.recs.to fun _ _ _ _ _ hr => hb.recAt h.blocks hr, hb.rows h.blocks (by decide) h.row,
    (hT.block _ (Array.getElem?_eq_some_iff.1 h.df).1 fun e => by rcases e with e | e <;> omega).trans h.df, h.lt, h.ne⟩
theorem AddCom.below (h : AddCom B w lb mI mE bb gb bI bE L ops vo D n vr rs W) (hb : Below W.heap.size W W') : AddCom B w lb mI mE bb gb bI bE L ops vo D n vr rs W' := by
  obtain ⟨⟨e1, n1, k1⟩, ⟨e2, n2, k2⟩⟩ := h.maps
  have hk : ∀ {k : Nat} {o : Obj}, W.heap[k]? = some o → W'.heap[k]? = some o := fun {k o} hk => (hb.block k (Array.getElem?_eq_some_iff.1 hk).1).trans hk
  exact ⟨h.b3.trans (But3.of_below hb), hk h.box, hk h.ptr, ⟨⟨_, _, hk k1⟩, _, _, hk k2⟩, h.base.below hb, h.recs.to fun _ _ _ _ _ hr => hr.kept fun j _ hj => hb.block j hj, h.row.kept hb, hk h.df, h.lt, h.ne⟩
theorem AddCom.grown {row : Option Nat} (h : AddCom B w lb mI mE bb gb bI bE L ops vo D n vr rs W) (hg : W.grownBy W' row) (hrow : RowFrom w.heap.size W row) : AddCom B w lb mI mE bb gb bI bE L ops vo D n vr rs W' := by
  obtain ⟨⟨e1, n1, k1⟩, ⟨e2, n2, k2⟩⟩ := h.maps
  have hl := h.lt
  have hk : ∀ {k : Nat} {o : Obj}, W.heap[k]? = some o → (∀ cs fz, o ≠ .cells cs 44 fz) → W'.heap[k]? = some o := fun {k o} hk ho => (hg.block k (Array.getElem?_eq_some_iff.1 hk).1 fun e => by
    obtain ⟨_, cs, fz, h'⟩ := hrow k e.symm
    rw [hk] at h'
    exact ho cs fz (Option.some.inj h')).trans hk
  refine ⟨h.b3.grown hg hrow, hk h.box fun cs fz e => ?_, hk h.ptr fun cs fz e => ?_, ⟨⟨_, _, hk k1 fun cs fz e => by cases e⟩, _, _, hk k2 fun cs fz e => by cases e⟩, grown_graph hg hrow h.base, h.recs.to fun _ _ _ _ _ hr => grown_rec hg hrow hr, grown_row hg hrow (by decide) h.row, hk h.df fun cs fz e => (by cases e), h.lt, h.ne⟩
  · simp only [Obj.cells.injEq] at e
    exact absurd e.2.1 (by decide)
  · simp only [Obj.cells.injEq] at e
    exact absurd e.2.1 (by decide)
theorem AddCom.set (h : AddCom B w lb mI mE bb gb bI bE L ops vo D n vr rs W) (vr' : Value) : AddCom B w lb mI mE bb gb bI bE L ops vo D n vr' rs (W.setCell ⟨lb, 5, none⟩ vr') := by
  obtain ⟨⟨e1, n1, k1⟩, ⟨e2, n2, k2⟩⟩ := h.maps
  have hn := h.lbne
  have hl := h.lt
  have hb : But3 lb mI mE W (W.setCell ⟨lb, 5, none⟩ vr') := (But3.refl W).setCell 5 vr'
  have hk : ∀ k, k ≠ lb → (W.setCell ⟨lb, 5, none⟩ vr').heap[k]? = W.heap[k]? := fun k hk => Below.heap_setCell _ _ _ k hk
  exact ⟨h.b3.setCell 5 vr', heap_setCell_at h.box 5 _, (hk _ (by omega)).trans h.ptr, ⟨⟨_, _, (hk _ hn.1.symm).trans k1⟩, _, _, (hk _ hn.2.symm).trans k2⟩, hb.graph h.blocks h.base h.ne.1 h.ne.2.1 h.ne.2.2.1 h.ne.2.2.2, h.recs.to fun _ _ _ _ _ hr => hb.recAt h.blocks hr, hb.rows h.blocks (by decide) h.row, (hk _ (by omega)).trans h.df, h.lt, h.ne⟩
end
/-- what holds between two rounds of the loop that makes records anew -/
structure AddInv (B : Nat) (w : World) (lb mI mE bb gb bI bE : Nat) (L : Lg) (ops : List Op) (p : Nat) (vo : Value) (D i : Nat) (vr : Value) (rs : List Raw) (W : World) : Prop where
  com : AddCom B w lb mI mE bb gb bI bE L ops vo D (p + i) vr rs W
  g : GrAt W gb mI mE (gAt L.base ops (p + i))
  fit : Fit w.heap.size W vr (p + i) (rs.flatMap Raw.cells)
  own : 0 < i → W.ownsRow w.heap.size 44 5 vr (p + i) (rs.flatMap Raw.cells)
theorem Fit.kept {B : Nat} {w w' : World} {v : Value} {n : Nat} {xs : List Value} (h : Fit B w v n xs) (hc : ∀ a : Addr, a.block < w.heap.size → w'.cell? a = w.cell? a) (hk : w.ownsRow B 44 5 v n xs → w'.ownsRow B 44 5 v n xs) : Fit B w' v n xs := by
  rcases h with h | ⟨hl, ao, rfl, hnone, hcs⟩
  · exact .inl (hk h)
  · refine .inr ⟨hl, ao, rfl, hnone, fun b hb j u hj => ?_⟩
    have h1 := hcs b hb j u hj
    exact (hc _ (World.block_lt_of_cell? _ _ h1)).trans h1
section
variable {B : Nat} {w W W1 W2 W3 W4 : World} {lb mI mE bb gb bI bE : Nat} {L : Lg} {ops : List Op} {p : Nat} {vo vr : Value} {D i : Nat} {rs : List Raw}
theorem AddInv.below (h : AddInv B w lb mI mE bb gb bI bE L ops p vo D i vr rs W) (hb : Below W.heap.size W W1) : AddInv B w lb mI mE bb gb bI bE L ops p vo D i vr rs W1 :=
  ⟨h.com.below hb, h.g.below hb, h.fit.kept (fun a ha => hb.cell ha) fun hr => ownsRow_keep hr fun j _ hj => hb.block j hj, fun hi => ownsRow_keep (h.own hi) fun j _ hj => hb.block j hj⟩
theorem row_cap {w : World} {C k n m c : Nat} {t : TypeId} {a : Option Addr} {xs : List Value} (h : w.ownsRow C t k (.slice a m c) n xs) : n ≤ c := by
  rcases h.2 with ⟨_, h0⟩ | ⟨g, cap, cur, hv, _, _, h1, _⟩
  · omega
  · simp only [Value.slice.injEq] at hv
    omega
/-- one round -/
theorem AddInv.step (h : AddInv B w lb mI mE bb gb bI bE L ops p vo D i vr rs W) {v1 v2 v3 v4 v' : Value} {e : Int} {row : Option Nat} {C : Nat} (hC : B ≤ C) (hT : Turn (Maps2 mI mE) W W1) (hr : RecAt C W1 v1 v2 v3 v4 (diffOf (gAt L.base ops (p + i)) (gAt L.base ops (p + i + 1)))) (hg : GrAt W1 gb mI mE (gAt L.base ops (p + i + 1)))
    (hb : Below W1.heap.size W1 W2) (hgr : W2.grownBy W3 row) (hrow : RowFrom w.heap.size W2 row) (hown : W3.ownsRow w.heap.size 44 5 v' (p + i + 1) (rs.flatMap Raw.cells ++ [v1, v2, v3, v4, .int .i64 e])) (h34 : Below W3.heap.size W3 W4) :
    AddInv B w lb mI mE bb gb bI bE L ops p vo D (i + 1) v' (rs ++ [⟨v1, v2, v3, v4, e⟩]) (W4.setCell ⟨lb, 5, none⟩ v') := by
  have c1 := h.com.turn hT hg.maps
  have c1' : AddCom B w lb mI mE bb gb bI bE L ops vo D (p + (i + 1)) vr (rs ++ [⟨v1, v2, v3, v4, e⟩]) W1 := ⟨c1.b3, c1.box, c1.ptr, c1.maps, c1.base, c1.recs.snoc e (hr.mono hC), c1.row, c1.df, c1.lt, c1.ne⟩
  have c2 := ((c1'.below hb).grown hgr hrow).below h34
  have c3 := c2.set v'
  have g2 := (grown_graph hgr hrow (hg.below hb)).below h34
  have hn := c2.lbne
  have hb3 : But3 lb mI mE W4 (W4.setCell ⟨lb, 5, none⟩ v') := (But3.refl W4).setCell 5 v'
  have hown' : (W4.setCell ⟨lb, 5, none⟩ v').ownsRow w.heap.size 44 5 v' (p + (i + 1)) ((rs ++ [(⟨v1, v2, v3, v4, e⟩ : Raw)]).flatMap Raw.cells) := by
    rw [List.flatMap_append]
    exact hb3.rows c2.blocks (by decide) (ownsRow_keep hown fun j _ hj => h34.block j hj)
  have hgb : gb ≠ lb := by
    rintro rfl
    have e1 := g2.box
    rw [c2.box] at e1
    simp only [Option.some.injEq, Obj.cells.injEq] at e1
    exact absurd e1.2.1 (by decide)
  exact ⟨c3, g2.kept (Below.heap_setCell _ _ _ _ hgb) (Below.heap_setCell _ _ _ _ hn.1.symm) (Below.heap_setCell _ _ _ _ hn.2.symm), .inl hown', fun _ => hown'⟩
/-- what is left is a log -/
theorem AddInv.log (h : AddInv B w lb mI mE bb gb bI bE L ops p vo D i vr rs W) (hi : 0 < i) (hn : p + i = ops.length) (hok : (⟨L.base, L.floor, ops⟩ : Lg).Ok) (hsm : ∀ o ∈ ops, o.Small) (hf : ops.length ≤ 500) (hB : B ≤ w.heap.size) (hge : B ≤ lb ∧ B ≤ gb ∧ B ≤ mI ∧ B ≤ mE) (hbb : B ≤ bb ∧ B ≤ bI ∧ B ≤ bE) : LogAt B W lb gb mI mE ⟨L.base, L.floor, ops⟩ := by
  have hr := h.com.recs
  have ho := h.own hi
  have hg := h.g
  rw [hn] at hr ho hg
  refine ⟨⟨bb, bI, bE, vo, vr, rs, h.com.box, h.com.base, h.com.row.mono hB, ownsRow_mono ho hB, hr, hbb, h.com.ne⟩, ?_, hok, hsm, hf, hge⟩
  unfold Lg.g
  rw [← gAt_all]
  exact hg
end
/-- a slice cut off behind its first k, with no room -/
theorem sl_full {α : Type} [Inhabited α] {w : World} {n : Nat} {enc : α → List Value} {a : Option Addr} {m c : Nat} {zs : List α} (h : SlAt w n enc (.slice a m c) zs) {k : Nat} (hk : k ≤ zs.length) : SlAt w n enc (.slice a k k) (zs.take k) := by
  cases k with
  | zero => exact .inl ⟨_, _, rfl, rfl⟩
  | succ k =>
    rcases h with ⟨_, _, _, h1⟩ | ⟨b, off, c', h0, h1, h2, h3, h4⟩
    · rw [h1] at hk; exact absurd hk (Nat.not_succ_le_zero _)
    · simp only [Value.slice.injEq] at h0
      obtain ⟨rfl, _, _⟩ := h0
      have hl : (zs.take (k + 1)).length = k + 1 := by rw [List.length_take]; omega
      refine .inr ⟨b, off, k + 1, by rw [hl], by omega, by omega, h3, fun j hj i u hu => ?_⟩
      rw [hl] at hj
      have e : (zs.take (k + 1))[j]! = zs[j]! := by
        rw [getElem!_pos _ j (by omega), getElem!_pos zs j (by omega), List.getElem_take]
      rw [e] at hu
      exact h4 j (by omega) i u hu
section
variable {B : Nat} {w W W3 : World} {lb mI mE bb gb bI bE : Nat} {L : Lg} {ops : List Op} {p : Nat} {vo vo0 vr0 : Value} {D n c : Nat} {ra : Option Addr} {rs : List Raw}
/-- behind the stores -/
theorem AddInv.start (hW : Below w.heap.size w W3) (hT : Turn (Maps2 mI mE) W3 W) (hl : LogBlocks W3 lb mI mE) (hbox : W3.heap[lb]? = some (.cells #[.pointer (some ⟨bb, 0, none⟩), .pointer (some ⟨gb, 0, none⟩), .int .i64 L.floor.t, .int .i64 L.floor.r, vo0, .slice ra n c] 132 (0, 0)))
    (hptr : W3.heap[w.heap.size]? = some (.cells #[.pointer (some ⟨lb, 0, none⟩)] 71 (0, 0))) (hbase : GrAt W3 bb bI bE L.base) (hg : GrAt W gb mI mE (gAt L.base L.ops p)) (hrow : OpsRow w.heap.size vo ops W3)
    (hrec : RecsOf B L.base L.ops n rs W3) (hrr : W3.ownsRow B 44 5 (.slice ra n c) n (rs.flatMap Raw.cells)) (hp : p ≤ n) (ht : ∀ j, j ≤ p → ops.take j = L.ops.take j) (hd : W.heap[D]? = some (.deferred (some [])))
    (hlt : lb < w.heap.size ∧ mI < w.heap.size ∧ mE < w.heap.size ∧ w.heap.size ≤ D) (hne : bI ≠ mI ∧ bI ≠ mE ∧ bE ≠ mI ∧ bE ≠ mE) :
    AddInv B w lb mI mE bb gb bI bE L ops p vo D 0 (.slice ra p p) (rs.take p) ((W.setCell ⟨lb, 4, none⟩ vo).setCell ⟨lb, 5, none⟩ (.slice ra p p)) := by
  have hs3 := hW.size
  have hb1 : But3 lb mI mE W3 W := But3.of_turn hT
  have hlb : lb ≠ mI ∧ lb ≠ mE := by
    obtain ⟨_, ⟨e1, n1, k1⟩, ⟨e2, n2, k2⟩⟩ := hl
    constructor
    · rintro rfl; rw [hbox] at k1; cases k1
    · rintro rfl; rw [hbox] at k2; cases k2
  have hboxW := (hT.block lb (by omega) fun e => e.elim hlb.1 hlb.2).trans hbox
  have hlW : LogBlocks W lb mI mE := ⟨⟨_, _, hboxW⟩, hg.maps⟩
  have hb2 : But3 lb mI mE W ((W.setCell ⟨lb, 4, none⟩ vo).setCell ⟨lb, 5, none⟩ (.slice ra p p)) := ((But3.refl W).setCell 4 _).setCell 5 _
  have hk : ∀ k, k ≠ lb → ((W.setCell ⟨lb, 4, none⟩ vo).setCell ⟨lb, 5, none⟩ (.slice ra p p)).heap[k]? = W.heap[k]? := fun k hk => (Below.heap_setCell _ _ _ k hk).trans (Below.heap_setCell _ _ _ k hk)
  have hgb : gb ≠ lb := by
    rintro rfl
    have e1 := hg.box
    rw [hboxW] at e1
    simp only [Option.some.injEq, Obj.cells.injEq] at e1
    exact absurd e1.2.1 (by decide)
  obtain ⟨⟨e1, n1, k1⟩, ⟨e2, n2, k2⟩⟩ := hg.maps
  have hr9 := hb2.rows hlW (by decide) (hb1.rows hl (by decide) hrr)
  have hlen := hrec.1
  have hsl := sl_full (SlAt.of_row (enc := Raw.cells) (k := 5) (zs := rs) (fun _ => rfl) (by rw [hlen]; exact hr9)) (k := p) (by omega)
  refine ⟨⟨((But3.of_below hW).trans hb1).trans hb2, heap_setCell_at (heap_setCell_at hboxW 4 _) 5 _, (hk _ (by omega)).trans ((hT.block _ (Array.getElem?_eq_some_iff.1 hptr).1 fun e => by rcases e with e | e <;> omega).trans hptr), ⟨⟨_, _, (hk _ hlb.1.symm).trans k1⟩, _, _, (hk _ hlb.2.symm).trans k2⟩,
    hb2.graph hlW (hb1.graph hl hbase hne.1 hne.2.1 hne.2.2.1 hne.2.2.2) hne.1 hne.2.1 hne.2.2.1 hne.2.2.2, ?_, hb2.rows hlW (by decide) (hb1.rows hl (by decide) hrow), (hk _ (by omega)).trans hd, hlt, hne⟩, ?_, ?_, fun h => absurd h (Nat.lt_irrefl _)⟩
  · exact (hrec.take (l' := ops) hp ht).to fun _ _ _ _ _ hr => hb2.recAt hlW (hb1.recAt hl hr)
  · rw [Nat.add_zero, gAt_congr L.base (ht p (Nat.le_refl _))]
    exact hg.kept (hk _ hgb) (hk _ hlb.1.symm) (hk _ hlb.2.symm)
  · exact Fit.of_full rfl hsl (by rw [List.length_take]; omega)
end
/-- a log is kept where only a block of deferred calls turns -/
theorem LogAt.other {B : Nat} {w w' : World} {lb gb mI mE : Nat} {L : Lg} (h : LogAt B w lb gb mI mE L) {D : Nat} {x : Option (List Deferred)} (hd : w.heap[D]? = some (.deferred x)) (hk : ∀ k, k < w.heap.size → k ≠ D → w'.heap[k]? = w.heap[k]?) : LogAt B w' lb gb mI mE L := by
  obtain ⟨bb, bI, bE, vo, vr, rs, h1, h2, h3, h4, h5, h6, h7⟩ := h.parts
  have hc : ∀ {j : Nat} {cs : Array Value} {t : TypeId} {fz : Nat × Nat}, w.heap[j]? = some (.cells cs t fz) → w'.heap[j]? = w.heap[j]? := fun {j cs t fz} hj => hk j (Array.getElem?_eq_some_iff.1 hj).1 (by rintro rfl; rw [hj] at hd; cases hd)
  have hr : ∀ {C k n : Nat} {t : TypeId} {v : Value} {xs : List Value}, w.ownsRow C t k v n xs → w'.ownsRow C t k v n xs := fun hr => row_but hr fun j cs fz hj => hc hj
  have hg : ∀ {a b c : Nat} {g : Gr}, GrAt w a b c g → GrAt w' a b c g := fun {a b c g} hg => by
    obtain ⟨⟨e1, n1, k1⟩, ⟨e2, n2, k2⟩⟩ := hg.maps
    exact hg.kept (hc hg.box) (hk _ hg.lt.2.1 (by rintro rfl; rw [k1] at hd; cases hd)) (hk _ hg.lt.2.2 (by rintro rfl; rw [k2] at hd; cases hd))
  exact ⟨⟨bb, bI, bE, vo, vr, rs, (hc h1).trans h1, hg h2, hr h3, hr h4, h5.to fun _ _ _ _ _ hq => ⟨hr hq.1, hr hq.2.1, hr hq.2.2.1, hr hq.2.2.2⟩, h6, h7⟩, hg h.g, h.ok, h.small, h.few, h.ge⟩
theorem Fit.alloc {B : Nat} {w : World} {v : Value} {n : Nat} {xs : List Value} (h : Fit B w v n xs) (o : Obj) : Fit B (w.alloc o) v n xs :=
  h.kept (fun a ha => ((Below.refl _ w).alloc (Nat.le_refl _) o).cell ha) fun hr => hr.alloc o
theorem raw_new (w : World) (r : Raw) : ∀ j u, r.cells[j]? = some u → (w.alloc (.cells #[r.a, r.b, r.c, r.d, .int .i64 r.e] 44)).cell? ((⟨w.heap.size, 0, none⟩ : Addr).add j) = some u := fun j u hj => by
  rw [Addr.add_lit, Nat.zero_add]
  exact cell_new w _ rfl _ _ j u (by simpa [Raw.cells] using hj)
theorem raw_one (s1 s2 s3 s4 : Option Addr) (n1 n2 n3 n4 t1 t2 t3 t4 : Nat) (e : Int) : ∀ u ∈ Raw.cells ⟨.slice s1 n1 t1, .slice s2 n2 t2, .slice s3 n3 t3, .slice s4 n4 t4, e⟩, u.oneCell' = true := by
  intro u hu
  simp only [Raw.cells, List.mem_cons, List.not_mem_nil, or_false] at hu
  rcases hu with rfl | rfl | rfl | rfl | rfl <;> rfl
end Go.Proofs.YtlokljaeknmdpaaGreat

/-! ## RegN -/
namespace Go.Proofs.YtlokljaeknmdpaaGreat

section
variable {P : Program} {ops : Array Oper} {Q : Exit → Act → World → Prop} {md : Region.Mode} {S : World → Prop}
/-- whatever order is picked; behind each operation but number n, S holds -/
def wpAnyN (n : Nat) (P : Program) (md : Region.Mode) (ops : Array Oper) (Q : Exit → Act → World → Prop) (S : World → Prop) : Nat → Array Bool → Act → World → Prop
  | 0, listed, a, w => Region.ready md ops listed = [] ∧ Q .normal a w
  | fuel + 1, listed, a, w => (Region.ready md ops listed = [] → Q .normal a w) ∧ ∀ i ∈ Region.ready md ops listed, wpOp P ops Q i (fun a' w' => (i ≠ n → S w') ∧ wpAnyN n P md ops Q S fuel (listed.setIfInBounds i true) a' w') a w
theorem wpAny_of_N (n : Nat) : ∀ (fuel : Nat) (listed : Array Bool) (a : Act) (w : World), wpAnyN n P md ops Q S fuel listed a w → wpAny P md ops Q fuel listed a w
  | 0, _, _, _, h => h
  | fuel + 1, _, _, _, h => ⟨h.1, fun i hi => wpOp_mono (fun a' w' h' => wpAny_of_N n fuel _ a' w' h'.2) (h.2 i hi)⟩
/-- does operation number n wait for number i? -/
def waitsB (md : Region.Mode) (ops : Array Oper) (n i : Nat) : Bool := ((ops[n]?).map fun o => o.after.any fun e => Region.binds md e && e.on == i).getD false
theorem waits_not {n i : Nat} {listed : Array Bool} (hw : waitsB md ops n i = true) (hi : listed.getD i true = false) : n ∉ Region.ready md ops listed := by
  intro hr
  obtain ⟨_, o, ho, hall⟩ := mem_ready.1 hr
  unfold waitsB at hw
  rw [ho] at hw
  simp only [Option.map_some, Option.getD_some, Array.any_eq_true] at hw
  obtain ⟨k, hk, hb⟩ := hw
  simp only [Bool.and_eq_true, beq_iff_eq] at hb
  have h1 := hall _ (Array.getElem_mem hk) hb.1
  rw [hb.2] at h1
  rcases Nat.lt_or_ge i listed.size with h' | h'
  · simp [h'] at hi h1
    rw [hi] at h1
    cases h1
  · simp [Array.getElem?_eq_none h'] at h1
theorem wpAnyN_first {n i : Nat} {oi : Oper} {v : Value} (hi : ops[i]? = some oi) (hw : waitsB md ops n i = true) (hni : i ≠ n) (hsel : ∀ (j : Nat) (o : Oper) cs b, ops[j]? = some o → o.op ≠ .select cs b)
    (hQ : ∀ c a w, Q (.panic c) (a.put oi.dst v) w → Q (.panic c) a w) :
    ∀ (fuel : Nat) (listed : Array Bool) (a : Act) (w : World),
      (∀ j oj, ops[j]? = some oj → j ≠ i → listed.getD j true = false → (∀ e ∈ oj.after, Region.binds md e = true → e.on ≠ i) → oi.apart ops oj = true) →
      i ∈ Region.ready md ops listed → YieldsIf P ops S oi v a → S w →
      wpAnyN n P md ops Q S fuel (listed.setIfInBounds i true) (a.put oi.dst v) w → wpAnyN n P md ops Q S (fuel + 1) listed a w
  | fuel, listed, a, w, hfree, hr, hy, hS, H => by
    refine ⟨fun h => (by rw [h] at hr; cases hr), fun j hj => ?_⟩
    by_cases hji : j = i
    · subst hji
      exact hy.wpOp hi hS ⟨fun _ => hS, H⟩
    · have hli := (mem_ready.1 hr).1
      have hjn : j ≠ n := fun e => waits_not hw hli (e ▸ hj)
      have hjr := ready_mono hj hji
      cases fuel with
      | zero => rw [H.1] at hjr; cases hjr
      | succ fuel =>
        have h1 := H.2 j hjr
        obtain ⟨hjun, oj, hoj, hall⟩ := mem_ready.1 hj
        have hnot : ∀ e ∈ oj.after, Region.binds md e = true → e.on ≠ i := fun e he hb heq => by
          have h2 := hall e he hb
          rw [heq] at h2
          rcases Nat.lt_or_ge i listed.size with h' | h'
          · simp [h'] at hli h2
            rw [hli] at h2
            cases h2
          · simp [Array.getElem?_eq_none h'] at h2
        have h2 := wpOp_putIf hoj (hfree j oj hoj hji hjun hnot) (fun cs b => hsel i oi cs b hi) (fun cs b => hsel j oj cs b hoj) hQ hy h1
        refine wpOp_mono (fun a' w' h3 => ⟨h3.2.1, wpAnyN_first hi hw hni hsel hQ fuel (listed.setIfInBounds j true) a' w' (fun k ok hk hki hun hno => hfree k ok hk hki ?_ hno) (ready_mono hr (Ne.symm hji)) h3.1 (h3.2.1 hjn) ?_⟩) h2
        · by_cases hjk : j = k
          · subst hjk; exact hjun
          · rw [getD_set_ne true hjk] at hun; exact hun
        · rw [Array.setIfInBounds_comm _ _ hji]
          exact h3.2.2
theorem wpAnyN_take {n i : Nat} {oi : Oper} {v : Value} {fuel : Nat} {listed : Array Bool} {a : Act} {w : World} (hi : ops[i]? = some oi)
    (hs : Region.noSelect ops = true) (hw : waitsB md ops n i = true) (hni : i ≠ n) (hf : Region.free md ops listed i = true) (hr : (Region.ready md ops listed).contains i = true)
    (hQ : ∀ c a w, Q (.panic c) (a.put oi.dst v) w → Q (.panic c) a w) (hy : YieldsIf P ops S oi v a) (hS : S w)
    (h : wpAnyN n P md ops Q S fuel (listed.setIfInBounds i true) (a.put oi.dst v) w) : wpAnyN n P md ops Q S (fuel + 1) listed a w :=
  wpAnyN_first hi hw hni (Region.noSelect_spec hs) hQ fuel listed a w (Region.free_spec hi hf) (by simpa using hr) hy hS h
/-- only one may come up -/
theorem wpAnyN_one {n i : Nat} {o : Oper} {fuel : Nat} {listed : Array Bool} {a : Act} {w : World} (hr : Region.ready md ops listed = [i]) (hi : ops[i]? = some o) (hg : o.guard = none)
    (h : o.wp P a w (fun a' w' => (i ≠ n → S w') ∧ wpAnyN n P md ops Q S fuel (listed.setIfInBounds i true) a' w') Q) : wpAnyN n P md ops Q S (fuel + 1) listed a w := by
  refine ⟨fun h0 => (by rw [hr] at h0; cases h0), fun j hj => ?_⟩
  rw [hr] at hj
  obtain rfl := List.mem_singleton.1 hj
  unfold wpOp
  rw [hi]
  simp only [Region.wanted, hg, if_true]
  exact .inl h
theorem wpAnyN_done {n : Nat} {listed : Array Bool} {a : Act} {w : World} (hr : Region.ready md ops listed = []) (h : Q .normal a w) : ∀ fuel, wpAnyN n P md ops Q S fuel listed a w
  | 0 => ⟨hr, h⟩
  | _ + 1 => ⟨fun _ => h, by rw [hr]; simp⟩
theorem wp_region_N (n : Nat) {id : Nat} {a : Act} {w : World} (hm : P.follows .mixedOrders = true)
    (h : wpAnyN n P .any ops Q S ops.size (Array.replicate ops.size false) a w.drew) : (Code.region id ops true).wp P Q a w :=
  wp_region_any hm (wpAny_of_N n _ _ _ _ h)
end
end Go.Proofs.YtlokljaeknmdpaaGreat
