/-
  (*oplog.Log).Add where an operation is added; condition: the log is in order. · (*oplog.Log).Add, all of it; oplog.From, oplog.New; conditions: texts within reach, at most 500 operations.
-/
import Derived.Test.YtlokljaeknmdpaaGreatKZ44
import Derived.Stop.RegionWithIn
import Derived.Deep.RegionHeld3
/-! ## LogC -/
namespace Go.Proofs.YtlokljaeknmdpaaGreat
open Go.RowKit Go.Shelf Go.Sort Go.Proofs
open L12 (Raw Raw.cells infoRec)

attribute [local go_sem] Oper.semAt_some

/-- the block of the log's slice of operations is one of K -/
def OpsIn (w : World) (lb : Nat) (K : Nat → Prop) : Prop := ∀ v g, w.cell? ⟨lb, 4, none⟩ = some v → v.ownBlock = some g → K g
theorem OpsIn.to {w w' : World} {lb : Nat} {K K' : Nat → Prop} (h : OpsIn w lb K) (hc : w'.cell? ⟨lb, 4, none⟩ = w.cell? ⟨lb, 4, none⟩) (hk : ∀ g, K g → K' g) : OpsIn w' lb K' := fun v g h1 h2 => hk g (h v g (hc ▸ h1) h2)
theorem OpsIn.of_row {w w' : World} {lb B C : Nat} {a b c d v r : Value} {l : List Op} {t : TypeId} {fz : Nat × Nat} (hb : w.heap[lb]? = some (.cells #[a, b, c, d, v, r] t fz)) (hr : OpsRow B v l w') (hC : C ≤ B) : OpsIn w lb (fun g => C ≤ g) := fun v' g h1 h2 => by
  rw [(log_cells hb).2.2.2.2.1] at h1
  obtain rfl := Option.some.inj h1
  rcases hr.2 with ⟨rfl, _⟩ | ⟨g', cap, cur, rfl, h3, _⟩
  · simp [Value.ownBlock] at h2
  · have : g' = g := by simpa [Value.ownBlock] using h2
    omega

set_option linter.unusedSimpArgs false in
set_option maxRecDepth 100000 in
set_option maxHeartbeats 4000000 in
theorem add_new2 (B lb gb mI mE : Nat) (L : Lg) (o : Op) (w : World) (h : LogAt B w lb gb mI mE L) (hs : o.Small) (hm : opMay o = true) (hc : ltSt L.floor o.stamp) (hb : putB L.ops o = true) (hl : L.ops.length < 500) :
    Calls Tryz.prog 54 #[.pointer (some ⟨lb, 0, none⟩), o.v] w fun e w' => e = .returned (.bool true) ∧ LogAt B w' lb gb mI mE (L.add o) ∧ But3 lb mI mE w w' ∧ OpsIn w' lb (fun g => w.heap.size ≤ g) := by
  obtain ⟨bb, bI, bE, vo, vr, rs, h1, h2, h3, h4, h5, h6, h7⟩ := h.parts
  have hrsh := row_len5 h4
  have hbx := addBox_new w lb o _ h1
  obtain ⟨W0, hW0⟩ : ∃ W0, W0 = ((w.alloc (.cells #[.pointer (some ⟨lb, 0, none⟩)] 71)).alloc (.cells #[.int .i64 o.stamp.t, .int .i64 o.stamp.r, .int .i64 o.kind, .int .i64 o.at_.t, .int .i64 o.at_.r, .int .i64 o.ino.t, .int .i64 o.ino.r, .int .i64 o.to.t, .int .i64 o.to.r, .string o.name, .string o.new, .int .i64 o.off, .string o.data] 47)) := ⟨_, rfl⟩
  rw [← hW0] at hbx
  have HBW : Hid (Below w.heap.size w W0 ∧ w.heap.size ≤ W0.heap.size) := Lib.hid ⟨by rw [hW0]; exact ((Below.refl _ _).alloc (Nat.le_refl _) _).alloc (by simp) _, by rw [hW0]; simp only [World.size_alloc]; omega⟩
  have HM := Lib.hid (fun W => opMay_any o W hs)
  rw [hm] at HM
  have hcl := cmpSt_le (a := o.stamp) (b := L.floor)
  rw [decide_eq_true hc, Bool.not_true] at hcl
  have HPB : Hid (W0.heap[w.heap.size]? = some (.cells #[.pointer (some ⟨lb, 0, none⟩)] 71 (0, 0))) := Lib.hid (by rw [hW0]; exact (Below.heap_alloc _ _ _ (by simp)).trans (World.alloc_heap_new w _))
  have HZ0 : Hid (W0.heap.size = w.heap.size + 2) := Lib.hid (by rw [hW0]; simp only [World.size_alloc])
  have HPUT : Hid (∀ W, Below W0.heap.size W0 W → Calls Tryz.prog 37 #[vo, (.agg #[.int .i64 o.stamp.t, .int .i64 o.stamp.r, .int .i64 o.kind, .int .i64 o.at_.t, .int .i64 o.at_.r, .int .i64 o.ino.t, .int .i64 o.ino.r, .int .i64 o.to.t, .int .i64 o.to.r, .string o.name, .string o.new, .int .i64 o.off, .string o.data])] W fun e w' => ∃ v', e = .returned (.tuple #[v', .int .i64 (placeOf L.ops o), .bool (putB L.ops o)]) ∧ (putB L.ops o = false → v' = vo) ∧
      (putB L.ops o = true → w'.ownsRow W.heap.size 47 13 v' (putOp L.ops o).length ((putOp L.ops o).flatMap Op.cells)) ∧ Below W0.heap.size W0 w') := Lib.hid fun W hW =>
    (put_any vo L.ops o W ((h3.sl.below HBW.out.1).below hW) h.ok.rises (by have := h.few; omega) hs).mono fun e w' ⟨v', k1, k2, k3, k4⟩ => ⟨v', k1, k2, k3, hW.trans (k4.mono hW.size)⟩
  have HPL : Hid (placeOf L.ops o ≤ L.ops.length ∧ L.ops.length ≤ 500) := Lib.hid ⟨place_le L.ops o, h.few⟩
  have HLG := Lib.hid h
  have HRR := Lib.hid h4
  have HRC := Lib.hid h5
  have HBX := Lib.hid hbx
  have HOW := Lib.hid h3
  have HPT := Lib.hid (show _ ∧ _ ∧ _ ∧ _ from ⟨h1, h2, h6, h7⟩)
  have hlp := putOp_len L.ops o
  rw [hb, if_pos rfl] at hlp
  have HPI := Lib.hid (put_is hb)
  have HAD : Hid (L.add o = ⟨L.base, L.floor, putOp L.ops o⟩) := Lib.hid (by unfold Lg.add Lg.addB; rw [hb, decide_eq_true hc]; rfl)
  have HSMO := Lib.hid hs
  have HSMP : Hid (∀ x ∈ putOp L.ops o, x.Small) := Lib.hid fun x hx => by
    rcases mem_putOp.1 hx with hx | ⟨rfl, _⟩
    · exact h.small x hx
    · exact hs
  have HOKP : Hid ((⟨L.base, L.floor, putOp L.ops o⟩ : Lg).Ok) := Lib.hid (by have := h.ok.add o; rw [HAD.out] at this; exact this)
  have HGEB : Hid (B ≤ w.heap.size ∧ True) := Lib.hid ⟨by have := h.ge; have := h.lt; omega, trivial⟩
  unfold Op.v at HM ⊢
  have HJ : Hid (∀ W, Below W0.heap.size W0 W → (fun W : World => (W.cell? ⟨w.heap.size, 0, none⟩ = some (.pointer (some ⟨lb, 0, none⟩)) ∧ (W.cell? ⟨lb, 0, none⟩ = some (.pointer (some ⟨bb, 0, none⟩)) ∧ W.cell? ⟨lb, 1, none⟩ = some (.pointer (some ⟨gb, 0, none⟩)) ∧ W.cell? ⟨lb, 2, none⟩ = some (.int .i64 L.floor.t) ∧ W.cell? ⟨lb, 3, none⟩ = some (.int .i64 L.floor.r) ∧ W.cell? ⟨lb, 4, none⟩ = some (vo) ∧ W.cell? ⟨lb, 5, none⟩ = some (vr))) ∧ (W.cell? ⟨w.heap.size + 1, 0, none⟩ = some (.int .i64 o.stamp.t) ∧ W.cell? ⟨w.heap.size + 1, 1, none⟩ = some (.int .i64 o.stamp.r) ∧ W.cell? ⟨w.heap.size + 1, 2, none⟩ = some (.int .i64 o.kind) ∧ W.cell? ⟨w.heap.size + 1, 3, none⟩ = some (.int .i64 o.at_.t) ∧ W.cell? ⟨w.heap.size + 1, 4, none⟩ = some (.int .i64 o.at_.r) ∧ W.cell? ⟨w.heap.size + 1, 5, none⟩ = some (.int .i64 o.ino.t) ∧ W.cell? ⟨w.heap.size + 1, 6, none⟩ = some (.int .i64 o.ino.r) ∧ W.cell? ⟨w.heap.size + 1, 7, none⟩ = some (.int .i64 o.to.t) ∧ W.cell? ⟨w.heap.size + 1, 8, none⟩ = some (.int .i64 o.to.r) ∧ W.cell? ⟨w.heap.size + 1, 9, none⟩ = some (.string o.name) ∧ W.cell? ⟨w.heap.size + 1, 10, none⟩ = some (.string o.new) ∧ W.cell? ⟨w.heap.size + 1, 11, none⟩ = some (.int .i64 o.off) ∧ W.cell? ⟨w.heap.size + 1, 12, none⟩ = some (.string o.data) ∧ w.heap.size + 1 < W.heap.size)) W) := Lib.hid fun W hW => (hbx.below hW).cells
  have HBQ : Hid (Below W0.heap.size W0 W0) := Lib.hid (Below.refl _ _)
  rw [hb] at HPUT
  obtain ⟨ra, rc, hrv⟩ := hrsh
  clear h h1 h2 h3 h4 h5 h6 h7 hm hs hbx hc hb
  refine (callsIn_wide (n := 8)).1 ?_
  refine callsIn_of_wp_marks Tryz.func54 rfl trivial ?_ rfl
  simp only [Tryz.ntmps54, List.size_toArray, List.length_cons, List.length_nil, Nat.reduceAdd, Nat.reduceSub, Array.replicate_succ, Array.replicate_zero, List.push_toArray, List.append_toArray, List.nil_append, List.cons_append]
  refine wpIn_wide.2 ?_
  go_wp2_with fail
  rw [← hW0]
  clear hW0
  have q0 : ∀ d os, (grow (redrawn W0 d) os).cell? ⟨w.heap.size, 0, none⟩ = some (.pointer (some ⟨lb, 0, none⟩)) := fun d os => (HJ.out _ (below_regrown W0 d os)).1.1
  have q1 : ∀ d os, (grow (redrawn W0 d) os).cell? ⟨lb, 0, none⟩ = some (.pointer (some ⟨bb, 0, none⟩)) := fun d os => (HJ.out _ (below_regrown W0 d os)).1.2.1
  have q2 : ∀ d os, (grow (redrawn W0 d) os).cell? ⟨lb, 1, none⟩ = some (.pointer (some ⟨gb, 0, none⟩)) := fun d os => (HJ.out _ (below_regrown W0 d os)).1.2.2.1
  have q3 : ∀ d os, (grow (redrawn W0 d) os).cell? ⟨lb, 2, none⟩ = some (.int .i64 L.floor.t) := fun d os => (HJ.out _ (below_regrown W0 d os)).1.2.2.2.1
  have q4 : ∀ d os, (grow (redrawn W0 d) os).cell? ⟨lb, 3, none⟩ = some (.int .i64 L.floor.r) := fun d os => (HJ.out _ (below_regrown W0 d os)).1.2.2.2.2.1
  have q5 : ∀ d os, (grow (redrawn W0 d) os).cell? ⟨lb, 4, none⟩ = some (vo) := fun d os => (HJ.out _ (below_regrown W0 d os)).1.2.2.2.2.2.1
  have q6 : ∀ d os, (grow (redrawn W0 d) os).cell? ⟨lb, 5, none⟩ = some (vr) := fun d os => (HJ.out _ (below_regrown W0 d os)).1.2.2.2.2.2.2
  have q7 : ∀ d os, (grow (redrawn W0 d) os).cell? ⟨w.heap.size + 1, 0, none⟩ = some (.int .i64 o.stamp.t) := fun d os => (HJ.out _ (below_regrown W0 d os)).2.1
  have q8 : ∀ d os, (grow (redrawn W0 d) os).cell? ⟨w.heap.size + 1, 1, none⟩ = some (.int .i64 o.stamp.r) := fun d os => (HJ.out _ (below_regrown W0 d os)).2.2.1
  have q9 : ∀ d os, (grow (redrawn W0 d) os).cell? ⟨w.heap.size + 1, 2, none⟩ = some (.int .i64 o.kind) := fun d os => (HJ.out _ (below_regrown W0 d os)).2.2.2.1
  have q10 : ∀ d os, (grow (redrawn W0 d) os).cell? ⟨w.heap.size + 1, 3, none⟩ = some (.int .i64 o.at_.t) := fun d os => (HJ.out _ (below_regrown W0 d os)).2.2.2.2.1
  have q11 : ∀ d os, (grow (redrawn W0 d) os).cell? ⟨w.heap.size + 1, 4, none⟩ = some (.int .i64 o.at_.r) := fun d os => (HJ.out _ (below_regrown W0 d os)).2.2.2.2.2.1
  have q12 : ∀ d os, (grow (redrawn W0 d) os).cell? ⟨w.heap.size + 1, 5, none⟩ = some (.int .i64 o.ino.t) := fun d os => (HJ.out _ (below_regrown W0 d os)).2.2.2.2.2.2.1
  have q13 : ∀ d os, (grow (redrawn W0 d) os).cell? ⟨w.heap.size + 1, 6, none⟩ = some (.int .i64 o.ino.r) := fun d os => (HJ.out _ (below_regrown W0 d os)).2.2.2.2.2.2.2.1
  have q14 : ∀ d os, (grow (redrawn W0 d) os).cell? ⟨w.heap.size + 1, 7, none⟩ = some (.int .i64 o.to.t) := fun d os => (HJ.out _ (below_regrown W0 d os)).2.2.2.2.2.2.2.2.1
  have q15 : ∀ d os, (grow (redrawn W0 d) os).cell? ⟨w.heap.size + 1, 8, none⟩ = some (.int .i64 o.to.r) := fun d os => (HJ.out _ (below_regrown W0 d os)).2.2.2.2.2.2.2.2.2.1
  have q16 : ∀ d os, (grow (redrawn W0 d) os).cell? ⟨w.heap.size + 1, 9, none⟩ = some (.string o.name) := fun d os => (HJ.out _ (below_regrown W0 d os)).2.2.2.2.2.2.2.2.2.2.1
  have q17 : ∀ d os, (grow (redrawn W0 d) os).cell? ⟨w.heap.size + 1, 10, none⟩ = some (.string o.new) := fun d os => (HJ.out _ (below_regrown W0 d os)).2.2.2.2.2.2.2.2.2.2.2.1
  have q18 : ∀ d os, (grow (redrawn W0 d) os).cell? ⟨w.heap.size + 1, 11, none⟩ = some (.int .i64 o.off) := fun d os => (HJ.out _ (below_regrown W0 d os)).2.2.2.2.2.2.2.2.2.2.2.2.1
  have q19 : ∀ d os, (grow (redrawn W0 d) os).cell? ⟨w.heap.size + 1, 12, none⟩ = some (.string o.data) := fun d os => (HJ.out _ (below_regrown W0 d os)).2.2.2.2.2.2.2.2.2.2.2.2.2.1
  have HCQ : ∀ d os, Calls Tryz.prog 93 #[(.agg #[.int .i64 o.stamp.t, .int .i64 o.stamp.r, .int .i64 o.kind, .int .i64 o.at_.t, .int .i64 o.at_.r, .int .i64 o.ino.t, .int .i64 o.ino.r, .int .i64 o.to.t, .int .i64 o.to.r, .string o.name, .string o.new, .int .i64 o.off, .string o.data])] (grow (redrawn W0 d) os) fun e w'' => e = .returned (.bool true) ∧ ∃ p : Regrown, w'' = grow (redrawn W0 p.d) p.os := fun d os => Calls.regrown_of (HM.out _)
  have HCC : ∀ d os, Calls Tryz.prog 59 #[(.agg #[.int .i64 o.stamp.t, .int .i64 o.stamp.r]), (.agg #[.int .i64 L.floor.t, .int .i64 L.floor.r])] (grow (redrawn W0 d) os) fun e w'' => e = .returned (.int .i64 (cmpSt o.stamp.t o.stamp.r L.floor.t L.floor.r)) ∧ ∃ p : Regrown, w'' = grow (redrawn W0 p.d) p.os := fun d os => Calls.regrown_of ((stCompare_any _ _ _ _ _).mono fun e w' h => ⟨h.1, h.2.below⟩)
  refine wp_region_quiet_below (by kernel_rfl) (by kernel_rfl) ?_
  repeat (first | go_big_quiet_step (first | exact HCQ _ _ | exact HCC _ _) | quiet_step (first | exact HCQ _ _ | exact HCC _ _))
  refine wpQuiet_nil ?_
  intro _ hw'
  obtain ⟨⟨dq, osq⟩, hw''⟩ := hw'
  subst hw''
  obtain ⟨W1, hW1⟩ : ∃ W1, W1 = grow (redrawn W0 dq) osq := ⟨_, rfl⟩
  have HB1 : Hid (Below W0.heap.size W0 W1) := Lib.hid (by rw [hW1]; exact below_regrown W0 dq osq)
  have HBW1 : Hid (Below w.heap.size w W1 ∧ w.heap.size + 2 ≤ W1.heap.size) := Lib.hid ⟨HBW.out.1.trans (HB1.out.mono HBW.out.2), by have := HB1.out.size; have := HZ0.out; omega⟩
  rw [← hW1]
  clear hW1 HCQ HCC q0 q1 q2 q3 q4 q5 q6 q7 q8 q9 q10 q11 q12 q13 q14 q15 q16 q17 q18 q19
  obtain ⟨⟨_, _, _, _, _, _, _⟩, _, _, _, _, _, _, _, _, _, _, _, _, _, _⟩ := HJ.out W1 HB1.out
  go_wp2_with fail
  go_region_held3 (fun W : World => (W.cell? ⟨w.heap.size, 0, none⟩ = some (.pointer (some ⟨lb, 0, none⟩)) ∧ (W.cell? ⟨lb, 0, none⟩ = some (.pointer (some ⟨bb, 0, none⟩)) ∧ W.cell? ⟨lb, 1, none⟩ = some (.pointer (some ⟨gb, 0, none⟩)) ∧ W.cell? ⟨lb, 2, none⟩ = some (.int .i64 L.floor.t) ∧ W.cell? ⟨lb, 3, none⟩ = some (.int .i64 L.floor.r) ∧ W.cell? ⟨lb, 4, none⟩ = some (vo) ∧ W.cell? ⟨lb, 5, none⟩ = some (vr))) ∧ (W.cell? ⟨w.heap.size + 1, 0, none⟩ = some (.int .i64 o.stamp.t) ∧ W.cell? ⟨w.heap.size + 1, 1, none⟩ = some (.int .i64 o.stamp.r) ∧ W.cell? ⟨w.heap.size + 1, 2, none⟩ = some (.int .i64 o.kind) ∧ W.cell? ⟨w.heap.size + 1, 3, none⟩ = some (.int .i64 o.at_.t) ∧ W.cell? ⟨w.heap.size + 1, 4, none⟩ = some (.int .i64 o.at_.r) ∧ W.cell? ⟨w.heap.size + 1, 5, none⟩ = some (.int .i64 o.ino.t) ∧ W.cell? ⟨w.heap.size + 1, 6, none⟩ = some (.int .i64 o.ino.r) ∧ W.cell? ⟨w.heap.size + 1, 7, none⟩ = some (.int .i64 o.to.t) ∧ W.cell? ⟨w.heap.size + 1, 8, none⟩ = some (.int .i64 o.to.r) ∧ W.cell? ⟨w.heap.size + 1, 9, none⟩ = some (.string o.name) ∧ W.cell? ⟨w.heap.size + 1, 10, none⟩ = some (.string o.new) ∧ W.cell? ⟨w.heap.size + 1, 11, none⟩ = some (.int .i64 o.off) ∧ W.cell? ⟨w.heap.size + 1, 12, none⟩ = some (.string o.data) ∧ w.heap.size + 1 < W.heap.size)) (first | exact HJ.out _ (by first | exact HB2.out | exact HB1.out.drew) | go_keep) (first
    | (go_at_call 37; with_reducible refine Calls.mono (HPUT.out _ (by first | exact HB1.out.drew | exact HB1.out)) ?_; rintro e w2 ⟨v2, rfl, hf2, ht2, hb2⟩; have HF2 := Lib.hid hf2; have HT2 := Lib.hid ht2; have HB2 : Hid (Below W0.heap.size W0 w2) := Lib.hid hb2; clear hf2 ht2 hb2))
  have ht2 := HT2.out trivial
  clear hcl
  obtain ⟨pa, pc, rfl⟩ := row_len5 ht2
  rw [hlp] at ht2
  have HT2 := Lib.hid ht2
  clear ht2
  obtain ⟨⟨x0, y0, y1, y2, y3, y4, y5⟩, _, _, _, _, _, _, _, _, _, _, _, _, _, _⟩ := HJ.out _ HB2.out
  rw [hrv] at y5
  have hp0 : (0 : Int) ≤ (placeOf L.ops o : Int) := by omega
  have hp1 : placeOf L.ops o ≤ L.ops.length := HPL.out.1
  have hp2 : (placeOf L.ops o : Int) ≤ (L.ops.length : Int) := by omega
  obtain ⟨va, hva⟩ : ∃ va, (if rc = placeOf L.ops o then ra else Option.map (fun x => x.add (placeOf L.ops o * 5)) ra) = va := ⟨_, rfl⟩
  go_wp2_with fail
  refine (backwardR _ _ _ _).mono ?_
  rintro e w3 ⟨rfl, rfl⟩
  go_wp2_with fail
  obtain ⟨W3, hW3⟩ : ∃ W3, W3 = w2.alloc (.cells #[.slice va (L.ops.length - placeOf L.ops o) (rc - placeOf L.ops o)] 42) := ⟨_, rfl⟩
  rw [← hW3]
  have hrl : rs.length = L.ops.length := HRC.out.1
  have HB3 : Hid (Below W0.heap.size W0 W3) := Lib.hid (by rw [hW3]; exact HB2.out.alloc HB2.out.size _)
  have HB23 : Hid (Below w2.heap.size w2 W3) := Lib.hid (by rw [hW3]; exact (Below.refl _ _).alloc (Nat.le_refl _) _)
  have HBW3 : Hid (Below w.heap.size w W3) := Lib.hid (HBW.out.1.trans (HB3.out.mono HBW.out.2))
  have hz3 : W3.heap.size = w2.heap.size + 1 := by rw [hW3]; simp only [World.size_alloc]
  have hbox : W3.cell? ⟨w2.heap.size, 0, none⟩ = some (.slice va (L.ops.length - placeOf L.ops o) (rc - placeOf L.ops o)) := by rw [hW3]; exact cell_new _ _ rfl _ _ 0 _ rfl
  have HG3 : Hid (GrAt W3 gb mI mE L.g) := Lib.hid (HLG.out.g.below HBW3.out)
  have HLT : Hid (lb < W3.heap.size ∧ gb < W3.heap.size ∧ mI < W3.heap.size ∧ mE < W3.heap.size) := Lib.hid (by have := HLG.out.lt; have := HBW3.out.size; omega)
  have HXS : Hid (∀ W, Turn (Maps2 mI mE) W3 W → ∀ j, (SlAt W 5 Ent.cells (rs.drop (placeOf L.ops o))[j]!.a (recOf L.base L.ops (placeOf L.ops o) (L.ops.length - placeOf L.ops o) j).lost ∧ SlAt W 5 Ent.cells (rs.drop (placeOf L.ops o))[j]!.b (recOf L.base L.ops (placeOf L.ops o) (L.ops.length - placeOf L.ops o) j).made ∧ SlAt W 6 Ino.cells (rs.drop (placeOf L.ops o))[j]!.c (recOf L.base L.ops (placeOf L.ops o) (L.ops.length - placeOf L.ops o) j).was ∧ SlAt W 2 St.cells (rs.drop (placeOf L.ops o))[j]!.d (recOf L.base L.ops (placeOf L.ops o) (L.ops.length - placeOf L.ops o) j).new) ∧ Raw.Flat (rs.drop (placeOf L.ops o))[j]!) := Lib.hid fun W hW j =>
    have h := rec_sl HRC.out (placeOf L.ops o) j
    ⟨⟨(h.1.1.below HBW3.out).turn hW, (h.1.2.1.below HBW3.out).turn hW, (h.1.2.2.1.below HBW3.out).turn hW, (h.1.2.2.2.below HBW3.out).turn hW⟩, h.2⟩
  have HSX : Hid (SlAt W3 5 Raw.cells (.slice va (L.ops.length - placeOf L.ops o) (rc - placeOf L.ops o)) (rs.drop (placeOf L.ops o))) := Lib.hid (sl_cut ((SlAt.of_row (enc := Raw.cells) (k := 5) (zs := rs) (fun _ => rfl) (by rw [hrl, ← hrv]; exact HRR.out)).below HBW3.out) hrl.symm (by omega) hva)
  have HK3 : Hid (∀ W, Turn (Maps2 mI mE) W3 W → (fun W : World => (W.cell? ⟨w.heap.size, 0, none⟩ = some (.pointer (some ⟨lb, 0, none⟩)) ∧ (W.cell? ⟨lb, 0, none⟩ = some (.pointer (some ⟨bb, 0, none⟩)) ∧ W.cell? ⟨lb, 1, none⟩ = some (.pointer (some ⟨gb, 0, none⟩)) ∧ W.cell? ⟨lb, 2, none⟩ = some (.int .i64 L.floor.t) ∧ W.cell? ⟨lb, 3, none⟩ = some (.int .i64 L.floor.r) ∧ W.cell? ⟨lb, 4, none⟩ = some (vo) ∧ W.cell? ⟨lb, 5, none⟩ = some (vr))) ∧ (W.cell? ⟨w.heap.size + 1, 0, none⟩ = some (.int .i64 o.stamp.t) ∧ W.cell? ⟨w.heap.size + 1, 1, none⟩ = some (.int .i64 o.stamp.r) ∧ W.cell? ⟨w.heap.size + 1, 2, none⟩ = some (.int .i64 o.kind) ∧ W.cell? ⟨w.heap.size + 1, 3, none⟩ = some (.int .i64 o.at_.t) ∧ W.cell? ⟨w.heap.size + 1, 4, none⟩ = some (.int .i64 o.at_.r) ∧ W.cell? ⟨w.heap.size + 1, 5, none⟩ = some (.int .i64 o.ino.t) ∧ W.cell? ⟨w.heap.size + 1, 6, none⟩ = some (.int .i64 o.ino.r) ∧ W.cell? ⟨w.heap.size + 1, 7, none⟩ = some (.int .i64 o.to.t) ∧ W.cell? ⟨w.heap.size + 1, 8, none⟩ = some (.int .i64 o.to.r) ∧ W.cell? ⟨w.heap.size + 1, 9, none⟩ = some (.string o.name) ∧ W.cell? ⟨w.heap.size + 1, 10, none⟩ = some (.string o.new) ∧ W.cell? ⟨w.heap.size + 1, 11, none⟩ = some (.int .i64 o.off) ∧ W.cell? ⟨w.heap.size + 1, 12, none⟩ = some (.string o.data) ∧ w.heap.size + 1 < W.heap.size)) W) := Lib.hid fun W hW => ((HBX.out.below HB3.out).turn hW HG3.out.maps.1 HG3.out.maps.2).cells
  have hxl : (rs.drop (placeOf L.ops o)).length = L.ops.length - placeOf L.ops o := by rw [List.length_drop, hrl]
  have HOKG : Hid (∀ pre, (gBack L.base L.ops (placeOf L.ops o) (L.ops.length - placeOf L.ops o) L.g pre).Ok) := Lib.hid fun pre => gBack_ok _ _ _ _ pre (runs_ok _ HLG.out.ok.base)
  have HSMR := Lib.hid (fun j => recOf_small HLG.out.ok.base L.ops (placeOf L.ops o) (L.ops.length - placeOf L.ops o) j)
  clear x0 y0 y1 y2 y3 y4 y5 hW3
  refine (wpIn_wide (n := 8)).1 ?_
  refine wpIn_rangeFunc_ownH (n := 8) rfl (by omega) (gf := 154) (lb := #[.pointer (some ⟨w2.heap.size, 0, none⟩)]) rfl trivial (enters_of Tryz.func154 (by kernel_rfl) rfl)
    (backR_stops Fence.wide 7 trivial rfl (by omega) _ W3.heap.size _ (rs.drop (placeOf L.ops o)) W3 W3 (by rw [hxl]; have := HPL.out; omega) (fun x hx => by obtain ⟨j, hj, e⟩ := List.getElem_of_mem hx; have := (HXS.out W3 (Turn.refl _ _) j).2; rw [getElem!_pos _ j hj, e] at this; exact this) HSX.out (Below.refl _ _) rfl (by omega) hbox)
    CellsKept.trans (fun W l o o' hl ho hc _ => ⟨by simp, fun a ha => World.cell?_of_block (World.putObj_heap_other (by omega))⟩) (Below.refl _ _) (fun _ => rfl)
    (fun pre W => BackInv W3 gb mI mE (gBack L.base L.ops (placeOf L.ops o) (L.ops.length - placeOf L.ops o) L.g) pre W) (fun _ _ _ => False) (backInv_own HLT.out.2.2.1 HLT.out.2.2.2 HLT.out.2.1) (fun _ _ _ _ _ hs _ _ => hs) ⟨Turn.refl _ _, HG3.out⟩
    (fun j a' W => ∃ Bx, W3.heap.size ≤ Bx ∧ W.heap[Bx]? = some (Obj.cells (rs.drop (placeOf L.ops o))[j]!.cells.toArray 44 (0, 0)) ∧ a' = { tmps := #[Value.pointer (some ⟨lb, 0, none⟩), Value.agg #[Value.int IntKind.i64 o.stamp.t, Value.int IntKind.i64 o.stamp.r, Value.int IntKind.i64 o.kind, Value.int IntKind.i64 o.at_.t, Value.int IntKind.i64 o.at_.r, Value.int IntKind.i64 o.ino.t, Value.int IntKind.i64 o.ino.r, Value.int IntKind.i64 o.to.t, Value.int IntKind.i64 o.to.r, Value.string o.name, Value.string o.new, Value.int IntKind.i64 o.off, Value.string o.data], Value.pointer (some ⟨w.heap.size, 0, none⟩), Value.pointer (some ⟨w.heap.size + 1, 0, none⟩), Value.bool false, Value.slice pa (L.ops.length + 1) pc, Value.int IntKind.i64 ↑(placeOf L.ops o), Value.bool true, undef, Value.pointer (some ⟨Bx, 0, none⟩), undef, undef, Value.pointer (some ⟨lb, 0, none⟩), Value.bool false, Value.bool false, Value.agg #[Value.int IntKind.i64 o.stamp.t, Value.int IntKind.i64 o.stamp.r, Value.int IntKind.i64 o.kind, Value.int IntKind.i64 o.at_.t, Value.int IntKind.i64 o.at_.r, Value.int IntKind.i64 o.ino.t, Value.int IntKind.i64 o.ino.r, Value.int IntKind.i64 o.to.t, Value.int IntKind.i64 o.to.r, Value.string o.name, Value.string o.new, Value.int IntKind.i64 o.off, Value.string o.data], Value.bool true, Value.bool false, Value.bool false, Value.bool false, Value.pointer (some ⟨w.heap.size + 1, 0, none⟩), Value.agg #[Value.int IntKind.i64 o.stamp.t, Value.int IntKind.i64 o.stamp.r], Value.pointer (some ⟨lb, 0, none⟩), Value.pointer (some ⟨lb, 0, none⟩), Value.pointer (some ⟨lb, 2, none⟩), Value.agg #[Value.int IntKind.i64 L.floor.t, Value.int IntKind.i64 L.floor.r], Value.int IntKind.i64 (cmpSt o.stamp.t o.stamp.r L.floor.t L.floor.r), Value.bool false, Value.bool false, Value.tuple #[Value.slice pa (L.ops.length + 1) pc, Value.int IntKind.i64 ↑(placeOf L.ops o), Value.bool true], Value.pointer (some ⟨lb, 0, none⟩), Value.pointer (some ⟨lb, 0, none⟩), Value.pointer (some ⟨lb, 4, none⟩), vo, Value.agg #[Value.int IntKind.i64 o.stamp.t, Value.int IntKind.i64 o.stamp.r, Value.int IntKind.i64 o.kind, Value.int IntKind.i64 o.at_.t, Value.int IntKind.i64 o.at_.r, Value.int IntKind.i64 o.ino.t, Value.int IntKind.i64 o.ino.r, Value.int IntKind.i64 o.to.t, Value.int IntKind.i64 o.to.r, Value.string o.name, Value.string o.new, Value.int IntKind.i64 o.off, Value.string o.data], Value.tuple #[Value.slice pa (L.ops.length + 1) pc, Value.int IntKind.i64 ↑(placeOf L.ops o), Value.bool true], Value.slice pa (L.ops.length + 1) pc, Value.int IntKind.i64 ↑(placeOf L.ops o), Value.bool true, Value.bool true, Value.bool false, Value.pointer (some ⟨lb, 0, none⟩), Value.pointer (some ⟨lb, 0, none⟩), Value.pointer (some ⟨lb, 5, none⟩), Value.slice ra L.ops.length rc, Value.int IntKind.i64 ↑(placeOf L.ops o), Value.slice va (L.ops.length - placeOf L.ops o) (rc - placeOf L.ops o), Value.func (Fn.func 154) #[] #[Value.pointer (some ⟨w2.heap.size, 0, none⟩)], Value.int IntKind.i64 j, Raw.v (rs.drop (placeOf L.ops o))[j]!, undef, undef, undef, undef, undef, undef, undef, undef, undef, undef, undef, undef, undef, undef, undef, undef, undef, undef, undef, undef, undef, undef, undef, undef, undef, undef, undef, undef, undef, undef, undef, undef, undef, undef, undef, undef, undef, undef, undef, undef, undef, undef, undef, undef], defers := [] })
    (fun j a' _ X Y row hs hg hr => by obtain ⟨Bx, h0, h1, h2⟩ := hs; exact ⟨Bx, h0, heapAt_own Bx _ _ () X Y row h1 hg (fun r e => (hr r e).2), h2⟩)
    ?assign ?body ?done ?stop
  case assign =>
    rintro l pre j W K hM hK
    obtain ⟨p1, p2, p3, p4, q1, q2, q3, q4, r1, r2, r3, r4, ea, eb, ec, ed⟩ := (HXS.out W hM.turn j).2
    have hv : Raw.v (rs.drop (placeOf L.ops o))[j]! = .agg #[.slice p1 q1 r1, .slice p2 q2 r2, .slice p3 q3 r3, .slice p4 q4 r4, .int .i64 (rs.drop (placeOf L.ops o))[j]!.e] := by unfold Raw.v; rw [ea, eb, ec, ed]
    have hv2 : (rs.drop (placeOf L.ops o))[j]!.cells.toArray = #[.slice p1 q1 r1, .slice p2 q2 r2, .slice p3 q3 r3, .slice p4 q4 r4, .int .i64 (rs.drop (placeOf L.ops o))[j]!.e] := by unfold Raw.cells; rw [ea, eb, ec, ed]
    have HHK := Lib.hid hK
    have HHM := Lib.hid hM
    rw [hv, hv2] at HHK
    rw [hv]
    clear hv hv2 ea eb ec ed hK hM
    generalize (rs.drop (placeOf L.ops o))[j]!.e = er at *
    gi_wp2
    have hM := HHM.out
    have hk := fun k (hk : k < W3.heap.size) => Below.heap_alloc W (Obj.cells #[.slice p1 q1 r1, .slice p2 q2 r2, .slice p3 q3 r3, .slice p4 q4 r4, .int .i64 er] 44) k (Nat.lt_of_lt_of_le hk hM.turn.size)
    refine HHK.out _ _ ((KeepsOthers.alloc _ _).from _) ⟨by simp, fun a ha => World.cell?_of_block (hk _ ha)⟩ ⟨hM.turn.trans ((New.alloc' _ _).turn _), hM.g.new (New.alloc' _ _)⟩ ⟨W.heap.size, hM.turn.size, World.alloc_heap_new W _, rfl⟩
  case body =>
    rintro l pre j a' W hl hlp hM ⟨Bx, hBx, bX, rfl⟩ hlt
    have hxx := HXS.out W hM.turn j
    obtain ⟨p1, p2, p3, p4, q1, q2, q3, q4, r1, r2, r3, r4, ea, eb, ec, ed⟩ := hxx.2
    have hv : Raw.v (rs.drop (placeOf L.ops o))[j]! = .agg #[.slice p1 q1 r1, .slice p2 q2 r2, .slice p3 q3 r3, .slice p4 q4 r4, .int .i64 (rs.drop (placeOf L.ops o))[j]!.e] := by unfold Raw.v; rw [ea, eb, ec, ed]
    have hv2 : (rs.drop (placeOf L.ops o))[j]!.cells.toArray = #[.slice p1 q1 r1, .slice p2 q2 r2, .slice p3 q3 r3, .slice p4 q4 r4, .int .i64 (rs.drop (placeOf L.ops o))[j]!.e] := by unfold Raw.cells; rw [ea, eb, ec, ed]
    rw [hv2] at bX
    obtain ⟨k0, k1, k2, k3, k4⟩ := rec_cells bX
    have hbk := fun W' (hW : Below W.heap.size W W') => back_sl gb mI mE (gBack L.base L.ops (placeOf L.ops o) (L.ops.length - placeOf L.ops o) L.g pre) (recOf L.base L.ops (placeOf L.ops o) (L.ops.length - placeOf L.ops o) j) (rs.drop (placeOf L.ops o))[j]!.a (rs.drop (placeOf L.ops o))[j]!.b (rs.drop (placeOf L.ops o))[j]!.c (rs.drop (placeOf L.ops o))[j]!.d (rs.drop (placeOf L.ops o))[j]!.e W' (hM.g.below hW) (HOKG.out pre) ⟨hxx.1.1.below hW, hxx.1.2.1.below hW, hxx.1.2.2.1.below hW, hxx.1.2.2.2.below hW⟩ (HSMR.out j).1 (HSMR.out j).2
    rw [← gBack_snoc] at hbk
    rw [ea, eb, ec, ed] at hbk
    rw [hv]
    have HBK := Lib.hid hbk
    have HHM := Lib.hid hM
    obtain ⟨⟨x0, y0, y1, y2, y3, y4, y5⟩, _, _, _, _, _, _, _, _, _, _, _, _, _, _⟩ := HK3.out W hM.turn
    clear hv hv2 ea eb ec ed hbk hM hxx bX hlp
    generalize (rs.drop (placeOf L.ops o))[j]!.e = er at *
    gi_wp2
    gi_region_with (first | (gi_at_call 28; refine (CallsIn.inRound l ((callsIn_wide).2 (HBK.out _ (by exact (Below.refl _ W).drew)))).mono ?_; rintro e W5 ⟨rfl, hG5, hT5⟩; have HG5 := Lib.hid hG5; have HT5 := Lib.hid hT5; clear hG5 hT5) | (refine And.intro trivial ?_; gi_at_call 28; refine (CallsIn.inRound l ((callsIn_wide).2 (HBK.out _ (by exact (Below.refl _ W).drew)))).mono ?_; rintro e W5 ⟨rfl, hG5, hT5⟩; have HG5 := Lib.hid hG5; have HT5 := Lib.hid hT5; clear hG5 hT5))
    all_goals gi_wp2
    all_goals exact ⟨⟨HT5.out.size, fun k o hB hk ho => (HT5.out.block k (Array.getElem?_eq_some_iff.1 hk).1 (fun hm => by have := HLT.out; rcases hm with hm | hm <;> omega)).trans hk⟩, ⟨HT5.out.size, fun a ha => HT5.out.cell a (Nat.lt_of_lt_of_le ha HHM.out.turn.size)⟩, ⟨HHM.out.turn.trans ((Below.turn' (Below.refl _ W).drew _).trans HT5.out), HG5.out⟩⟩
  case done =>
    rintro D xs W hD rfl hM hK
    have hg0 := hM.g
    have hgl : L.g = gAt L.base L.ops L.ops.length := (gAt_all _ _).symm
    rw [hxl, hgl, gBack_all HLG.out.ok.base L.ops _ _ (by omega)] at hg0
    have HGW := Lib.hid hg0
    have HTW := Lib.hid hM.turn
    obtain ⟨⟨x0, y0, y1, y2, y3, y4, y5⟩, _, _, _, _, _, _, _, _, _, _, _, _, _, _⟩ := HK3.out W hM.turn
    rw [hrv] at y5
    clear hM hg0
    have HKD := Lib.hid hK
    clear hK
    have hbx3 : W3.heap[lb]? = some (.cells #[.pointer (some ⟨bb, 0, none⟩), .pointer (some ⟨gb, 0, none⟩), .int .i64 L.floor.t, .int .i64 L.floor.r, vo, .slice ra L.ops.length rc] 132 (0, 0)) := by rw [← hrv]; exact (HBW3.out.block _ HLG.out.lt.1).trans HPT.out.1
    have hbl3 : LogBlocks W3 lb mI mE := (HLG.out.below HBW3.out).blocks
    have hlbn : lb ≠ mI ∧ lb ≠ mE := by
      obtain ⟨_, ⟨e1, n1, k1⟩, ⟨e2, n2, k2⟩⟩ := hbl3
      constructor
      · rintro rfl; rw [hbx3] at k1; cases k1
      · rintro rfl; rw [hbx3] at k2; cases k2
    have hbxW := (HTW.out.block lb HLT.out.1 fun e => e.elim hlbn.1 hlbn.2).trans hbx3
    have f4 := frozen_at hbxW 4
    have f5 := frozen_at hbxW 5
    have hprc : placeOf L.ops o ≤ rc := by
      have h := HRR.out
      rw [hrv] at h
      have := row_cap h
      omega
    have hnl1 : ¬ w.heap.size = lb := by have := HLG.out.lt.1; omega
    have hnl2 : ¬ lb = w.heap.size := by have := HLG.out.lt.1; omega
    have HS9 : Hid ((fun W : World => W.cell? ⟨w.heap.size, 0, none⟩ = some (.pointer (some ⟨lb, 0, none⟩)) ∧ W.cell? ⟨lb, 5, none⟩ = some (.slice ra L.ops.length rc)) W.drew) := Lib.hid ⟨x0, y5⟩
    have HSA : Hid (∀ v, (fun W : World => W.cell? ⟨w.heap.size, 0, none⟩ = some (.pointer (some ⟨lb, 0, none⟩)) ∧ W.cell? ⟨lb, 5, none⟩ = some (.slice ra L.ops.length rc)) (W.setCell ⟨lb, 4, none⟩ v).drew) := Lib.hid fun v => ⟨(World.cell?_of_block (Below.heap_setCell W _ _ w.heap.size hnl1)).trans x0, cell_at (heap_setCell_at hbxW 4 v) 5 _ rfl⟩
    clear hbxW
    go_wp2_with fail
    refine wp_region_noPanic ?_
    refine wp_region_N 15 (S := (fun W : World => W.cell? ⟨w.heap.size, 0, none⟩ = some (.pointer (some ⟨lb, 0, none⟩)) ∧ W.cell? ⟨lb, 5, none⟩ = some (.slice ra L.ops.length rc))) (by kernel_rfl) ?_
    refine wpAnyN_take (i := 0) (v := ?va0) rfl (by kernel_rfl) (by kernel_rfl) (by decide) (by kernel_rfl) (by kernel_rfl) (fun _ _ _ h => h) (Or.inl ⟨by rfl, ?ha0⟩) HS9.out ?ra0
    case ha0 => intro W hSW; obtain ⟨_, _⟩ := hSW; go_simp; first | done | with_reducible rfl
    try simp only [Act.put, List.setIfInBounds_toArray, List.set_cons_zero, List.set_cons_succ]
    refine wpAnyN_take (i := 1) (v := ?va1) rfl (by kernel_rfl) (by kernel_rfl) (by decide) (by kernel_rfl) (by kernel_rfl) (fun _ _ _ h => h) (Or.inl ⟨by rfl, ?ha1⟩) HS9.out ?ra1
    case ha1 => intro W hSW; obtain ⟨_, _⟩ := hSW; go_simp; first | done | with_reducible rfl
    try simp only [Act.put, List.setIfInBounds_toArray, List.set_cons_zero, List.set_cons_succ]
    refine wpAnyN_take (i := 2) (v := ?va2) rfl (by kernel_rfl) (by kernel_rfl) (by decide) (by kernel_rfl) (by kernel_rfl) (fun _ _ _ h => h) (Or.inl ⟨by rfl, ?ha2⟩) HS9.out ?ra2
    case ha2 => intro W hSW; obtain ⟨_, _⟩ := hSW; go_simp; first | done | with_reducible rfl
    try simp only [Act.put, List.setIfInBounds_toArray, List.set_cons_zero, List.set_cons_succ]
    refine wpAnyN_take (i := 3) (v := ?va3) rfl (by kernel_rfl) (by kernel_rfl) (by decide) (by kernel_rfl) (by kernel_rfl) (fun _ _ _ h => h) (Or.inl ⟨by rfl, ?ha3⟩) HS9.out ?ra3
    case ha3 => intro W hSW; obtain ⟨_, _⟩ := hSW; go_simp; first | done | with_reducible rfl
    try simp only [Act.put, List.setIfInBounds_toArray, List.set_cons_zero, List.set_cons_succ]
    refine wpAnyN_take (i := 4) (v := ?va4) rfl (by kernel_rfl) (by kernel_rfl) (by decide) (by kernel_rfl) (by kernel_rfl) (fun _ _ _ h => h) (Or.inl ⟨by rfl, ?ha4⟩) HS9.out ?ra4
    case ha4 => intro W hSW; obtain ⟨_, _⟩ := hSW; go_simp; first | done | with_reducible rfl
    try simp only [Act.put, List.setIfInBounds_toArray, List.set_cons_zero, List.set_cons_succ]
    refine wpAnyN_take (i := 5) (v := ?va5) rfl (by kernel_rfl) (by kernel_rfl) (by decide) (by kernel_rfl) (by kernel_rfl) (fun _ _ _ h => h) (Or.inl ⟨by rfl, ?ha5⟩) HS9.out ?ra5
    case ha5 => intro W hSW; obtain ⟨_, _⟩ := hSW; go_simp; first | done | with_reducible rfl
    try simp only [Act.put, List.setIfInBounds_toArray, List.set_cons_zero, List.set_cons_succ]
    refine wpAnyN_take (i := 6) (v := ?va6) rfl (by kernel_rfl) (by kernel_rfl) (by decide) (by kernel_rfl) (by kernel_rfl) (fun _ _ _ h => h) (Or.inl ⟨by rfl, ?ha6⟩) HS9.out ?ra6
    case ha6 => intro W hSW; obtain ⟨_, _⟩ := hSW; go_simp; first | done | with_reducible rfl
    try simp only [Act.put, List.setIfInBounds_toArray, List.set_cons_zero, List.set_cons_succ]
    refine wpAnyN_take (i := 7) (v := ?va7) rfl (by kernel_rfl) (by kernel_rfl) (by decide) (by kernel_rfl) (by kernel_rfl) (fun _ _ _ h => h) (Or.inl ⟨by rfl, ?ha7⟩) HS9.out ?ra7
    case ha7 => intro W hSW; obtain ⟨_, _⟩ := hSW; go_simp; first | done | with_reducible rfl
    try simp only [Act.put, List.setIfInBounds_toArray, List.set_cons_zero, List.set_cons_succ]
    refine wpAnyN_take (i := 8) (v := ?va8) rfl (by kernel_rfl) (by kernel_rfl) (by decide) (by kernel_rfl) (by kernel_rfl) (fun _ _ _ h => h) (Or.inl ⟨by rfl, ?ha8⟩) HS9.out ?ra8
    case ha8 => intro W hSW; obtain ⟨_, _⟩ := hSW; go_simp; first | done | with_reducible rfl
    try simp only [Act.put, List.setIfInBounds_toArray, List.set_cons_zero, List.set_cons_succ]
    refine wpAnyN_take (i := 9) (v := ?va9) rfl (by kernel_rfl) (by kernel_rfl) (by decide) (by kernel_rfl) (by kernel_rfl) (fun _ _ _ h => h) (Or.inl ⟨by rfl, ?ha9⟩) HS9.out ?ra9
    case ha9 => intro W hSW; obtain ⟨_, _⟩ := hSW; go_simp; first | done | with_reducible rfl
    try simp only [Act.put, List.setIfInBounds_toArray, List.set_cons_zero, List.set_cons_succ]
    refine wpAnyN_take (i := 10) (v := ?va10) rfl (by kernel_rfl) (by kernel_rfl) (by decide) (by kernel_rfl) (by kernel_rfl) (fun _ _ _ h => h) (Or.inl ⟨by rfl, ?ha10⟩) HS9.out ?ra10
    case ha10 => intro W hSW; obtain ⟨_, _⟩ := hSW; go_simp; first | done | with_reducible rfl
    try simp only [Act.put, List.setIfInBounds_toArray, List.set_cons_zero, List.set_cons_succ]
    refine wpAnyN_take (i := 11) (v := ?va11) rfl (by kernel_rfl) (by kernel_rfl) (by decide) (by kernel_rfl) (by kernel_rfl) (fun _ _ _ h => h) (Or.inl ⟨by rfl, ?ha11⟩) HS9.out ?ra11
    case ha11 => intro W hSW; obtain ⟨_, _⟩ := hSW; go_simp; first | done | with_reducible rfl
    try simp only [Act.put, List.setIfInBounds_toArray, List.set_cons_zero, List.set_cons_succ]
    refine wpAnyN_one (i := 12) (by kernel_rfl) rfl rfl ?_
    go_simp
    first | (refine And.intro (HSA.out _) ?_) | (refine And.intro (HSA.out _).1 ?_) | (refine And.intro (HSA.out _).2 ?_) | skip
    try simp only [Act.put, List.setIfInBounds_toArray, List.set_cons_zero, List.set_cons_succ]
    refine wpAnyN_one (i := 13) (by kernel_rfl) rfl rfl ?_
    go_simp
    first | (refine And.intro (HSA.out _) ?_) | (refine And.intro (HSA.out _).1 ?_) | (refine And.intro (HSA.out _).2 ?_) | skip
    try simp only [Act.put, List.setIfInBounds_toArray, List.set_cons_zero, List.set_cons_succ]
    refine wpAnyN_one (i := 14) (by kernel_rfl) rfl rfl ?_
    go_simp
    first | (refine And.intro (HSA.out _) ?_) | (refine And.intro (HSA.out _).1 ?_) | (refine And.intro (HSA.out _).2 ?_) | skip
    try simp only [Act.put, List.setIfInBounds_toArray, List.set_cons_zero, List.set_cons_succ]
    refine wpAnyN_one (i := 15) (by kernel_rfl) rfl rfl ?_
    go_simp
    refine wpAnyN_done (by kernel_rfl) (NoPanic.normal ?_) _
    have HLT9 : Hid (lb < w.heap.size ∧ mI < w.heap.size ∧ mE < w.heap.size ∧ w.heap.size ≤ D) := Lib.hid (by have h1 := HLG.out.lt; have h2 := HBW3.out.size; exact ⟨h1.1, h1.2.2.1, h1.2.2.2, by omega⟩)
    have HTK : Hid (∀ j, j ≤ placeOf L.ops o → (putOp L.ops o).take j = L.ops.take j) := Lib.hid fun j hj => by
      rw [HPI.out, List.take_append_of_le_length (by rw [List.length_take]; have := HPL.out; omega), List.take_take]
      congr 1; omega
    have hi0 : AddInv B w lb mI mE bb gb bI bE L (putOp L.ops o) (placeOf L.ops o) (.slice pa (L.ops.length + 1) pc) D 0 (.slice ra (placeOf L.ops o) (placeOf L.ops o)) (rs.take (placeOf L.ops o)) ((W.setCell ⟨lb, 4, none⟩ (.slice pa (L.ops.length + 1) pc)).setCell ⟨lb, 5, none⟩ (.slice ra (placeOf L.ops o) (placeOf L.ops o))).drew :=
      AddInv.below (AddInv.start (vo0 := vo) (n := L.ops.length) (c := rc) HBW3.out HTW.out hbl3 hbx3 ((HB3.out.block _ (by have := HZ0.out; omega)).trans HPB.out) (HPT.out.2.1.below HBW3.out) HGW.out
        (by show W3.ownsRow _ _ _ _ _ _; rw [hlp]; exact ownsRow_mono (ownsRow_keep HT2.out fun j _ hj => HB23.out.block j hj) (by have := HBW1.out.2; show _ ≤ W1.heap.size; omega))
        (HRC.out.to fun _ _ _ _ _ hr => hr.kept fun j _ hj => HBW3.out.block j hj) (by rw [← hrv]; exact ownsRow_keep HRR.out fun j _ hj => HBW3.out.block j hj) HPL.out.1 HTK.out HKD.out HLT9.out HPT.out.2.2.2) (Below.refl _ _).drew
    have HI0 := Lib.hid hi0
    clear hi0
    obtain ⟨W9, hW9⟩ : ∃ W9, W9 = ((W.setCell ⟨lb, 4, none⟩ (.slice pa (L.ops.length + 1) pc)).setCell ⟨lb, 5, none⟩ (.slice ra (placeOf L.ops o) (placeOf L.ops o))).drew := ⟨_, rfl⟩
    rw [← hW9] at HI0
    rw [← hW9]
    clear hW9 f4 f5 hbx3 hbl3 x0 y0 y1 y2 y3 y4 y5 hva
    obtain ⟨vb, hvb⟩ : ∃ vb, (if pc = placeOf L.ops o then pa else Option.map (fun x => x.add (placeOf L.ops o * 13)) pa) = vb := ⟨_, rfl⟩
    have hp3 : placeOf L.ops o ≤ L.ops.length + 1 := by omega
    have hp4 : (placeOf L.ops o : Int) ≤ (L.ops.length : Int) + 1 := by omega
    go_wp2_with fail
    go_loopg [74] (L.ops.length + 1 - placeOf L.ops o) (fun gg s74 wr => ∃ (i : Nat) (vr' : Value) (rs' : List Raw), s74 = .int .i64 i ∧ i ≤ L.ops.length + 1 - placeOf L.ops o ∧ L.ops.length + 1 - placeOf L.ops o - i ≤ gg ∧ Aside (AddInv B w lb mI mE bb gb bI bE L (putOp L.ops o) (placeOf L.ops o) (.slice pa (L.ops.length + 1) pc) D i vr' rs' wr))
    case atStart => exact ⟨0, _, _, rfl, Nat.zero_le _, by omega, (show Aside _ from HI0.out)⟩
    case round =>
      obtain ⟨i, vr', rs', rfl, hil, hgg, hI⟩ := hrel
      have hi0 : (0 : Int) ≤ (i : Int) := by omega
      have hwi : IntKind.i64.wrap ((i : Int) + 1) = (i : Int) + 1 := wrapNat (i + 1) (by have := HPL.out; omega)
      by_cases hlt : i < L.ops.length + 1 - placeOf L.ops o
      · have hlti : (i : Int) < ((L.ops.length + 1 - placeOf L.ops o : Nat) : Int) := by omega
        have hbx := hI.out.com.box
        obtain ⟨ra', rc', rfl⟩ := hI.out.fit.shape
        have hnw : New wr (wr.alloc (.cells #[.int .i64 (putOp L.ops o)[placeOf L.ops o + i]!.stamp.t, .int .i64 (putOp L.ops o)[placeOf L.ops o + i]!.stamp.r, .int .i64 (putOp L.ops o)[placeOf L.ops o + i]!.kind, .int .i64 (putOp L.ops o)[placeOf L.ops o + i]!.at_.t, .int .i64 (putOp L.ops o)[placeOf L.ops o + i]!.at_.r, .int .i64 (putOp L.ops o)[placeOf L.ops o + i]!.ino.t, .int .i64 (putOp L.ops o)[placeOf L.ops o + i]!.ino.r, .int .i64 (putOp L.ops o)[placeOf L.ops o + i]!.to.t, .int .i64 (putOp L.ops o)[placeOf L.ops o + i]!.to.r, .string (putOp L.ops o)[placeOf L.ops o + i]!.name, .string (putOp L.ops o)[placeOf L.ops o + i]!.new, .int .i64 (putOp L.ops o)[placeOf L.ops o + i]!.off, .string (putOp L.ops o)[placeOf L.ops o + i]!.data] 47)) := New.alloc' _ _
        have hpl := hlp
        have hxd : ((putOp L.ops o).drop (placeOf L.ops o)).length = L.ops.length + 1 - placeOf L.ops o := by rw [List.length_drop, hlp]
        have hsl : SlAt wr 13 Op.cells (.slice vb (L.ops.length + 1 - placeOf L.ops o) (pc - placeOf L.ops o)) ((putOp L.ops o).drop (placeOf L.ops o)) := sl_cut hI.out.com.row.sl hlp.symm (by omega) hvb
        obtain ⟨xb, xo, hxe, hxl, hxc⟩ := slAt_at hsl (show i < ((putOp L.ops o).drop (placeOf L.ops o)).length by omega)
        obtain ⟨x0, x1, x2, x3, x4, x5, x6, x7, x8, x9, x10, x11, x12⟩ := cellsOpF hxc i (by omega)
        have hxi : ((putOp L.ops o).drop (placeOf L.ops o))[i]! = (putOp L.ops o)[placeOf L.ops o + i]! := by
          rw [getElem!_pos _ i (by omega), getElem!_pos (putOp L.ops o) (placeOf L.ops o + i) (by omega), List.getElem_drop]
        have hstp := gAt_step L.base (putOp L.ops o) (placeOf L.ops o + i) (by omega)
        have hxs : (putOp L.ops o)[placeOf L.ops o + i]!.Small := HSMP.out _ (getElem!_mem (by omega))
        rw [hxi] at x0 x1 x2 x3 x4 x5 x6 x7 x8 x9 x10 x11 x12
        clear hsl hxc hxi hxd hnw
        generalize (putOp L.ops o)[placeOf L.ops o + i]! = x at x0 x1 x2 x3 x4 x5 x6 x7 x8 x9 x10 x11 x12 hstp hxs
        subst hxe
        have HSTP := Lib.hid hstp
        have HXX : Hid (∀ W : World, W.heap[wr.heap.size]? = some (.cells #[.int .i64 x.stamp.t, .int .i64 x.stamp.r, .int .i64 x.kind, .int .i64 x.at_.t, .int .i64 x.at_.r, .int .i64 x.ino.t, .int .i64 x.ino.r, .int .i64 x.to.t, .int .i64 x.to.r, .string x.name, .string x.new, .int .i64 x.off, .string x.data] 47) → (W.cell? ⟨wr.heap.size, 0, none⟩ = some (.int .i64 x.stamp.t) ∧ W.cell? ⟨wr.heap.size, 1, none⟩ = some (.int .i64 x.stamp.r) ∧ W.cell? ⟨wr.heap.size, 2, none⟩ = some (.int .i64 x.kind) ∧ W.cell? ⟨wr.heap.size, 3, none⟩ = some (.int .i64 x.at_.t) ∧ W.cell? ⟨wr.heap.size, 4, none⟩ = some (.int .i64 x.at_.r) ∧ W.cell? ⟨wr.heap.size, 5, none⟩ = some (.int .i64 x.ino.t) ∧ W.cell? ⟨wr.heap.size, 6, none⟩ = some (.int .i64 x.ino.r) ∧ W.cell? ⟨wr.heap.size, 7, none⟩ = some (.int .i64 x.to.t) ∧ W.cell? ⟨wr.heap.size, 8, none⟩ = some (.int .i64 x.to.r) ∧ W.cell? ⟨wr.heap.size, 9, none⟩ = some (.string x.name) ∧ W.cell? ⟨wr.heap.size, 10, none⟩ = some (.string x.new) ∧ W.cell? ⟨wr.heap.size, 11, none⟩ = some (.int .i64 x.off) ∧ W.cell? ⟨wr.heap.size, 12, none⟩ = some (.string x.data) ∧ wr.heap.size < W.heap.size)) := Lib.hid fun W hW => by
          refine ⟨?_, ?_, ?_, ?_, ?_, ?_, ?_, ?_, ?_, ?_, ?_, ?_, ?_, (Array.getElem?_eq_some_iff.1 hW).1⟩ <;> (simp only [World.cell?, hW]; rfl)
        have HXY : Hid (∀ W : World, W.heap[wr.heap.size]? = some (.cells #[.int .i64 x.stamp.t, .int .i64 x.stamp.r, .int .i64 x.kind, .int .i64 x.at_.t, .int .i64 x.at_.r, .int .i64 x.ino.t, .int .i64 x.ino.r, .int .i64 x.to.t, .int .i64 x.to.r, .string x.name, .string x.new, .int .i64 x.off, .string x.data] 47) → (W.cell? ⟨wr.heap.size, 0, none⟩ = some (.int .i64 x.stamp.t) ∧ W.cell? ⟨wr.heap.size, 1, none⟩ = some (.int .i64 x.stamp.r) ∧ W.cell? ⟨wr.heap.size, 2, none⟩ = some (.int .i64 x.kind) ∧ W.cell? ⟨wr.heap.size, 3, none⟩ = some (.int .i64 x.at_.t) ∧ W.cell? ⟨wr.heap.size, 4, none⟩ = some (.int .i64 x.at_.r) ∧ W.cell? ⟨wr.heap.size, 5, none⟩ = some (.int .i64 x.ino.t) ∧ W.cell? ⟨wr.heap.size, 6, none⟩ = some (.int .i64 x.ino.r) ∧ W.cell? ⟨wr.heap.size, 7, none⟩ = some (.int .i64 x.to.t) ∧ W.cell? ⟨wr.heap.size, 8, none⟩ = some (.int .i64 x.to.r) ∧ W.cell? ⟨wr.heap.size, 9, none⟩ = some (.string x.name) ∧ W.cell? ⟨wr.heap.size, 10, none⟩ = some (.string x.new) ∧ W.cell? ⟨wr.heap.size, 11, none⟩ = some (.int .i64 x.off) ∧ W.cell? ⟨wr.heap.size, 12, none⟩ = some (.string x.data))) := Lib.hid fun W hW => by
          refine ⟨?_, ?_, ?_, ?_, ?_, ?_, ?_, ?_, ?_, ?_, ?_, ?_, ?_⟩ <;> (simp only [World.cell?, hW]; rfl)
        have HCC : Hid (∀ n' v' rs'' W, AddCom B w lb mI mE bb gb bI bE L (putOp L.ops o) (.slice pa (L.ops.length + 1) pc) D n' v' rs'' W → (W.cell? ⟨w.heap.size, 0, none⟩ = some (.pointer (some ⟨lb, 0, none⟩)) ∧ W.cell? ⟨lb, 1, none⟩ = some (.pointer (some ⟨gb, 0, none⟩))) ∧ W.cell? ⟨lb, 5, none⟩ = some v' ∧ W.frozen? ⟨lb, 5, none⟩ = false) := Lib.hid fun n' v' rs'' W h =>
          ⟨⟨cell_at h.ptr 0 _ rfl, cell_at h.box 1 _ rfl⟩, cell_at h.box 5 _ rfl, frozen_at h.box 5⟩
        have hdo := fun W' (hW : Below wr.heap.size wr W') => undo_any gb mI mE (gAt L.base (putOp L.ops o) (placeOf L.ops o + i)) x W' (hI.out.g.below hW) (gAt_ok HLG.out.ok.base _ _) (gAt_thin HLG.out.ok.thin _ _) hxs
        rw [← hstp] at hdo
        unfold Op.v at hdo
        have HDO := Lib.hid hdo
        have HII := Lib.hid hI.out
        have HXB : Hid (Below wr.heap.size wr (wr.alloc (.cells #[.int .i64 x.stamp.t, .int .i64 x.stamp.r, .int .i64 x.kind, .int .i64 x.at_.t, .int .i64 x.at_.r, .int .i64 x.ino.t, .int .i64 x.ino.r, .int .i64 x.to.t, .int .i64 x.to.r, .string x.name, .string x.new, .int .i64 x.off, .string x.data] 47))) := Lib.hid ((Below.refl _ wr).alloc (Nat.le_refl _) _)
        obtain ⟨⟨q0, q1⟩, q5, f5⟩ := HCC.out _ _ _ _ hI.out.com
        obtain ⟨⟨z0, z1⟩, z5, _⟩ := HCC.out _ _ _ _ (hI.out.com.below HXB.out)
        obtain ⟨_, _, _, _, _, _, _, _, _, _, _, _, _, _⟩ := HXX.out (wr.alloc (.cells #[.int .i64 x.stamp.t, .int .i64 x.stamp.r, .int .i64 x.kind, .int .i64 x.at_.t, .int .i64 x.at_.r, .int .i64 x.ino.t, .int .i64 x.ino.r, .int .i64 x.to.t, .int .i64 x.to.r, .string x.name, .string x.new, .int .i64 x.off, .string x.data] 47)) (World.alloc_heap_new wr _)
        have HNI : Hid (placeOf L.ops o + i ≤ 1000 ∧ w.heap.size ≤ wr.heap.size) := Lib.hid ⟨by have := HPL.out; omega, hI.out.com.b3.size⟩
        clear hdo hstp hxs hbx hI hpl
        go_wp2_with fail
        have HS0 : Hid ((fun W : World => ((W.cell? ⟨w.heap.size, 0, none⟩ = some (.pointer (some ⟨lb, 0, none⟩)) ∧ W.cell? ⟨lb, 1, none⟩ = some (.pointer (some ⟨gb, 0, none⟩))) ∧ W.cell? ⟨lb, 5, none⟩ = some (.slice ra' (placeOf L.ops o + i) rc')) ∧ (W.cell? ⟨wr.heap.size, 0, none⟩ = some (.int .i64 x.stamp.t) ∧ W.cell? ⟨wr.heap.size, 1, none⟩ = some (.int .i64 x.stamp.r) ∧ W.cell? ⟨wr.heap.size, 2, none⟩ = some (.int .i64 x.kind) ∧ W.cell? ⟨wr.heap.size, 3, none⟩ = some (.int .i64 x.at_.t) ∧ W.cell? ⟨wr.heap.size, 4, none⟩ = some (.int .i64 x.at_.r) ∧ W.cell? ⟨wr.heap.size, 5, none⟩ = some (.int .i64 x.ino.t) ∧ W.cell? ⟨wr.heap.size, 6, none⟩ = some (.int .i64 x.ino.r) ∧ W.cell? ⟨wr.heap.size, 7, none⟩ = some (.int .i64 x.to.t) ∧ W.cell? ⟨wr.heap.size, 8, none⟩ = some (.int .i64 x.to.r) ∧ W.cell? ⟨wr.heap.size, 9, none⟩ = some (.string x.name) ∧ W.cell? ⟨wr.heap.size, 10, none⟩ = some (.string x.new) ∧ W.cell? ⟨wr.heap.size, 11, none⟩ = some (.int .i64 x.off) ∧ W.cell? ⟨wr.heap.size, 12, none⟩ = some (.string x.data))) (wr.alloc (.cells #[.int .i64 x.stamp.t, .int .i64 x.stamp.r, .int .i64 x.kind, .int .i64 x.at_.t, .int .i64 x.at_.r, .int .i64 x.ino.t, .int .i64 x.ino.r, .int .i64 x.to.t, .int .i64 x.to.r, .string x.name, .string x.new, .int .i64 x.off, .string x.data] 47)).drew) := Lib.hid (by have h := HCC.out _ _ _ _ (HII.out.com.below HXB.out.drew); exact ⟨⟨h.1, h.2.1⟩, HXY.out _ (World.alloc_heap_new wr _)⟩)
        refine wp_region_noPanic ?_
        refine wp_region_N 15 (S := (fun W : World => ((W.cell? ⟨w.heap.size, 0, none⟩ = some (.pointer (some ⟨lb, 0, none⟩)) ∧ W.cell? ⟨lb, 1, none⟩ = some (.pointer (some ⟨gb, 0, none⟩))) ∧ W.cell? ⟨lb, 5, none⟩ = some (.slice ra' (placeOf L.ops o + i) rc')) ∧ (W.cell? ⟨wr.heap.size, 0, none⟩ = some (.int .i64 x.stamp.t) ∧ W.cell? ⟨wr.heap.size, 1, none⟩ = some (.int .i64 x.stamp.r) ∧ W.cell? ⟨wr.heap.size, 2, none⟩ = some (.int .i64 x.kind) ∧ W.cell? ⟨wr.heap.size, 3, none⟩ = some (.int .i64 x.at_.t) ∧ W.cell? ⟨wr.heap.size, 4, none⟩ = some (.int .i64 x.at_.r) ∧ W.cell? ⟨wr.heap.size, 5, none⟩ = some (.int .i64 x.ino.t) ∧ W.cell? ⟨wr.heap.size, 6, none⟩ = some (.int .i64 x.ino.r) ∧ W.cell? ⟨wr.heap.size, 7, none⟩ = some (.int .i64 x.to.t) ∧ W.cell? ⟨wr.heap.size, 8, none⟩ = some (.int .i64 x.to.r) ∧ W.cell? ⟨wr.heap.size, 9, none⟩ = some (.string x.name) ∧ W.cell? ⟨wr.heap.size, 10, none⟩ = some (.string x.new) ∧ W.cell? ⟨wr.heap.size, 11, none⟩ = some (.int .i64 x.off) ∧ W.cell? ⟨wr.heap.size, 12, none⟩ = some (.string x.data)))) (by kernel_rfl) ?_
        refine wpAnyN_take (i := 0) (v := ?v0) rfl (by kernel_rfl) (by kernel_rfl) (by decide) (by kernel_rfl) (by kernel_rfl) (fun _ _ _ h => h) (Or.inl ⟨by rfl, ?h0⟩) HS0.out ?r0
        case h0 => intro W hSW; obtain ⟨⟨⟨_, _⟩, _⟩, _, _, _, _, _, _, _, _, _, _, _, _, _⟩ := hSW; go_simp; first | done | with_reducible rfl
        try simp only [Act.put, List.setIfInBounds_toArray, List.set_cons_zero, List.set_cons_succ]
        refine wpAnyN_take (i := 1) (v := ?v1) rfl (by kernel_rfl) (by kernel_rfl) (by decide) (by kernel_rfl) (by kernel_rfl) (fun _ _ _ h => h) (Or.inl ⟨by rfl, ?h1⟩) HS0.out ?r1
        case h1 => intro W hSW; obtain ⟨⟨⟨_, _⟩, _⟩, _, _, _, _, _, _, _, _, _, _, _, _, _⟩ := hSW; go_simp; first | done | with_reducible rfl
        try simp only [Act.put, List.setIfInBounds_toArray, List.set_cons_zero, List.set_cons_succ]
        refine wpAnyN_take (i := 2) (v := ?v2) rfl (by kernel_rfl) (by kernel_rfl) (by decide) (by kernel_rfl) (by kernel_rfl) (fun _ _ _ h => h) (Or.inl ⟨by rfl, ?h2⟩) HS0.out ?r2
        case h2 => intro W hSW; obtain ⟨⟨⟨_, _⟩, _⟩, _, _, _, _, _, _, _, _, _, _, _, _, _⟩ := hSW; go_simp; first | done | with_reducible rfl
        try simp only [Act.put, List.setIfInBounds_toArray, List.set_cons_zero, List.set_cons_succ]
        refine wpAnyN_take (i := 3) (v := ?v3) rfl (by kernel_rfl) (by kernel_rfl) (by decide) (by kernel_rfl) (by kernel_rfl) (fun _ _ _ h => h) (Or.inl ⟨by rfl, ?h3⟩) HS0.out ?r3
        case h3 => intro W hSW; obtain ⟨⟨⟨_, _⟩, _⟩, _, _, _, _, _, _, _, _, _, _, _, _, _⟩ := hSW; go_simp; first | done | with_reducible rfl
        try simp only [Act.put, List.setIfInBounds_toArray, List.set_cons_zero, List.set_cons_succ]
        refine wpAnyN_take (i := 4) (v := ?v4) rfl (by kernel_rfl) (by kernel_rfl) (by decide) (by kernel_rfl) (by kernel_rfl) (fun _ _ _ h => h) (Or.inl ⟨by rfl, ?h4⟩) HS0.out ?r4
        case h4 => intro W hSW; obtain ⟨⟨⟨_, _⟩, _⟩, _, _, _, _, _, _, _, _, _, _, _, _, _⟩ := hSW; go_simp; first | done | with_reducible rfl
        try simp only [Act.put, List.setIfInBounds_toArray, List.set_cons_zero, List.set_cons_succ]
        refine wpAnyN_take (i := 5) (v := ?v5) rfl (by kernel_rfl) (by kernel_rfl) (by decide) (by kernel_rfl) (by kernel_rfl) (fun _ _ _ h => h) (Or.inl ⟨by rfl, ?h5⟩) HS0.out ?r5
        case h5 => intro W hSW; obtain ⟨⟨⟨_, _⟩, _⟩, _, _, _, _, _, _, _, _, _, _, _, _, _⟩ := hSW; go_simp; first | done | with_reducible rfl
        try simp only [Act.put, List.setIfInBounds_toArray, List.set_cons_zero, List.set_cons_succ]
        refine wpAnyN_take (i := 6) (v := ?v6) rfl (by kernel_rfl) (by kernel_rfl) (by decide) (by kernel_rfl) (by kernel_rfl) (fun _ _ _ h => h) (Or.inl ⟨by rfl, ?h6⟩) HS0.out ?r6
        case h6 => intro W hSW; obtain ⟨⟨⟨_, _⟩, _⟩, _, _, _, _, _, _, _, _, _, _, _, _, _⟩ := hSW; go_simp; first | done | with_reducible rfl
        try simp only [Act.put, List.setIfInBounds_toArray, List.set_cons_zero, List.set_cons_succ]
        refine wpAnyN_take (i := 7) (v := ?v7) rfl (by kernel_rfl) (by kernel_rfl) (by decide) (by kernel_rfl) (by kernel_rfl) (fun _ _ _ h => h) (Or.inl ⟨by rfl, ?h7⟩) HS0.out ?r7
        case h7 => intro W hSW; obtain ⟨⟨⟨_, _⟩, _⟩, _, _, _, _, _, _, _, _, _, _, _, _, _⟩ := hSW; go_simp; first | done | with_reducible rfl
        try simp only [Act.put, List.setIfInBounds_toArray, List.set_cons_zero, List.set_cons_succ]
        refine wpAnyN_take (i := 8) (v := ?v8) rfl (by kernel_rfl) (by kernel_rfl) (by decide) (by kernel_rfl) (by kernel_rfl) (fun _ _ _ h => h) (Or.inl ⟨by rfl, ?h8⟩) HS0.out ?r8
        case h8 => intro W hSW; obtain ⟨⟨⟨_, _⟩, _⟩, _, _, _, _, _, _, _, _, _, _, _, _, _⟩ := hSW; go_simp; first | done | with_reducible rfl
        try simp only [Act.put, List.setIfInBounds_toArray, List.set_cons_zero, List.set_cons_succ]
        refine wpAnyN_take (i := 9) (v := ?v9) rfl (by kernel_rfl) (by kernel_rfl) (by decide) (by kernel_rfl) (by kernel_rfl) (fun _ _ _ h => h) (Or.inl ⟨by rfl, ?h9⟩) HS0.out ?r9
        case h9 => intro W hSW; obtain ⟨⟨⟨_, _⟩, _⟩, _, _, _, _, _, _, _, _, _, _, _, _, _⟩ := hSW; go_simp; first | done | with_reducible rfl
        try simp only [Act.put, List.setIfInBounds_toArray, List.set_cons_zero, List.set_cons_succ]
        refine wpAnyN_one (i := 10) (by kernel_rfl) rfl rfl ?_
        go_simp
        refine Calls.mono (HDO.out _ (by exact HXB.out.drew)) ?_
        rintro e w5 ⟨v1, v2, v3, v4, rfl, hr5, hG5, hT5⟩
        obtain ⟨s1, t1, rfl⟩ := row_len5 hr5.1
        obtain ⟨s2, t2, rfl⟩ := row_len5 hr5.2.1
        obtain ⟨s3, t3, rfl⟩ := row_len5 hr5.2.2.1
        obtain ⟨s4, t4, rfl⟩ := row_len5 hr5.2.2.2
        have HT5 : Hid (Turn (Maps2 mI mE) wr w5) := Lib.hid ((Below.turn' HXB.out.drew _).trans hT5)
        have HR5 := Lib.hid hr5
        have HG5 := Lib.hid hG5
        have HC5 := Lib.hid (HII.out.com.turn HT5.out hG5.maps)
        have HX5 : Hid (w5.heap[wr.heap.size]? = some (.cells #[.int .i64 x.stamp.t, .int .i64 x.stamp.r, .int .i64 x.kind, .int .i64 x.at_.t, .int .i64 x.at_.r, .int .i64 x.ino.t, .int .i64 x.ino.r, .int .i64 x.to.t, .int .i64 x.to.r, .string x.name, .string x.new, .int .i64 x.off, .string x.data] 47)) := Lib.hid ((hT5.block wr.heap.size (by show wr.heap.size < (wr.alloc _).heap.size; simp) (fun e => by have h1 := HII.out.com.lt; have h2 := HNI.out.2; rcases e with e | e <;> omega)).trans (World.alloc_heap_new wr _))
        have HS5 : Hid ((fun W : World => ((W.cell? ⟨w.heap.size, 0, none⟩ = some (.pointer (some ⟨lb, 0, none⟩)) ∧ W.cell? ⟨lb, 1, none⟩ = some (.pointer (some ⟨gb, 0, none⟩))) ∧ W.cell? ⟨lb, 5, none⟩ = some (.slice ra' (placeOf L.ops o + i) rc')) ∧ (W.cell? ⟨wr.heap.size, 0, none⟩ = some (.int .i64 x.stamp.t) ∧ W.cell? ⟨wr.heap.size, 1, none⟩ = some (.int .i64 x.stamp.r) ∧ W.cell? ⟨wr.heap.size, 2, none⟩ = some (.int .i64 x.kind) ∧ W.cell? ⟨wr.heap.size, 3, none⟩ = some (.int .i64 x.at_.t) ∧ W.cell? ⟨wr.heap.size, 4, none⟩ = some (.int .i64 x.at_.r) ∧ W.cell? ⟨wr.heap.size, 5, none⟩ = some (.int .i64 x.ino.t) ∧ W.cell? ⟨wr.heap.size, 6, none⟩ = some (.int .i64 x.ino.r) ∧ W.cell? ⟨wr.heap.size, 7, none⟩ = some (.int .i64 x.to.t) ∧ W.cell? ⟨wr.heap.size, 8, none⟩ = some (.int .i64 x.to.r) ∧ W.cell? ⟨wr.heap.size, 9, none⟩ = some (.string x.name) ∧ W.cell? ⟨wr.heap.size, 10, none⟩ = some (.string x.new) ∧ W.cell? ⟨wr.heap.size, 11, none⟩ = some (.int .i64 x.off) ∧ W.cell? ⟨wr.heap.size, 12, none⟩ = some (.string x.data))) w5) := Lib.hid ⟨⟨(HCC.out _ _ _ _ HC5.out).1, (HCC.out _ _ _ _ HC5.out).2.1⟩, HXY.out _ HX5.out⟩
        have HS6 : Hid (∀ ob, (fun W : World => ((W.cell? ⟨w.heap.size, 0, none⟩ = some (.pointer (some ⟨lb, 0, none⟩)) ∧ W.cell? ⟨lb, 1, none⟩ = some (.pointer (some ⟨gb, 0, none⟩))) ∧ W.cell? ⟨lb, 5, none⟩ = some (.slice ra' (placeOf L.ops o + i) rc')) ∧ (W.cell? ⟨wr.heap.size, 0, none⟩ = some (.int .i64 x.stamp.t) ∧ W.cell? ⟨wr.heap.size, 1, none⟩ = some (.int .i64 x.stamp.r) ∧ W.cell? ⟨wr.heap.size, 2, none⟩ = some (.int .i64 x.kind) ∧ W.cell? ⟨wr.heap.size, 3, none⟩ = some (.int .i64 x.at_.t) ∧ W.cell? ⟨wr.heap.size, 4, none⟩ = some (.int .i64 x.at_.r) ∧ W.cell? ⟨wr.heap.size, 5, none⟩ = some (.int .i64 x.ino.t) ∧ W.cell? ⟨wr.heap.size, 6, none⟩ = some (.int .i64 x.ino.r) ∧ W.cell? ⟨wr.heap.size, 7, none⟩ = some (.int .i64 x.to.t) ∧ W.cell? ⟨wr.heap.size, 8, none⟩ = some (.int .i64 x.to.r) ∧ W.cell? ⟨wr.heap.size, 9, none⟩ = some (.string x.name) ∧ W.cell? ⟨wr.heap.size, 10, none⟩ = some (.string x.new) ∧ W.cell? ⟨wr.heap.size, 11, none⟩ = some (.int .i64 x.off) ∧ W.cell? ⟨wr.heap.size, 12, none⟩ = some (.string x.data))) (w5.alloc ob)) := Lib.hid fun ob => ⟨⟨(HCC.out _ _ _ _ (HC5.out.below ((Below.refl _ w5).alloc (Nat.le_refl _) ob))).1, (HCC.out _ _ _ _ (HC5.out.below ((Below.refl _ w5).alloc (Nat.le_refl _) ob))).2.1⟩, HXY.out _ ((Below.heap_alloc w5 ob _ (Array.getElem?_eq_some_iff.1 HX5.out).1).trans HX5.out)⟩
        have HF5 := Lib.hid (HII.out.fit.kept (fun a ha => HT5.out.cell a ha) fun hr => (But3.of_turn HT5.out : But3 lb mI mE wr w5).rows HII.out.com.blocks (by decide) hr)
        clear hr5 hG5 hT5
        refine ⟨HS5.out, ?_⟩
        try simp only [Act.put, List.setIfInBounds_toArray, List.set_cons_zero, List.set_cons_succ]
        refine wpAnyN_one (i := 11) (by kernel_rfl) rfl rfl ?_
        go_simp
        refine ⟨HS6.out _, ?_⟩
        try simp only [Act.put, List.setIfInBounds_toArray, List.set_cons_zero, List.set_cons_succ]
        refine wpAnyN_one (i := 12) (by kernel_rfl) rfl rfl ?_
        refine wp_append_fit rfl _ _ rfl w.heap.size (placeOf L.ops o + i) (.slice ra' (placeOf L.ops o + i) rc') (rs'.flatMap Raw.cells) rfl (HF5.out.alloc _) (by have h1 := HNI.out.2; have h2 := HT5.out.size; simp only [World.size_alloc]; omega) ⟨.slice s1 (diffOf (gAt L.base (putOp L.ops o) (placeOf L.ops o + i)) (gAt L.base (putOp L.ops o) (placeOf L.ops o + i + 1))).lost.length t1, .slice s2 (diffOf (gAt L.base (putOp L.ops o) (placeOf L.ops o + i)) (gAt L.base (putOp L.ops o) (placeOf L.ops o + i + 1))).made.length t2, .slice s3 (diffOf (gAt L.base (putOp L.ops o) (placeOf L.ops o + i)) (gAt L.base (putOp L.ops o) (placeOf L.ops o + i + 1))).was.length t3, .slice s4 (diffOf (gAt L.base (putOp L.ops o) (placeOf L.ops o + i)) (gAt L.base (putOp L.ops o) (placeOf L.ops o + i + 1))).new.length t4, (gAt L.base (putOp L.ops o) (placeOf L.ops o + i)).opWhy x⟩ ⟨w5.heap.size, 0, none⟩ rfl (by exact raw_new w5 _) (by exact raw_one _ _ _ _ _ _ _ _ _ _ _ _ _) HNI.out.1 ?_
        intro v8 w8 row hown hgr hrow
        have HC8 := Lib.hid ((HC5.out.below ((Below.refl _ w5).alloc (Nat.le_refl _) _)).grown hgr hrow)
        have hx8 : w8.heap[wr.heap.size]? = some (.cells #[.int .i64 x.stamp.t, .int .i64 x.stamp.r, .int .i64 x.kind, .int .i64 x.at_.t, .int .i64 x.at_.r, .int .i64 x.ino.t, .int .i64 x.ino.r, .int .i64 x.to.t, .int .i64 x.to.r, .string x.name, .string x.new, .int .i64 x.off, .string x.data] 47) := (hgr.block _ (by have := (Array.getElem?_eq_some_iff.1 HX5.out).1; simp only [World.size_alloc]; omega) (by rintro e; obtain ⟨_, cs, fz, h'⟩ := hrow _ e.symm; rw [(Below.heap_alloc w5 _ _ (Array.getElem?_eq_some_iff.1 HX5.out).1).trans HX5.out] at h'; simp only [Option.some.injEq, Obj.cells.injEq] at h'; exact absurd h'.2.1 (by decide))).trans ((Below.heap_alloc w5 _ _ (Array.getElem?_eq_some_iff.1 HX5.out).1).trans HX5.out)
        have HS8 : Hid ((fun W : World => ((W.cell? ⟨w.heap.size, 0, none⟩ = some (.pointer (some ⟨lb, 0, none⟩)) ∧ W.cell? ⟨lb, 1, none⟩ = some (.pointer (some ⟨gb, 0, none⟩))) ∧ W.cell? ⟨lb, 5, none⟩ = some (.slice ra' (placeOf L.ops o + i) rc')) ∧ (W.cell? ⟨wr.heap.size, 0, none⟩ = some (.int .i64 x.stamp.t) ∧ W.cell? ⟨wr.heap.size, 1, none⟩ = some (.int .i64 x.stamp.r) ∧ W.cell? ⟨wr.heap.size, 2, none⟩ = some (.int .i64 x.kind) ∧ W.cell? ⟨wr.heap.size, 3, none⟩ = some (.int .i64 x.at_.t) ∧ W.cell? ⟨wr.heap.size, 4, none⟩ = some (.int .i64 x.at_.r) ∧ W.cell? ⟨wr.heap.size, 5, none⟩ = some (.int .i64 x.ino.t) ∧ W.cell? ⟨wr.heap.size, 6, none⟩ = some (.int .i64 x.ino.r) ∧ W.cell? ⟨wr.heap.size, 7, none⟩ = some (.int .i64 x.to.t) ∧ W.cell? ⟨wr.heap.size, 8, none⟩ = some (.int .i64 x.to.r) ∧ W.cell? ⟨wr.heap.size, 9, none⟩ = some (.string x.name) ∧ W.cell? ⟨wr.heap.size, 10, none⟩ = some (.string x.new) ∧ W.cell? ⟨wr.heap.size, 11, none⟩ = some (.int .i64 x.off) ∧ W.cell? ⟨wr.heap.size, 12, none⟩ = some (.string x.data))) w8) := Lib.hid ⟨⟨(HCC.out _ _ _ _ HC8.out).1, (HCC.out _ _ _ _ HC8.out).2.1⟩, HXY.out _ hx8⟩
        obtain ⟨_, y8, f8⟩ := HCC.out _ _ _ _ HC8.out
        have HOWN := Lib.hid hown
        have HGRN := Lib.hid hgr
        have HROW := Lib.hid hrow
        obtain ⟨s8, t8, rfl⟩ := row_len5 hown
        clear hown hgr hrow hx8
        refine ⟨fun _ => HS8.out, ?_⟩
        try simp only [Act.put, List.setIfInBounds_toArray, List.set_cons_zero, List.set_cons_succ]
        refine wpAnyN_one (i := 13) (by kernel_rfl) rfl rfl ?_
        go_simp
        refine ⟨by first | exact HS8.out | exact HS8.out.2, ?_⟩
        try simp only [Act.put, List.setIfInBounds_toArray, List.set_cons_zero, List.set_cons_succ]
        refine wpAnyN_one (i := 14) (by kernel_rfl) rfl rfl ?_
        go_simp
        refine ⟨by first | exact HS8.out | exact HS8.out.2, ?_⟩
        try simp only [Act.put, List.setIfInBounds_toArray, List.set_cons_zero, List.set_cons_succ]
        refine wpAnyN_one (i := 15) (by kernel_rfl) rfl rfl ?_
        go_simp
        refine wpAnyN_done (by kernel_rfl) (NoPanic.normal ?_) _
        all_goals go_wp2
        all_goals (go_roundg (L.ops.length + 1 - placeOf L.ops o - (i + 1)))
        all_goals first
          | omega
          | exact ⟨i + 1, _, _, by first | rfl | go_num, by omega, by omega, (show Aside _ from HII.out.step (by have h1 := HGEB.out.1; have h2 := HNI.out.2; show B ≤ (wr.alloc _).heap.size; simp only [World.size_alloc]; omega) HT5.out HR5.out HG5.out ((Below.refl _ w5).alloc (Nat.le_refl _) _) HGRN.out HROW.out HOWN.out (Below.refl _ _))⟩
      · have hlti : ¬ (i : Int) < ((L.ops.length + 1 - placeOf L.ops o : Nat) : Int) := by omega
        obtain rfl : i = L.ops.length + 1 - placeOf L.ops o := by omega
        have HIE := Lib.hid hI.out
        clear hI hil hgg hi0 hwi hlt
        go_wp2_with fail
        have hlog := HIE.out.log (by have := HPL.out; omega) (by rw [hlp]; have := HPL.out; omega) HOKP.out HSMP.out (by rw [hlp]; omega) HGEB.out.1 HLG.out.ge HPT.out.2.2.1
        rw [← HAD.out] at hlog
        have hdf := HIE.out.com.df
        have hk : ∀ k, k ≠ D → (wr.putObj D (.deferred none)).heap[k]? = wr.heap[k]? := fun k hk => World.putObj_heap_other hk
        refine ⟨by simp, .inl ⟨_, _, rfl, run_takeDeferred hdf, ?_⟩⟩
        have hb3 := HIE.out.com.b3
        exact ⟨_, results_tmp rfl _ _ _, rfl, hlog.other hdf fun k _ hkd => hk k hkd, ⟨hb3.os, hb3.tape, hb3.output, by have := hb3.size; simpa using this, fun k hk' h1 h2 h3 => (hk k (by have := HLT9.out; omega)).trans (hb3.block k hk' h1 h2 h3)⟩, OpsIn.of_row ((hk lb (by have h := HIE.out.com.box; rintro rfl; rw [hdf] at h; cases h)).trans HIE.out.com.box) HIE.out.com.row (Nat.le_refl _)⟩
  case stop =>
    rintro D c pre W _ _ h _
    exact h.elim
end Go.Proofs.YtlokljaeknmdpaaGreat

/-! ## LogD -/
namespace Go.Proofs.YtlokljaeknmdpaaGreat
open Go.RowKit Go.Shelf Go.Proofs
open L12 (Raw Raw.cells infoRec)

set_option linter.unusedVariables false

theorem add_any2 (B lb gb mI mE : Nat) (L : Lg) (o : Op) (w : World) (h : LogAt B w lb gb mI mE L) (hs : o.Small) (hl : L.ops.length < 500) :
    Calls Tryz.prog 54 #[.pointer (some ⟨lb, 0, none⟩), o.v] w fun e w' => e = .returned (.bool (L.addB o)) ∧ LogAt B w' lb gb mI mE (L.add o) ∧ But3 lb mI mE w w' ∧ ∀ K, OpsIn w lb K → (∀ g, w.heap.size ≤ g → K g) → OpsIn w' lb K := by
  cases hb : L.addB o with
  | false =>
    have e : L.add o = L := by unfold Lg.add; rw [hb]; rfl
    rw [e]
    have hx : Calls Tryz.prog 54 #[.pointer (some ⟨lb, 0, none⟩), o.v] w fun e w' => e = .returned (.bool false) ∧ Below w.heap.size w w' := by
      cases hm : opMay o with
      | false => exact add_may_not B lb gb mI mE L o w h hs hm
      | true =>
        by_cases hc : ltSt L.floor o.stamp
        · cases hp : putB L.ops o with
          | false => exact add_there_l B lb gb mI mE L o w h hs hm hc hp
          | true =>
            exfalso
            unfold Lg.addB at hb
            rw [hp, decide_eq_true hc] at hb
            cases hb
        · exact add_low B lb gb mI mE L o w h hs hm hc
    exact hx.mono fun e w' ⟨h1, h2⟩ => ⟨h1, h.below h2, But3.of_below h2, fun K hK _ => hK.to (h2.cell (p := ⟨lb, 4, none⟩) h.lt.1) fun _ hg => hg⟩
  | true =>
    unfold Lg.addB at hb
    simp only [Bool.and_eq_true, decide_eq_true_eq] at hb
    exact (add_new2 B lb gb mI mE L o w h hs (putB_iff.1 hb.2).1 hb.1 hb.2 hl).mono fun e w' ⟨h1, h2, h3, h4⟩ => ⟨h1, h2, h3, fun K _ hK => h4.to rfl hK⟩
theorem add_any (B lb gb mI mE : Nat) (L : Lg) (o : Op) (w : World) (h : LogAt B w lb gb mI mE L) (hs : o.Small) (hl : L.ops.length < 500) :
    Calls Tryz.prog 54 #[.pointer (some ⟨lb, 0, none⟩), o.v] w fun e w' => e = .returned (.bool (L.addB o)) ∧ LogAt B w' lb gb mI mE (L.add o) ∧ But3 lb mI mE w w' :=
  (add_any2 B lb gb mI mE L o w h hs hl).mono fun e w' h => ⟨h.1, h.2.1, h.2.2.1⟩

/-- a log of the call's own -/
def MadeLog (w : World) (L : Lg) (e : Ending) (w' : World) : Prop := ∃ lb gb mI mE, e = .returned (.pointer (some ⟨lb, 0, none⟩)) ∧ LogAt w.heap.size w' lb gb mI mE L ∧ Below w.heap.size w w'
end Go.Proofs.YtlokljaeknmdpaaGreat
