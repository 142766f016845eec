/-
  (*oplog.Log).Compact where something is compacted; condition: the log is in order. · Deeds at a log: an operation that comes, or a compaction; no condition.
-/
import Derived.Test.YtlokljaeknmdpaaGreatKZ46
import Derived.Lib.QuietBelow
import Derived.Test.YtlokljaeknmdpaaGreatKZ32
/-! ## LogH -/
namespace Go.Proofs.YtlokljaeknmdpaaGreat
open Go.RowKit Go.Shelf Go.Sort Go.Proofs
open L12 (Raw Raw.cells infoRec)

set_option linter.unusedSimpArgs false

/-- a row's block isn't a log's -/
theorem ne_log {w : World} {lb j : Nat} {t : TypeId} {cs cs' : Array Value} {fz fz' : Nat × Nat} (h : w.heap[lb]? = some (.cells cs' 132 fz')) (hj : w.heap[j]? = some (.cells cs t fz)) (ht : t ≠ 132) : j ≠ lb := by
  rintro rfl
  rw [hj] at h
  simp only [Option.some.injEq, Obj.cells.injEq] at h
  exact ht h.2.1
/-- the log behind a compaction: its block alone is turned -/
theorem compacted {B lb gb mI mE g2 i2 e2 : Nat} {L : Lg} {s : St} {w W : World} {v1 v2 : Value} {rs : List Raw} (h : LogAt B w lb gb mI mE L) (hr : RecsOf B L.base L.ops L.ops.length rs w) (hc : L.compactB s = true) (hx : But3 lb lb lb w W)
    (hb : W.heap[lb]? = some (.cells #[.pointer (some ⟨g2, 0, none⟩), .pointer (some ⟨gb, 0, none⟩), .int .i64 s.t, .int .i64 s.r, v1, v2] 132 (0, 0))) (hg : GrAt W g2 i2 e2 (onOps L.base (L.ops.take (belowOps L.ops s)))) (hge : w.heap.size ≤ g2 ∧ w.heap.size ≤ i2 ∧ w.heap.size ≤ e2)
    (h1 : OpsRow w.heap.size v1 (L.ops.drop (belowOps L.ops s)) W) (h2 : W.ownsRow w.heap.size 44 5 v2 (rs.drop (belowOps L.ops s)).length ((rs.drop (belowOps L.ops s)).flatMap Raw.cells)) : LogAt B W lb gb mI mE (L.compact s) ∧ But3 lb mI mE w W := by
  have hl := h.lt
  have hbl := h.blocks
  obtain ⟨bb, bI, bE, vo, vr, rs', k1, _⟩ := h.parts
  have hne : gb ≠ lb ∧ mI ≠ lb ∧ mE ≠ lb := by
    obtain ⟨_, ⟨e1, n1, k2⟩, ⟨e2, n2, k3⟩⟩ := hbl
    refine ⟨?_, ?_, ?_⟩
    · rintro rfl
      have := h.g.box
      rw [k1] at this
      simp only [Option.some.injEq, Obj.cells.injEq] at this
      exact absurd this.2.1 (by decide)
    · rintro rfl; rw [k1] at k2; cases k2
    · rintro rfl; rw [k1] at k3; cases k3
  have hx3 : But3 lb mI mE w W := ⟨hx.os, hx.tape, hx.output, hx.size, fun k hk ha _ _ => hx.block k hk ha ha ha⟩
  have hbs : ∀ k, k < w.heap.size → k ≠ lb → W.heap[k]? = w.heap[k]? := fun k hk ha => hx.block k hk ha ha ha
  have hle := below_le L.ops s
  have hok := h.ok.compact s
  have hgg := h.ok.compact_g s
  have e : L.compact s = ⟨onOps L.base (L.ops.take (belowOps L.ops s)), s, L.ops.drop (belowOps L.ops s)⟩ := by unfold Lg.compact; rw [hc]; rfl
  have eg : gAt L.base L.ops (belowOps L.ops s) = onOps L.base (L.ops.take (belowOps L.ops s)) := by unfold gAt onOps; rw [h.ok.sort (List.take_sublist _ _)]
  have hlen : (L.ops.drop (belowOps L.ops s)).length = L.ops.length - belowOps L.ops s := List.length_drop
  have hrl : (rs.drop (belowOps L.ops s)).length = (L.ops.drop (belowOps L.ops s)).length := by rw [List.length_drop, hlen, hr.1]
  have hge2 := h.ge
  have hg1 : GrAt W gb mI mE L.g := h.g.kept (hbs _ hl.2.1 hne.1) (hbs _ hl.2.2.1 hne.2.1) (hbs _ hl.2.2.2 hne.2.2)
  have hrd := hr.drop (k := belowOps L.ops s) hle
  rw [eg, ← hlen] at hrd
  rw [hrl] at h2
  rw [e] at hok hgg ⊢
  rw [← hgg] at hg1
  refine ⟨⟨⟨g2, i2, e2, v1, v2, rs.drop (belowOps L.ops s), hb, hg, h1.mono (by omega), ownsRow_mono h2 (by omega), hrd.to fun _ _ _ _ _ hra => hx3.recAt h.blocks hra, by omega, by omega⟩, hg1, hok, fun o ho => h.small o (List.mem_of_mem_drop ho), ?_, h.ge⟩, hx3⟩
  show (L.ops.drop (belowOps L.ops s)).length ≤ 500
  have := h.few
  omega

set_option maxRecDepth 100000 in
set_option maxHeartbeats 4000000 in
theorem compact_yes (B lb gb mI mE : Nat) (L : Lg) (s : St) (w : World) (h : LogAt B w lb gb mI mE L) (hm : mayB s.t s.r = true) (hc : ltSt L.floor s) :
    Calls Tryz.prog 53 #[.pointer (some ⟨lb, 0, none⟩), s.v] w fun e w' => e = .returned (.int .i64 (belowOps L.ops s)) ∧ LogAt B w' lb gb mI mE (L.compact s) ∧ But3 lb mI mE w w' ∧ OpsIn w' lb (fun g => w.heap.size ≤ g) := by
  obtain ⟨bb, bI, bE, vo, vr, rs, h1, h2, h3, h4, h5, h6, h7⟩ := h.parts
  obtain ⟨oa, oc, rfl⟩ := h3.shape
  obtain ⟨ra, rc, rfl⟩ := row_len5 h4
  have hcb : L.compactB s = true := by unfold Lg.compactB; rw [show s.mayB = true from hm, decide_eq_true hc]; rfl
  obtain ⟨W0, hW0⟩ : ∃ W0, W0 = w.alloc (.cells #[.int .i64 s.t, .int .i64 s.r] 31) := ⟨_, rfl⟩
  have HBW : Hid (Below w.heap.size w W0 ∧ w.heap.size + 1 ≤ W0.heap.size) := Lib.hid ⟨by rw [hW0]; exact (Below.refl _ _).alloc (Nat.le_refl _) _, by rw [hW0]; simp only [World.size_alloc]; omega⟩
  have HM := Lib.hid (fun W => (may_any s.t s.r W).mono fun e w' (h : _ ∧ _) => (⟨h.1, h.2.below⟩ : e = .returned (.bool (mayB s.t s.r)) ∧ Below W.heap.size W w'))
  rw [hm] at HM
  have HJ : Hid (∀ W, Below W0.heap.size W0 W → (fun W : World => W.cell? ⟨lb, 0, none⟩ = some (.pointer (some ⟨bb, 0, none⟩)) ∧ W.cell? ⟨lb, 1, none⟩ = some (.pointer (some ⟨gb, 0, none⟩)) ∧ W.cell? ⟨lb, 2, none⟩ = some (.int .i64 L.floor.t) ∧ W.cell? ⟨lb, 3, none⟩ = some (.int .i64 L.floor.r) ∧ W.cell? ⟨lb, 4, none⟩ = some (.slice oa L.ops.length oc) ∧ W.cell? ⟨lb, 5, none⟩ = some (.slice ra L.ops.length rc) ∧ W.cell? ⟨w.heap.size, 0, none⟩ = some (.int .i64 s.t) ∧ W.cell? ⟨w.heap.size, 1, none⟩ = some (.int .i64 s.r)) W) := Lib.hid fun W hW => by
    have hl := h.lt.1
    have hb : W.heap[lb]? = _ := (hW.block lb (by have := HBW.out.1.size; omega)).trans ((HBW.out.1.block lb hl).trans h1)
    have hs : W.heap[w.heap.size]? = some (.cells #[.int .i64 s.t, .int .i64 s.r] 31) := (hW.block _ (by have := HBW.out.2; omega)).trans (by rw [hW0]; exact World.alloc_heap_new _ _)
    obtain ⟨c0, c1, c2, c3, c4, c5⟩ := log_cells hb
    exact ⟨c0, c1, c2, c3, c4, c5, cell_at hs 0 _ rfl, cell_at hs 1 _ rfl⟩
  have HBQ : Hid (Below W0.heap.size W0 W0) := Lib.hid (Below.refl _ _)
  have HSX : Hid (W0.heap[w.heap.size]? = some (.cells #[.int .i64 s.t, .int .i64 s.r] 31)) := Lib.hid (by rw [hW0]; exact World.alloc_heap_new _ _)
  unfold St.v
  have hcl := cmpSt_le (a := s) (b := L.floor)
  rw [decide_eq_true hc, Bool.not_true] at hcl
  have HBL : Hid (∀ W, Below W0.heap.size W0 W → Calls Tryz.prog 43 #[.slice oa L.ops.length oc, (.agg #[.int .i64 s.t, .int .i64 s.r])] W fun e w' => e = .returned (.int .i64 (belowOps L.ops s)) ∧ Below W0.heap.size W0 w') := Lib.hid fun W hW =>
    (below_any _ L.ops s W ((h3.sl.below HBW.out.1).below hW) (by have := h.few; omega)).mono fun e w' ⟨k1, k2⟩ => ⟨k1, hW.trans (k2.mono hW.size)⟩
  have hkl := below_le L.ops s
  have HKL := Lib.hid hkl
  have hrl : rs.length = L.ops.length := h5.1
  have HLG := Lib.hid h
  have HCB := Lib.hid hcb
  have HOW := Lib.hid h3
  have HRC := Lib.hid h5
  have HRL := Lib.hid hrl
  have HPT := Lib.hid h1
  have HON : Hid (∀ W, Below W0.heap.size W0 W → Calls Tryz.prog 44 #[.pointer (some ⟨bb, 0, none⟩), .slice oa (belowOps L.ops s) oc] W fun e w' => ∃ g2 i2 e2, e = .returned (.pointer (some ⟨g2, 0, none⟩)) ∧ GrAt w' g2 i2 e2 (onOps L.base (L.ops.take (belowOps L.ops s))) ∧ (w.heap.size ≤ g2 ∧ w.heap.size ≤ i2 ∧ w.heap.size ≤ e2) ∧ Below W0.heap.size W0 w') := Lib.hid fun W hW => by
    refine (on_any bb bI bE L.base _ _ W ((h2.below HBW.out.1).below hW) h.ok.base h.ok.thin (((h3.sl.below HBW.out.1).below hW).take hkl) (fun o ho => h.small o (List.mem_of_mem_take ho)) (by have := h.few; rw [List.length_take]; omega)).mono ?_
    rintro e w' ⟨v, rfl, ⟨g2, i2, e2, rfl, hg, k1, k2, k3⟩, hb⟩
    have hz1 := HBW.out.2
    have hz2 := hW.size
    exact ⟨g2, i2, e2, rfl, hg, ⟨by omega, by omega, by omega⟩, hW.trans (hb.mono hW.size)⟩
  have hcp1 := row_cap h3
  have hcp2 := row_cap h4
  have HC1 : Hid (∀ W va, But3 lb lb lb w W → (if oc = belowOps L.ops s then oa else Option.map (fun x => x.add ((belowOps L.ops s) * 13)) oa) = va → Calls Tryz.prog 97 #[.slice va (L.ops.length - belowOps L.ops s) (oc - belowOps L.ops s)] W fun e w' => ∃ v', e = .returned v' ∧ OpsRow w.heap.size v' (L.ops.drop (belowOps L.ops s)) w' ∧ Below W.heap.size W w') := Lib.hid fun W va hW hva => by
    have hrow : OpsRow B (.slice oa L.ops.length oc) L.ops W := row_but h3 fun j cs fz hj => hW.block j (Array.getElem?_eq_some_iff.1 hj).1 (ne_log h1 hj (by decide)) (ne_log h1 hj (by decide)) (ne_log h1 hj (by decide))
    refine (clone_any _ (L.ops.drop (belowOps L.ops s)) W (sl_cut hrow.sl rfl hkl hva) (by have := h.few; rw [List.length_drop]; omega)).mono ?_
    rintro e w' ⟨v', rfl, k1, k2⟩
    exact ⟨v', rfl, OpsRow.mono k1 hW.size, k2⟩
  have HC2 : Hid (∀ W va, But3 lb lb lb w W → (if rc = belowOps L.ops s then ra else Option.map (fun x => x.add ((belowOps L.ops s) * 5)) ra) = va → Calls Tryz.prog 100 #[.slice va (L.ops.length - belowOps L.ops s) (rc - belowOps L.ops s)] W fun e w' => ∃ v', e = .returned v' ∧ w'.ownsRow w.heap.size 44 5 v' (rs.drop (belowOps L.ops s)).length ((rs.drop (belowOps L.ops s)).flatMap Raw.cells) ∧ Below W.heap.size W w') := Lib.hid fun W va hW hva => by
    have hrow : W.ownsRow B 44 5 (.slice ra L.ops.length rc) rs.length (rs.flatMap Raw.cells) := by rw [hrl]; exact row_but h4 fun j cs fz hj => hW.block j (Array.getElem?_eq_some_iff.1 hj).1 (ne_log h1 hj (by decide)) (ne_log h1 hj (by decide)) (ne_log h1 hj (by decide))
    refine (clone_rec _ (rs.drop (belowOps L.ops s)) W (sl_cut (SlAt.of_row (enc := Raw.cells) (k := 5) (fun _ => rfl) hrow) hrl.symm (by omega) hva) (by have := h.few; rw [List.length_drop]; omega) (fun r hr => h5.one r (List.mem_of_mem_drop hr))).mono ?_
    rintro e w' ⟨v', rfl, k1, k2⟩
    exact ⟨v', rfl, ownsRow_mono k1 hW.size, k2⟩
  clear h h1 h2 h3 h4 h5 h6 h7 hm hc hrl hcb
  go_enter Tryz.func53, Tryz.ntmps53
  go_wp2_with fail
  rw [← hW0]
  clear hW0
  have q0 : ∀ d os, (grow (redrawn W0 d) os).cell? ⟨lb, 0, none⟩ = some (.pointer (some ⟨bb, 0, none⟩)) := fun d os => (HJ.out _ (below_regrown W0 d os)).1
  have q1 : ∀ d os, (grow (redrawn W0 d) os).cell? ⟨lb, 1, none⟩ = some (.pointer (some ⟨gb, 0, none⟩)) := fun d os => (HJ.out _ (below_regrown W0 d os)).2.1
  have q2 : ∀ d os, (grow (redrawn W0 d) os).cell? ⟨lb, 2, none⟩ = some (.int .i64 L.floor.t) := fun d os => (HJ.out _ (below_regrown W0 d os)).2.2.1
  have q3 : ∀ d os, (grow (redrawn W0 d) os).cell? ⟨lb, 3, none⟩ = some (.int .i64 L.floor.r) := fun d os => (HJ.out _ (below_regrown W0 d os)).2.2.2.1
  have q4 : ∀ d os, (grow (redrawn W0 d) os).cell? ⟨lb, 4, none⟩ = some (.slice oa L.ops.length oc) := fun d os => (HJ.out _ (below_regrown W0 d os)).2.2.2.2.1
  have q5 : ∀ d os, (grow (redrawn W0 d) os).cell? ⟨lb, 5, none⟩ = some (.slice ra L.ops.length rc) := fun d os => (HJ.out _ (below_regrown W0 d os)).2.2.2.2.2.1
  have q6 : ∀ d os, (grow (redrawn W0 d) os).cell? ⟨w.heap.size, 0, none⟩ = some (.int .i64 s.t) := fun d os => (HJ.out _ (below_regrown W0 d os)).2.2.2.2.2.2.1
  have q7 : ∀ d os, (grow (redrawn W0 d) os).cell? ⟨w.heap.size, 1, none⟩ = some (.int .i64 s.r) := fun d os => (HJ.out _ (below_regrown W0 d os)).2.2.2.2.2.2.2
  have HCQ : ∀ d os, Calls Tryz.prog 62 #[(.agg #[.int .i64 s.t, .int .i64 s.r])] (grow (redrawn W0 d) os) fun e w'' => e = .returned (.bool true) ∧ ∃ p : Regrown, w'' = grow (redrawn W0 p.d) p.os := fun d os => Calls.regrown_of (HM.out _)
  have HCC : ∀ d os, Calls Tryz.prog 59 #[(.agg #[.int .i64 s.t, .int .i64 s.r]), (.agg #[.int .i64 L.floor.t, .int .i64 L.floor.r])] (grow (redrawn W0 d) os) fun e w'' => e = .returned (.int .i64 (cmpSt s.t s.r L.floor.t L.floor.r)) ∧ ∃ p : Regrown, w'' = grow (redrawn W0 p.d) p.os := fun d os => Calls.regrown_of ((stCompare_any _ _ _ _ _).mono fun e w' h => ⟨h.1, h.2.below⟩)
  refine wp_region_quiet_below (by kernel_rfl) (by kernel_rfl) ?_
  repeat (first | go_big_quiet_step (first | exact HCQ _ _ | exact HCC _ _) | quiet_step (first | exact HCQ _ _ | exact HCC _ _))
  refine wpQuiet_nil ?_
  intro _ hw'
  obtain ⟨⟨dq, osq⟩, hw''⟩ := hw'
  subst hw''
  obtain ⟨W1, hW1⟩ : ∃ W1, W1 = grow (redrawn W0 dq) osq := ⟨_, rfl⟩
  have HB1 : Hid (Below W0.heap.size W0 W1) := Lib.hid (by rw [hW1]; exact below_regrown W0 dq osq)
  rw [← hW1]
  clear hW1 HCQ HCC q0 q1 q2 q3 q4 q5 q6 q7
  obtain ⟨_, _, _, _, _, _, _, _⟩ := HJ.out W1 HB1.out
  go_wp2_with fail
  go_region_held3 (fun W : World => W.cell? ⟨lb, 0, none⟩ = some (.pointer (some ⟨bb, 0, none⟩)) ∧ W.cell? ⟨lb, 1, none⟩ = some (.pointer (some ⟨gb, 0, none⟩)) ∧ W.cell? ⟨lb, 2, none⟩ = some (.int .i64 L.floor.t) ∧ W.cell? ⟨lb, 3, none⟩ = some (.int .i64 L.floor.r) ∧ W.cell? ⟨lb, 4, none⟩ = some (.slice oa L.ops.length oc) ∧ W.cell? ⟨lb, 5, none⟩ = some (.slice ra L.ops.length rc) ∧ W.cell? ⟨w.heap.size, 0, none⟩ = some (.int .i64 s.t) ∧ W.cell? ⟨w.heap.size, 1, none⟩ = some (.int .i64 s.r)) (first | exact HJ.out _ (by first | exact HB2.out | exact HB1.out.drew) | go_keep) (first
    | (go_at_call 43; (with_reducible refine Calls.mono (HBL.out _ (by first | exact HB1.out.drew | exact HB1.out)) ?_); rintro e w2 ⟨rfl, hb2⟩; have HB2 : Hid (Below W0.heap.size W0 w2) := Lib.hid hb2; clear hb2)
    | fail "no arm")
  clear hcl
  have hk0 : (0 : Int) ≤ (belowOps L.ops s : Nat) := by omega
  have hk1 : ((belowOps L.ops s : Nat) : Int) ≤ (L.ops.length : Int) := by omega
  have hk2 : belowOps L.ops s ≤ oc := by omega
  have hk3 : ((belowOps L.ops s : Nat) : Int) ≤ (oc : Int) := by omega
  have hk4 : belowOps L.ops s ≤ rc := by omega
  have HS2 := Lib.hid (HJ.out _ HB2.out.drew)
  go_wp2_with fail
  refine wp_region_M [14] (S := (fun W : World => W.cell? ⟨lb, 0, none⟩ = some (.pointer (some ⟨bb, 0, none⟩)) ∧ W.cell? ⟨lb, 1, none⟩ = some (.pointer (some ⟨gb, 0, none⟩)) ∧ W.cell? ⟨lb, 2, none⟩ = some (.int .i64 L.floor.t) ∧ W.cell? ⟨lb, 3, none⟩ = some (.int .i64 L.floor.r) ∧ W.cell? ⟨lb, 4, none⟩ = some (.slice oa L.ops.length oc) ∧ W.cell? ⟨lb, 5, none⟩ = some (.slice ra L.ops.length rc) ∧ W.cell? ⟨w.heap.size, 0, none⟩ = some (.int .i64 s.t) ∧ W.cell? ⟨w.heap.size, 1, none⟩ = some (.int .i64 s.r))) (by kernel_rfl) ?_
  refine wpAnyM_take (i := 0) (v := ?va0) rfl (by kernel_rfl) (by kernel_rfl) (by decide) (by kernel_rfl) (by kernel_rfl) (by kernel_rfl) (fun _ _ _ h => h) (Or.inl ⟨by rfl, ?ha0⟩) HS2.out ?ra0
  case ha0 => intro W hSW; obtain ⟨_, _, _, _, _, _, _, _⟩ := hSW; go_simp; first | done | with_reducible rfl
  try simp only [Act.put, List.setIfInBounds_toArray, List.set_cons_zero, List.set_cons_succ]
  refine wpAnyM_take (i := 1) (v := ?va1) rfl (by kernel_rfl) (by kernel_rfl) (by decide) (by kernel_rfl) (by kernel_rfl) (by kernel_rfl) (fun _ _ _ h => h) (Or.inl ⟨by rfl, ?ha1⟩) HS2.out ?ra1
  case ha1 => intro W hSW; obtain ⟨_, _, _, _, _, _, _, _⟩ := hSW; go_simp; first | done | with_reducible rfl
  try simp only [Act.put, List.setIfInBounds_toArray, List.set_cons_zero, List.set_cons_succ]
  refine wpAnyM_take (i := 2) (v := ?va2) rfl (by kernel_rfl) (by kernel_rfl) (by decide) (by kernel_rfl) (by kernel_rfl) (by kernel_rfl) (fun _ _ _ h => h) (Or.inl ⟨by rfl, ?ha2⟩) HS2.out ?ra2
  case ha2 => intro W hSW; obtain ⟨_, _, _, _, _, _, _, _⟩ := hSW; go_simp; first | done | with_reducible rfl
  try simp only [Act.put, List.setIfInBounds_toArray, List.set_cons_zero, List.set_cons_succ]
  refine wpAnyM_take (i := 3) (v := ?va3) rfl (by kernel_rfl) (by kernel_rfl) (by decide) (by kernel_rfl) (by kernel_rfl) (by kernel_rfl) (fun _ _ _ h => h) (Or.inl ⟨by rfl, ?ha3⟩) HS2.out ?ra3
  case ha3 => intro W hSW; obtain ⟨_, _, _, _, _, _, _, _⟩ := hSW; go_simp; first | done | with_reducible rfl
  try simp only [Act.put, List.setIfInBounds_toArray, List.set_cons_zero, List.set_cons_succ]
  refine wpAnyM_take (i := 4) (v := ?va4) rfl (by kernel_rfl) (by kernel_rfl) (by decide) (by kernel_rfl) (by kernel_rfl) (by kernel_rfl) (fun _ _ _ h => h) (Or.inl ⟨by rfl, ?ha4⟩) HS2.out ?ra4
  case ha4 => intro W hSW; obtain ⟨_, _, _, _, _, _, _, _⟩ := hSW; go_simp; first | done | with_reducible rfl
  try simp only [Act.put, List.setIfInBounds_toArray, List.set_cons_zero, List.set_cons_succ]
  refine wpAnyM_take (i := 5) (v := ?va5) rfl (by kernel_rfl) (by kernel_rfl) (by decide) (by kernel_rfl) (by kernel_rfl) (by kernel_rfl) (fun _ _ _ h => h) (Or.inl ⟨by rfl, ?ha5⟩) HS2.out ?ra5
  case ha5 => intro W hSW; obtain ⟨_, _, _, _, _, _, _, _⟩ := hSW; go_simp; first | done | with_reducible rfl
  try simp only [Act.put, List.setIfInBounds_toArray, List.set_cons_zero, List.set_cons_succ]
  refine wpAnyM_take (i := 6) (v := ?va6) rfl (by kernel_rfl) (by kernel_rfl) (by decide) (by kernel_rfl) (by kernel_rfl) (by kernel_rfl) (fun _ _ _ h => h) (Or.inl ⟨by rfl, ?ha6⟩) HS2.out ?ra6
  case ha6 => intro W hSW; obtain ⟨_, _, _, _, _, _, _, _⟩ := hSW; go_simp; first | done | with_reducible rfl
  try simp only [Act.put, List.setIfInBounds_toArray, List.set_cons_zero, List.set_cons_succ]
  refine wpAnyM_take (i := 7) (v := ?va7) rfl (by kernel_rfl) (by kernel_rfl) (by decide) (by kernel_rfl) (by kernel_rfl) (by kernel_rfl) (fun _ _ _ h => h) (Or.inl ⟨by rfl, ?ha7⟩) HS2.out ?ra7
  case ha7 => intro W hSW; obtain ⟨_, _, _, _, _, _, _, _⟩ := hSW; go_simp; first | done | with_reducible rfl
  try simp only [Act.put, List.setIfInBounds_toArray, List.set_cons_zero, List.set_cons_succ]
  refine wpAnyM_take (i := 8) (v := ?va8) rfl (by kernel_rfl) (by kernel_rfl) (by decide) (by kernel_rfl) (by kernel_rfl) (by kernel_rfl) (fun _ _ _ h => h) (Or.inl ⟨by rfl, ?ha8⟩) HS2.out ?ra8
  case ha8 => intro W hSW; obtain ⟨_, _, _, _, _, _, _, _⟩ := hSW; go_simp; first | done | with_reducible rfl
  try simp only [Act.put, List.setIfInBounds_toArray, List.set_cons_zero, List.set_cons_succ]
  refine wpAnyM_take (i := 9) (v := ?va9) rfl (by kernel_rfl) (by kernel_rfl) (by decide) (by kernel_rfl) (by kernel_rfl) (by kernel_rfl) (fun _ _ _ h => h) (Or.inl ⟨by rfl, ?ha9⟩) HS2.out ?ra9
  case ha9 => intro W hSW; obtain ⟨_, _, _, _, _, _, _, _⟩ := hSW; go_simp; first | done | with_reducible rfl
  try simp only [Act.put, List.setIfInBounds_toArray, List.set_cons_zero, List.set_cons_succ]
  refine wpAnyM_take (i := 10) (v := ?va10) rfl (by kernel_rfl) (by kernel_rfl) (by decide) (by kernel_rfl) (by kernel_rfl) (by kernel_rfl) (fun _ _ _ h => h) (Or.inl ⟨by rfl, ?ha10⟩) HS2.out ?ra10
  case ha10 => intro W hSW; obtain ⟨_, _, _, _, _, _, _, _⟩ := hSW; go_simp; first | done | with_reducible rfl
  try simp only [Act.put, List.setIfInBounds_toArray, List.set_cons_zero, List.set_cons_succ]
  refine wpAnyM_one (i := 11) (by kernel_rfl) rfl rfl ?_
  go_simp
  refine Calls.mono (HON.out _ (by exact HB2.out.drew)) ?_
  rintro e w3 ⟨g2, i2, e2, rfl, hg3, hge3, hb3⟩
  have HG3 := Lib.hid hg3
  have HGE3 := Lib.hid hge3
  have HB3 := Lib.hid hb3
  have hbx3 : w3.heap[lb]? = some (.cells #[.pointer (some ⟨bb, 0, none⟩), .pointer (some ⟨gb, 0, none⟩), .int .i64 L.floor.t, .int .i64 L.floor.r, .slice oa L.ops.length oc, .slice ra L.ops.length rc] 132 (0, 0)) := (hb3.block lb (by have := HLG.out.lt.1; have := HBW.out.2; omega)).trans ((HBW.out.1.block lb HLG.out.lt.1).trans HPT.out)
  have f0 := frozen_at hbx3 0
  clear hg3 hge3 hb3
  refine ⟨HJ.out _ HB3.out, ?_⟩
  try simp only [Act.put, List.setIfInBounds_toArray, List.set_cons_zero, List.set_cons_succ]
  refine wpAnyM_one (i := 12) (by kernel_rfl) rfl rfl ?_
  go_simp
  refine ⟨HJ.out _ HB3.out, ?_⟩
  try simp only [Act.put, List.setIfInBounds_toArray, List.set_cons_zero, List.set_cons_succ]
  refine wpAnyM_one (i := 13) (by kernel_rfl) rfl rfl ?_
  go_simp
  refine ⟨HJ.out _ HB3.out, ?_⟩
  try simp only [Act.put, List.setIfInBounds_toArray, List.set_cons_zero, List.set_cons_succ]
  obtain ⟨c0, _, _, _, _, _, _, _⟩ := HJ.out _ HB3.out
  refine wpAnyM_late (i := 14) (by kernel_rfl) rfl rfl (by kernel_rfl) ?_
  go_simp
  try simp only [Act.put, List.setIfInBounds_toArray, List.set_cons_zero, List.set_cons_succ]
  refine wpAnyM_done (by kernel_rfl) ?_ _
  obtain ⟨W4, hW4⟩ : ∃ W4, W4 = w3.setCell ⟨lb, 0, none⟩ (.pointer (some ⟨g2, 0, none⟩)) := ⟨_, rfl⟩
  rw [← hW4]
  have hlw : w.heap.size ≠ lb := by have := HLG.out.lt.1; omega
  have hbx5 : W4.heap[lb]? = some (.cells #[.pointer (some ⟨g2, 0, none⟩), .pointer (some ⟨gb, 0, none⟩), .int .i64 L.floor.t, .int .i64 L.floor.r, .slice oa L.ops.length oc, .slice ra L.ops.length rc] 132 (0, 0)) := by rw [hW4]; exact heap_setCell_at hbx3 0 _
  have hsx5 : W4.heap[w.heap.size]? = some (.cells #[.int .i64 s.t, .int .i64 s.r] 31) := by rw [hW4]; exact (Below.heap_setCell _ _ _ _ hlw).trans ((HB3.out.block _ (by have := HBW.out.2; omega)).trans HSX.out)
  have HX4 : Hid (But3 lb lb lb w W4) := Lib.hid (by rw [hW4]; exact (But3.of_below (HBW.out.1.trans (HB3.out.mono (by have := HBW.out.2; omega)))).setCell 0 _)
  have HG4 : Hid (GrAt W4 g2 i2 e2 (onOps L.base (L.ops.take (belowOps L.ops s)))) := Lib.hid (by
    have h1 := HLG.out.lt.1
    have h2 := HGE3.out
    rw [hW4]
    exact HG3.out.kept (Below.heap_setCell _ _ _ _ (by show g2 ≠ lb; omega)) (Below.heap_setCell _ _ _ _ (by show i2 ≠ lb; omega)) (Below.heap_setCell _ _ _ _ (by show e2 ≠ lb; omega)))
  have HJ5 : Hid (∀ W, Below W4.heap.size W4 W → (fun W : World => W.cell? ⟨lb, 0, none⟩ = some (.pointer (some ⟨g2, 0, none⟩)) ∧ W.cell? ⟨lb, 1, none⟩ = some (.pointer (some ⟨gb, 0, none⟩)) ∧ W.cell? ⟨lb, 2, none⟩ = some (.int .i64 L.floor.t) ∧ W.cell? ⟨lb, 3, none⟩ = some (.int .i64 L.floor.r) ∧ W.cell? ⟨lb, 4, none⟩ = some (.slice oa L.ops.length oc) ∧ W.cell? ⟨lb, 5, none⟩ = some (.slice ra L.ops.length rc) ∧ W.cell? ⟨w.heap.size, 0, none⟩ = some (.int .i64 s.t) ∧ W.cell? ⟨w.heap.size, 1, none⟩ = some (.int .i64 s.r)) W) := Lib.hid fun W hW => by
    have hb : W.heap[lb]? = _ := (hW.block lb (Array.getElem?_eq_some_iff.1 hbx5).1).trans hbx5
    have hs : W.heap[w.heap.size]? = some (.cells #[.int .i64 s.t, .int .i64 s.r] 31) := (hW.block _ (Array.getElem?_eq_some_iff.1 hsx5).1).trans hsx5
    obtain ⟨c0, c1, c2, c3, c4, c5⟩ := log_cells hb
    exact ⟨c0, c1, c2, c3, c4, c5, cell_at hs 0 _ rfl, cell_at hs 1 _ rfl⟩
  have HB45 : Hid (Below W4.heap.size W4 W4.drew) := Lib.hid (Below.refl _ _).drew
  have HS5 := Lib.hid (HJ5.out _ HB45.out)
  clear hW4 hbx3 f0 c0
  obtain ⟨va, hva⟩ : ∃ va, (if oc = belowOps L.ops s then oa else Option.map (fun x => x.add ((belowOps L.ops s) * 13)) oa) = va := ⟨_, rfl⟩
  obtain ⟨vb, hvb⟩ : ∃ vb, (if rc = belowOps L.ops s then ra else Option.map (fun x => x.add ((belowOps L.ops s) * 5)) ra) = vb := ⟨_, rfl⟩
  go_wp2_with fail
  refine wp_region_M [18, 19, 20, 21] (S := (fun W : World => W.cell? ⟨lb, 0, none⟩ = some (.pointer (some ⟨g2, 0, none⟩)) ∧ W.cell? ⟨lb, 1, none⟩ = some (.pointer (some ⟨gb, 0, none⟩)) ∧ W.cell? ⟨lb, 2, none⟩ = some (.int .i64 L.floor.t) ∧ W.cell? ⟨lb, 3, none⟩ = some (.int .i64 L.floor.r) ∧ W.cell? ⟨lb, 4, none⟩ = some (.slice oa L.ops.length oc) ∧ W.cell? ⟨lb, 5, none⟩ = some (.slice ra L.ops.length rc) ∧ W.cell? ⟨w.heap.size, 0, none⟩ = some (.int .i64 s.t) ∧ W.cell? ⟨w.heap.size, 1, none⟩ = some (.int .i64 s.r))) (by kernel_rfl) ?_
  refine wpAnyM_take (i := 0) (v := ?vb0) rfl (by kernel_rfl) (by kernel_rfl) (by decide) (by kernel_rfl) (by kernel_rfl) (by kernel_rfl) (fun _ _ _ h => h) (Or.inl ⟨by rfl, ?hb0⟩) HS5.out ?rb0
  case hb0 => intro W hSW; obtain ⟨_, _, _, _, _, _, _, _⟩ := hSW; go_simp; first | done | with_reducible rfl
  try simp only [Act.put, List.setIfInBounds_toArray, List.set_cons_zero, List.set_cons_succ]
  refine wpAnyM_takeF (i := 1) (v := ?vb1) rfl (by kernel_rfl) (by decide) (by kernel_rfl) (by kernel_rfl) (fun _ _ _ h => h) (Or.inl ⟨by rfl, ?hb1⟩) HS5.out ?rb1
  case hb1 => intro W _; go_simp; first | done | with_reducible rfl
  try simp only [Act.put, List.setIfInBounds_toArray, List.set_cons_zero, List.set_cons_succ]
  refine wpAnyM_take (i := 2) (v := ?vb2) rfl (by kernel_rfl) (by kernel_rfl) (by decide) (by kernel_rfl) (by kernel_rfl) (by kernel_rfl) (fun _ _ _ h => h) (Or.inl ⟨by rfl, ?hb2⟩) HS5.out ?rb2
  case hb2 => intro W hSW; obtain ⟨_, _, _, _, _, _, _, _⟩ := hSW; go_simp; first | done | with_reducible rfl
  try simp only [Act.put, List.setIfInBounds_toArray, List.set_cons_zero, List.set_cons_succ]
  refine wpAnyM_take (i := 3) (v := ?vb3) rfl (by kernel_rfl) (by kernel_rfl) (by decide) (by kernel_rfl) (by kernel_rfl) (by kernel_rfl) (fun _ _ _ h => h) (Or.inl ⟨by rfl, ?hb3⟩) HS5.out ?rb3
  case hb3 => intro W hSW; obtain ⟨_, _, _, _, _, _, _, _⟩ := hSW; go_simp; first | done | with_reducible rfl
  try simp only [Act.put, List.setIfInBounds_toArray, List.set_cons_zero, List.set_cons_succ]
  refine wpAnyM_take (i := 4) (v := ?vb4) rfl (by kernel_rfl) (by kernel_rfl) (by decide) (by kernel_rfl) (by kernel_rfl) (by kernel_rfl) (fun _ _ _ h => h) (Or.inl ⟨by rfl, ?hb4⟩) HS5.out ?rb4
  case hb4 => intro W hSW; obtain ⟨_, _, _, _, _, _, _, _⟩ := hSW; go_simp; first | done | with_reducible rfl
  try simp only [Act.put, List.setIfInBounds_toArray, List.set_cons_zero, List.set_cons_succ]
  refine wpAnyM_take (i := 5) (v := ?vb5) rfl (by kernel_rfl) (by kernel_rfl) (by decide) (by kernel_rfl) (by kernel_rfl) (by kernel_rfl) (fun _ _ _ h => h) (Or.inl ⟨by rfl, ?hb5⟩) HS5.out ?rb5
  case hb5 => intro W hSW; obtain ⟨_, _, _, _, _, _, _, _⟩ := hSW; go_simp; first | done | with_reducible rfl
  try simp only [Act.put, List.setIfInBounds_toArray, List.set_cons_zero, List.set_cons_succ]
  refine wpAnyM_take (i := 6) (v := ?vb6) rfl (by kernel_rfl) (by kernel_rfl) (by decide) (by kernel_rfl) (by kernel_rfl) (by kernel_rfl) (fun _ _ _ h => h) (Or.inl ⟨by rfl, ?hb6⟩) HS5.out ?rb6
  case hb6 => intro W hSW; obtain ⟨_, _, _, _, _, _, _, _⟩ := hSW; go_simp; first | done | with_reducible rfl
  try simp only [Act.put, List.setIfInBounds_toArray, List.set_cons_zero, List.set_cons_succ]
  refine wpAnyM_take (i := 7) (v := ?vb7) rfl (by kernel_rfl) (by kernel_rfl) (by decide) (by kernel_rfl) (by kernel_rfl) (by kernel_rfl) (fun _ _ _ h => h) (Or.inl ⟨by rfl, ?hb7⟩) HS5.out ?rb7
  case hb7 => intro W hSW; obtain ⟨_, _, _, _, _, _, _, _⟩ := hSW; go_simp; first | done | with_reducible rfl
  try simp only [Act.put, List.setIfInBounds_toArray, List.set_cons_zero, List.set_cons_succ]
  refine wpAnyM_takeF (i := 9) (v := ?vb9) rfl (by kernel_rfl) (by decide) (by kernel_rfl) (by kernel_rfl) (fun _ _ _ h => h) (Or.inl ⟨by rfl, ?hb9⟩) HS5.out ?rb9
  case hb9 => intro W _; go_simp; first | done | with_reducible rfl
  try simp only [Act.put, List.setIfInBounds_toArray, List.set_cons_zero, List.set_cons_succ]
  refine wpAnyM_takeF (i := 10) (v := ?vb10) rfl (by kernel_rfl) (by decide) (by kernel_rfl) (by kernel_rfl) (fun _ _ _ h => h) (Or.inl ⟨by rfl, ?hb10⟩) HS5.out ?rb10
  case hb10 => intro W _; go_simp; first | done | with_reducible rfl
  try simp only [Act.put, List.setIfInBounds_toArray, List.set_cons_zero, List.set_cons_succ]
  refine wpAnyM_takeF (i := 11) (v := ?vb11) rfl (by kernel_rfl) (by decide) (by kernel_rfl) (by kernel_rfl) (fun _ _ _ h => h) (Or.inl ⟨by rfl, ?hb11⟩) HS5.out ?rb11
  case hb11 => intro W _; go_simp; first | done | with_reducible rfl
  try simp only [Act.put, List.setIfInBounds_toArray, List.set_cons_zero, List.set_cons_succ]
  refine wpAnyM_take (i := 12) (v := ?vb12) rfl (by kernel_rfl) (by kernel_rfl) (by decide) (by kernel_rfl) (by kernel_rfl) (by kernel_rfl) (fun _ _ _ h => h) (Or.inl ⟨by rfl, ?hb12⟩) HS5.out ?rb12
  case hb12 => intro W hSW; obtain ⟨_, _, _, _, _, _, _, _⟩ := hSW; go_simp; first | done | with_reducible rfl
  try simp only [Act.put, List.setIfInBounds_toArray, List.set_cons_zero, List.set_cons_succ]
  refine wpAnyM_takeF (i := 13) (v := ?vb13) rfl (by kernel_rfl) (by decide) (by kernel_rfl) (by kernel_rfl) (fun _ _ _ h => h) (Or.inl ⟨by rfl, ?hb13⟩) HS5.out ?rb13
  case hb13 => intro W _; go_simp; first | done | with_reducible rfl
  try simp only [Act.put, List.setIfInBounds_toArray, List.set_cons_zero, List.set_cons_succ]
  refine wpAnyM_takeF (i := 14) (v := ?vb14) rfl (by kernel_rfl) (by decide) (by kernel_rfl) (by kernel_rfl) (fun _ _ _ h => h) (Or.inl ⟨by rfl, ?hb14⟩) HS5.out ?rb14
  case hb14 => intro W _; go_simp; first | done | with_reducible rfl
  try simp only [Act.put, List.setIfInBounds_toArray, List.set_cons_zero, List.set_cons_succ]
  refine wpAnyM_one (i := 8) (by kernel_rfl) rfl rfl ?_
  go_simp
  refine Calls.mono (HC1.out _ va (HX4.out.trans (But3.of_below HB45.out)) hva) ?_
  rintro e w5 ⟨v5, rfl, hr5, hb5⟩
  have HR5 := Lib.hid hr5
  have HB5 : Hid (Below W4.heap.size W4 w5) := Lib.hid (HB45.out.trans (hb5.mono HB45.out.size))
  obtain ⟨s5, t5, rfl⟩ := hr5.shape
  clear hr5 hb5
  refine ⟨HJ5.out _ HB5.out, ?_⟩
  try simp only [Act.put, List.setIfInBounds_toArray, List.set_cons_zero, List.set_cons_succ]
  refine wpAnyM_one (i := 15) (by kernel_rfl) rfl rfl ?_
  go_simp
  refine Calls.mono (HC2.out _ vb (HX4.out.trans (But3.of_below HB5.out)) hvb) ?_
  rintro e w6 ⟨v6, rfl, hr6, hb6⟩
  have HR6 := Lib.hid hr6
  have HB6 := Lib.hid hb6
  have HB46 : Hid (Below W4.heap.size W4 w6) := Lib.hid (HB5.out.trans (hb6.mono HB5.out.size))
  obtain ⟨s6, t6, rfl⟩ := row_len5 hr6
  clear hr6 hb6
  refine ⟨HJ5.out _ HB46.out, ?_⟩
  try simp only [Act.put, List.setIfInBounds_toArray, List.set_cons_zero, List.set_cons_succ]
  refine wpAnyM_one (i := 16) (by kernel_rfl) rfl rfl ?_
  go_simp
  refine ⟨HJ5.out _ HB46.out, ?_⟩
  try simp only [Act.put, List.setIfInBounds_toArray, List.set_cons_zero, List.set_cons_succ]
  refine wpAnyM_one (i := 17) (by kernel_rfl) rfl rfl ?_
  go_simp
  refine ⟨HJ5.out _ HB46.out, ?_⟩
  try simp only [Act.put, List.setIfInBounds_toArray, List.set_cons_zero, List.set_cons_succ]
  have hbx6 : w6.heap[lb]? = some (.cells #[.pointer (some ⟨g2, 0, none⟩), .pointer (some ⟨gb, 0, none⟩), .int .i64 L.floor.t, .int .i64 L.floor.r, .slice oa L.ops.length oc, .slice ra L.ops.length rc] 132 (0, 0)) := (HB46.out.block lb (Array.getElem?_eq_some_iff.1 hbx5).1).trans hbx5
  have hbx6a : (w6.setCell ⟨lb, 4, none⟩ (.slice s5 (L.ops.length - belowOps L.ops s) t5)).heap[lb]? = some (.cells #[.pointer (some ⟨g2, 0, none⟩), .pointer (some ⟨gb, 0, none⟩), .int .i64 L.floor.t, .int .i64 L.floor.r, .slice s5 (L.ops.length - belowOps L.ops s) t5, .slice ra L.ops.length rc] 132 (0, 0)) := heap_setCell_at hbx6 4 _
  have f4 := frozen_at hbx6 4
  have f5 := frozen_at hbx6a 5
  have d4 := cell_at hbx6 4 _ rfl
  have d5 := cell_at hbx6a 5 _ rfl
  refine wpAnyM_late (i := 18) (by kernel_rfl) rfl rfl (by kernel_rfl) ?_
  go_simp
  try simp only [Act.put, List.setIfInBounds_toArray, List.set_cons_zero, List.set_cons_succ]
  refine wpAnyM_late (i := 19) (by kernel_rfl) rfl rfl (by kernel_rfl) ?_
  go_simp
  try simp only [Act.put, List.setIfInBounds_toArray, List.set_cons_zero, List.set_cons_succ]
  refine wpAnyM_late (i := 20) (by kernel_rfl) rfl rfl (by kernel_rfl) ?_
  go_simp
  try simp only [Act.put, List.setIfInBounds_toArray, List.set_cons_zero, List.set_cons_succ]
  refine wpAnyM_late (i := 21) (by kernel_rfl) rfl rfl (by kernel_rfl) ?_
  go_simp
  try simp only [Act.put, List.setIfInBounds_toArray, List.set_cons_zero, List.set_cons_succ]
  refine wpAnyM_done (by kernel_rfl) ?_ _
  obtain ⟨W7, hW7⟩ : ∃ W7, W7 = (w6.setCell ⟨lb, 4, none⟩ (.slice s5 (L.ops.length - belowOps L.ops s) t5)).setCell ⟨lb, 5, none⟩ (.slice s6 (rs.length - belowOps L.ops s) t6) := ⟨_, rfl⟩
  rw [← hW7]
  have hbx7 : W7.heap[lb]? = some (.cells #[.pointer (some ⟨g2, 0, none⟩), .pointer (some ⟨gb, 0, none⟩), .int .i64 L.floor.t, .int .i64 L.floor.r, .slice s5 (L.ops.length - belowOps L.ops s) t5, .slice s6 (rs.length - belowOps L.ops s) t6] 132 (0, 0)) := by rw [hW7]; exact heap_setCell_at hbx6a 5 _
  have hk7 : ∀ k, k ≠ lb → W7.heap[k]? = w6.heap[k]? := fun k hk => by rw [hW7]; exact (Below.heap_setCell _ _ _ _ hk).trans (Below.heap_setCell _ _ _ _ hk)
  have hz7 : W7.heap.size = w6.heap.size := by rw [hW7]; simp only [size_setCell']
  have hsx7 : W7.heap[w.heap.size]? = some (.cells #[.int .i64 s.t, .int .i64 s.r] 31) := (hk7 _ hlw).trans ((HB46.out.block _ (Array.getElem?_eq_some_iff.1 hsx5).1).trans hsx5)
  have HX7 : Hid (But3 lb lb lb w W7) := Lib.hid (by rw [hW7]; exact ((HX4.out.trans (But3.of_below HB46.out)).setCell 4 _).setCell 5 _)
  have HK7 := Lib.hid hk7
  have HZ7 := Lib.hid hz7
  have HBX7 := Lib.hid hbx7
  have a0 := cell_at hsx7 0 _ rfl
  have a1 := cell_at hsx7 1 _ rfl
  have b2 := cell_at hbx7 2 _ rfl
  have b3 := cell_at hbx7 3 _ rfl
  have g7a := frozen_at hbx7 2
  have g7b := frozen_at hbx7 3
  have g7c := frozen_at (heap_setCell_at hbx7 2 (.int .i64 s.t)) 3
  have b7c := cell_at (heap_setCell_at hbx7 2 (.int .i64 s.t)) 3 _ rfl
  clear hW7 hbx6 hbx6a f4 f5 d4 d5 hk7 hz7
  go_wp2
  go_ret
  have hk8 : ∀ k, k ≠ lb → ((W7.setCell ⟨lb, 2, none⟩ (.int .i64 s.t)).setCell ⟨lb, 3, none⟩ (.int .i64 s.r)).heap[k]? = w6.heap[k]? := fun k hk => ((Below.heap_setCell _ _ _ _ hk).trans (Below.heap_setCell _ _ _ _ hk)).trans (HK7.out k hk)
  have hl := HLG.out.lt.1
  have hg := HGE3.out
  have hr5 : OpsRow w.heap.size (.slice s5 (L.ops.length - belowOps L.ops s) t5) (L.ops.drop (belowOps L.ops s)) w6 := by
    have h := OpsRow.kept HR5.out HB6.out
    rw [List.length_drop] at h
    exact h
  have hr6 : w6.ownsRow w.heap.size 44 5 (.slice s6 (rs.length - belowOps L.ops s) t6) (rs.drop (belowOps L.ops s)).length ((rs.drop (belowOps L.ops s)).flatMap Raw.cells) := by
    have h := HR6.out
    rw [List.length_drop] at h ⊢
    exact h
  have hg6 := HG4.out.below HB46.out
  have hcp := compacted HLG.out HRC.out HCB.out ((HX7.out.setCell 2 _).setCell 3 _) (heap_setCell_at (heap_setCell_at HBX7.out 2 _) 3 _) (hg6.kept (hk8 _ (by omega)) (hk8 _ (by omega)) (hk8 _ (by omega))) hg
    (ownsRow_keep hr5 fun j hj _ => hk8 j (by omega)) (ownsRow_keep hr6 fun j hj _ => hk8 j (by omega))
  exact ⟨rfl, hcp.1, hcp.2, OpsIn.of_row (heap_setCell_at (heap_setCell_at HBX7.out 2 _) 3 _) hr5 (Nat.le_refl _)⟩

/-- how many operations a compaction takes -/
def Lg.compactN (L : Lg) (s : St) : Nat := if L.compactB s then belowOps L.ops s else 0
theorem compact_any2 (B lb gb mI mE : Nat) (L : Lg) (s : St) (w : World) (h : LogAt B w lb gb mI mE L) :
    Calls Tryz.prog 53 #[.pointer (some ⟨lb, 0, none⟩), s.v] w fun e w' => e = .returned (.int .i64 (L.compactN s)) ∧ LogAt B w' lb gb mI mE (L.compact s) ∧ But3 lb mI mE w w' ∧ ∀ K, OpsIn w lb K → (∀ g, w.heap.size ≤ g → K g) → OpsIn w' lb K := by
  have hno : L.compactB s = false → (L.compact s = L ∧ L.compactN s = 0) := fun hb => by unfold Lg.compact Lg.compactN; rw [hb]; exact ⟨rfl, rfl⟩
  cases hm : mayB s.t s.r with
  | false =>
    obtain ⟨e1, e2⟩ := hno (by unfold Lg.compactB; rw [show s.mayB = false from hm]; rfl)
    rw [e1, e2]
    exact (compact_may_not B lb gb mI mE L s w h hm).mono fun e w' ⟨h1, h2⟩ => ⟨h1, h.below h2, But3.of_below h2, fun K hK _ => hK.to (h2.cell (p := ⟨lb, 4, none⟩) h.lt.1) fun _ hg => hg⟩
  | true =>
    by_cases hc : ltSt L.floor s
    · have e2 : L.compactN s = belowOps L.ops s := by unfold Lg.compactN Lg.compactB; rw [show s.mayB = true from hm, decide_eq_true hc]; rfl
      rw [e2]
      exact (compact_yes B lb gb mI mE L s w h hm hc).mono fun e w' ⟨h1, h2, h3, h4⟩ => ⟨h1, h2, h3, fun K _ hK => h4.to rfl hK⟩
    · obtain ⟨e1, e2⟩ := hno (by unfold Lg.compactB; rw [decide_eq_false hc, Bool.and_false])
      rw [e1, e2]
      exact (compact_low B lb gb mI mE L s w h hm hc).mono fun e w' ⟨h1, h2⟩ => ⟨h1, h.below h2, But3.of_below h2, fun K hK _ => hK.to (h2.cell (p := ⟨lb, 4, none⟩) h.lt.1) fun _ hg => hg⟩
end Go.Proofs.YtlokljaeknmdpaaGreat

/-! ## DeedL -/
namespace Go.Proofs.YtlokljaeknmdpaaGreat
open Go.RowKit Go.Shelf Go.Proofs

structure DeedL where
  o : Op
  c : Bool
deriving Inhabited
def DeedL.cells (d : DeedL) : List Value := d.o.cells ++ [.bool d.c]
theorem cellsDL {w : World} {zs : List DeedL} {b off : Nat} (hc : ∀ j, j < zs.length → ∀ i u, (DeedL.cells zs[j]!)[i]? = some u → w.cell? ⟨b, off + j * 14 + i, none⟩ = some u) (j : Nat) (hj : j < zs.length) :
    (∀ i u, (zs[j]!).o.cells[i]? = some u → w.cell? ⟨b, off + j * 14 + i, none⟩ = some u) ∧ w.cell? ⟨b, off + j * 14 + 13, none⟩ = some (.bool (zs[j]!).c) := by
  refine ⟨fun i u hu => hc j hj i u ?_, hc j hj 13 _ rfl⟩
  unfold DeedL.cells
  rw [List.getElem?_append_left (List.getElem?_eq_some_iff.1 hu).1]
  exact hu
end Go.Proofs.YtlokljaeknmdpaaGreat
