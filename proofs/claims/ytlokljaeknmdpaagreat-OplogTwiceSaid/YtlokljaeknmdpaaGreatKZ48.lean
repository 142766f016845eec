/-
  (*oplog.Log).Copy, (*oplog.Log).Has; condition: the log is in order. · A log that is nil; no condition.
-/
import Derived.Test.YtlokljaeknmdpaaGreatKZ44
import Derived.Test.YtlokljaeknmdpaaGreatKZ46
/-! ## LogK -/
namespace Go.Proofs.YtlokljaeknmdpaaGreat
open Go.RowKit Go.Shelf Go.Proofs
open L12 (Raw Raw.cells infoRec)

set_option linter.unusedSimpArgs false

/-- a log whose graphs and rows lie from C on (the records' own rows: from B on) -/
def LogCp (C B : Nat) (w : World) (lb gb mI mE : Nat) (L : Lg) : Prop := (∃ bb bI bE vo vr rs, w.heap[lb]? = some (.cells #[.pointer (some ⟨bb, 0, none⟩), .pointer (some ⟨gb, 0, none⟩), .int .i64 L.floor.t, .int .i64 L.floor.r, vo, vr] 132 (0, 0)) ∧ GrAt w bb bI bE L.base ∧
    OpsRow C vo L.ops w ∧ w.ownsRow C 44 5 vr L.ops.length (rs.flatMap Raw.cells) ∧ RecsOf B L.base L.ops L.ops.length rs w ∧ (C ≤ bb ∧ C ≤ bI ∧ C ≤ bE) ∧ (bI ≠ mI ∧ bI ≠ mE ∧ bE ≠ mI ∧ bE ≠ mE)) ∧
  GrAt w gb mI mE L.g ∧ L.Ok ∧ (∀ o ∈ L.ops, o.Small) ∧ L.ops.length ≤ 500 ∧ (C ≤ lb ∧ C ≤ gb ∧ C ≤ mI ∧ C ≤ mE) ∧ B ≤ C
section
variable {B C : Nat} {w w' : World} {lb gb mI mE : Nat} {L : Lg}
theorem LogCp.at (h : LogCp C B w lb gb mI mE L) : LogAt B w lb gb mI mE L := by
  obtain ⟨⟨bb, bI, bE, vo, vr, rs, h1, h2, h3, h4, h5, h6, h7⟩, k1, k2, k3, k4, k5, k6⟩ := h
  exact ⟨⟨bb, bI, bE, vo, vr, rs, h1, h2, h3.mono k6, ownsRow_mono h4 k6, h5, by omega, h7⟩, k1, k2, k3, k4, by omega⟩
/-- what turns other blocks keeps it -/
theorem LogCp.but {a b c : Nat} (h : LogCp C B w lb gb mI mE L) (hb : But3 a b c w w') (hl : LogBlocks w a b c) (ha : a < C) (hb' : b < C) (hc : c < C) : LogCp C B w' lb gb mI mE L := by
  obtain ⟨⟨bb, bI, bE, vo, vr, rs, h1, h2, h3, h4, h5, h6, h7⟩, k1, k2, k3, k4, k5, k6⟩ := h
  have hlb := (Array.getElem?_eq_some_iff.1 h1).1
  have hk : ∀ j, C ≤ j → j < w.heap.size → w'.heap[j]? = w.heap[j]? := fun j hj hs => hb.block j hs (by omega) (by omega) (by omega)
  exact ⟨⟨bb, bI, bE, vo, vr, rs, (hk _ k5.1 hlb).trans h1, h2.kept (hk _ h6.1 h2.lt.1) (hk _ h6.2.1 h2.lt.2.1) (hk _ h6.2.2 h2.lt.2.2), ownsRow_keep h3 hk, ownsRow_keep h4 hk, h5.to fun _ _ _ _ _ hr => hb.recAt hl hr, h6, h7⟩,
    k1.kept (hk _ k5.2.1 k1.lt.1) (hk _ k5.2.2.1 k1.lt.2.1) (hk _ k5.2.2.2 k1.lt.2.2), k2, k3, k4, k5, k6⟩
theorem LogCp.below (h : LogCp C B w lb gb mI mE L) (hb : Below w.heap.size w w') : LogCp C B w' lb gb mI mE L := by
  obtain ⟨⟨bb, bI, bE, vo, vr, rs, h1, h2, h3, h4, h5, h6, h7⟩, k1, k2, k3, k4, k5, k6⟩ := h
  have hk : ∀ j, B ≤ j → j < w.heap.size → w'.heap[j]? = w.heap[j]? := fun j _ hs => hb.block j hs
  exact ⟨⟨bb, bI, bE, vo, vr, rs, (hb.block _ (Array.getElem?_eq_some_iff.1 h1).1).trans h1, h2.below hb, h3.kept hb, ownsRow_keep h4 fun j _ hs => hb.block j hs, h5.to fun _ _ _ _ _ hr => hr.kept hk, h6, h7⟩, k1.below hb, k2, k3, k4, k5, k6⟩
end

set_option maxRecDepth 100000 in
set_option maxHeartbeats 4000000 in
theorem copy_l (B lb gb mI mE : Nat) (L : Lg) (w : World) (h : LogAt B w lb gb mI mE L) :
    Calls Tryz.prog 55 #[.pointer (some ⟨lb, 0, none⟩)] w fun e w' => ∃ lb' gb' mI' mE', e = .returned (.pointer (some ⟨lb', 0, none⟩)) ∧ LogCp w.heap.size B w' lb' gb' mI' mE' L ∧ Below w.heap.size w w' := by
  obtain ⟨bb, bI, bE, vo, vr, rs, h1, h2, h3, h4, h5, h6, h7⟩ := h.parts
  obtain ⟨oa, oc, rfl⟩ := h3.shape
  obtain ⟨ra, rc, rfl⟩ := row_len5 h4
  have hrl : rs.length = L.ops.length := h5.1
  have HJ : Hid (∀ W, Below w.heap.size w W → (fun W : World => W.cell? ⟨lb, 0, none⟩ = some (.pointer (some ⟨bb, 0, none⟩)) ∧ W.cell? ⟨lb, 1, none⟩ = some (.pointer (some ⟨gb, 0, none⟩)) ∧ W.cell? ⟨lb, 2, none⟩ = some (.int .i64 L.floor.t) ∧ W.cell? ⟨lb, 3, none⟩ = some (.int .i64 L.floor.r) ∧ W.cell? ⟨lb, 4, none⟩ = some (.slice oa L.ops.length oc) ∧ W.cell? ⟨lb, 5, none⟩ = some (.slice ra L.ops.length rc)) W) := Lib.hid fun W hW => log_cells ((hW.block lb h.lt.1).trans h1)
  have HCB : Hid (∀ W, Below w.heap.size w W → Calls Tryz.prog 27 #[.pointer (some ⟨bb, 0, none⟩)] W (MadeGr W L.base)) := Lib.hid fun W hW => copy_g bb bI bE L.base W (h2.below hW)
  have HCG : Hid (∀ W, Below w.heap.size w W → Calls Tryz.prog 27 #[.pointer (some ⟨gb, 0, none⟩)] W (MadeGr W L.g)) := Lib.hid fun W hW => copy_g gb mI mE L.g W (h.g.below hW)
  have HCO : Hid (∀ W, Below w.heap.size w W → Calls Tryz.prog 97 #[.slice oa L.ops.length oc] W fun e w' => ∃ v', e = .returned v' ∧ OpsRow W.heap.size v' L.ops w' ∧ Below W.heap.size W w') := Lib.hid fun W hW => clone_any _ L.ops W (h3.sl.below hW) (by have := h.few; omega)
  have HCR : Hid (∀ W, Below w.heap.size w W → Calls Tryz.prog 100 #[.slice ra L.ops.length rc] W fun e w' => ∃ v', e = .returned v' ∧ w'.ownsRow W.heap.size 44 5 v' L.ops.length (rs.flatMap Raw.cells) ∧ Below W.heap.size W w') := Lib.hid fun W hW => by
    have := clone_rec _ rs W ((SlAt.of_row (enc := Raw.cells) (k := 5) (fun _ => rfl) (by rw [hrl]; exact h4)).below hW) (by have := h.few; omega) h5.one
    rw [hrl] at this
    exact this
  have HRC := Lib.hid h5
  have HOK := Lib.hid h.ok
  have HSM := Lib.hid h.small
  have HFW := Lib.hid h.few
  have HBS : Hid (B ≤ w.heap.size ∧ True) := Lib.hid ⟨by have := h.ge; have := h.lt; omega, trivial⟩
  have HB0 : Hid (Below w.heap.size w w.drew) := Lib.hid (Below.refl _ _).drew
  have HS0 := Lib.hid (HJ.out _ HB0.out)
  clear h h1 h2 h3 h4 h5 h6 h7 hrl
  go_enter Tryz.func55, Tryz.ntmps55
  go_wp2_with fail
  refine wp_region_M [] (S := (fun W : World => W.cell? ⟨lb, 0, none⟩ = some (.pointer (some ⟨bb, 0, none⟩)) ∧ W.cell? ⟨lb, 1, none⟩ = some (.pointer (some ⟨gb, 0, none⟩)) ∧ W.cell? ⟨lb, 2, none⟩ = some (.int .i64 L.floor.t) ∧ W.cell? ⟨lb, 3, none⟩ = some (.int .i64 L.floor.r) ∧ W.cell? ⟨lb, 4, none⟩ = some (.slice oa L.ops.length oc) ∧ W.cell? ⟨lb, 5, none⟩ = some (.slice ra L.ops.length rc))) (by kernel_rfl) ?_
  refine wpAnyM_take (i := 0) (v := ?vc0) rfl (by kernel_rfl) (by kernel_rfl) (by decide) (by kernel_rfl) (by kernel_rfl) (by kernel_rfl) (fun _ _ _ h => h) (Or.inl ⟨by rfl, ?hc0⟩) HS0.out ?rc0
  case hc0 => intro W hSW; obtain ⟨_, _, _, _, _, _⟩ := hSW; go_simp; first | done | with_reducible rfl
  try simp only [Act.put, List.setIfInBounds_toArray, List.set_cons_zero, List.set_cons_succ]
  refine wpAnyM_take (i := 1) (v := ?vc1) rfl (by kernel_rfl) (by kernel_rfl) (by decide) (by kernel_rfl) (by kernel_rfl) (by kernel_rfl) (fun _ _ _ h => h) (Or.inl ⟨by rfl, ?hc1⟩) HS0.out ?rc1
  case hc1 => intro W hSW; obtain ⟨_, _, _, _, _, _⟩ := hSW; go_simp; first | done | with_reducible rfl
  try simp only [Act.put, List.setIfInBounds_toArray, List.set_cons_zero, List.set_cons_succ]
  refine wpAnyM_take (i := 2) (v := ?vc2) rfl (by kernel_rfl) (by kernel_rfl) (by decide) (by kernel_rfl) (by kernel_rfl) (by kernel_rfl) (fun _ _ _ h => h) (Or.inl ⟨by rfl, ?hc2⟩) HS0.out ?rc2
  case hc2 => intro W hSW; obtain ⟨_, _, _, _, _, _⟩ := hSW; go_simp; first | done | with_reducible rfl
  try simp only [Act.put, List.setIfInBounds_toArray, List.set_cons_zero, List.set_cons_succ]
  refine wpAnyM_take (i := 3) (v := ?vc3) rfl (by kernel_rfl) (by kernel_rfl) (by decide) (by kernel_rfl) (by kernel_rfl) (by kernel_rfl) (fun _ _ _ h => h) (Or.inl ⟨by rfl, ?hc3⟩) HS0.out ?rc3
  case hc3 => intro W hSW; obtain ⟨_, _, _, _, _, _⟩ := hSW; go_simp; first | done | with_reducible rfl
  try simp only [Act.put, List.setIfInBounds_toArray, List.set_cons_zero, List.set_cons_succ]
  refine wpAnyM_take (i := 5) (v := ?vc5) rfl (by kernel_rfl) (by kernel_rfl) (by decide) (by kernel_rfl) (by kernel_rfl) (by kernel_rfl) (fun _ _ _ h => h) (Or.inl ⟨by rfl, ?hc5⟩) HS0.out ?rc5
  case hc5 => intro W hSW; obtain ⟨_, _, _, _, _, _⟩ := hSW; go_simp; first | done | with_reducible rfl
  try simp only [Act.put, List.setIfInBounds_toArray, List.set_cons_zero, List.set_cons_succ]
  refine wpAnyM_take (i := 6) (v := ?vc6) rfl (by kernel_rfl) (by kernel_rfl) (by decide) (by kernel_rfl) (by kernel_rfl) (by kernel_rfl) (fun _ _ _ h => h) (Or.inl ⟨by rfl, ?hc6⟩) HS0.out ?rc6
  case hc6 => intro W hSW; obtain ⟨_, _, _, _, _, _⟩ := hSW; go_simp; first | done | with_reducible rfl
  try simp only [Act.put, List.setIfInBounds_toArray, List.set_cons_zero, List.set_cons_succ]
  refine wpAnyM_take (i := 7) (v := ?vc7) rfl (by kernel_rfl) (by kernel_rfl) (by decide) (by kernel_rfl) (by kernel_rfl) (by kernel_rfl) (fun _ _ _ h => h) (Or.inl ⟨by rfl, ?hc7⟩) HS0.out ?rc7
  case hc7 => intro W hSW; obtain ⟨_, _, _, _, _, _⟩ := hSW; go_simp; first | done | with_reducible rfl
  try simp only [Act.put, List.setIfInBounds_toArray, List.set_cons_zero, List.set_cons_succ]
  refine wpAnyM_take (i := 8) (v := ?vc8) rfl (by kernel_rfl) (by kernel_rfl) (by decide) (by kernel_rfl) (by kernel_rfl) (by kernel_rfl) (fun _ _ _ h => h) (Or.inl ⟨by rfl, ?hc8⟩) HS0.out ?rc8
  case hc8 => intro W hSW; obtain ⟨_, _, _, _, _, _⟩ := hSW; go_simp; first | done | with_reducible rfl
  try simp only [Act.put, List.setIfInBounds_toArray, List.set_cons_zero, List.set_cons_succ]
  refine wpAnyM_take (i := 10) (v := ?vc10) rfl (by kernel_rfl) (by kernel_rfl) (by decide) (by kernel_rfl) (by kernel_rfl) (by kernel_rfl) (fun _ _ _ h => h) (Or.inl ⟨by rfl, ?hc10⟩) HS0.out ?rc10
  case hc10 => intro W hSW; obtain ⟨_, _, _, _, _, _⟩ := hSW; go_simp; first | done | with_reducible rfl
  try simp only [Act.put, List.setIfInBounds_toArray, List.set_cons_zero, List.set_cons_succ]
  refine wpAnyM_take (i := 11) (v := ?vc11) rfl (by kernel_rfl) (by kernel_rfl) (by decide) (by kernel_rfl) (by kernel_rfl) (by kernel_rfl) (fun _ _ _ h => h) (Or.inl ⟨by rfl, ?hc11⟩) HS0.out ?rc11
  case hc11 => intro W hSW; obtain ⟨_, _, _, _, _, _⟩ := hSW; go_simp; first | done | with_reducible rfl
  try simp only [Act.put, List.setIfInBounds_toArray, List.set_cons_zero, List.set_cons_succ]
  refine wpAnyM_take (i := 12) (v := ?vc12) rfl (by kernel_rfl) (by kernel_rfl) (by decide) (by kernel_rfl) (by kernel_rfl) (by kernel_rfl) (fun _ _ _ h => h) (Or.inl ⟨by rfl, ?hc12⟩) HS0.out ?rc12
  case hc12 => intro W hSW; obtain ⟨_, _, _, _, _, _⟩ := hSW; go_simp; first | done | with_reducible rfl
  try simp only [Act.put, List.setIfInBounds_toArray, List.set_cons_zero, List.set_cons_succ]
  refine wpAnyM_take (i := 13) (v := ?vc13) rfl (by kernel_rfl) (by kernel_rfl) (by decide) (by kernel_rfl) (by kernel_rfl) (by kernel_rfl) (fun _ _ _ h => h) (Or.inl ⟨by rfl, ?hc13⟩) HS0.out ?rc13
  case hc13 => intro W hSW; obtain ⟨_, _, _, _, _, _⟩ := hSW; go_simp; first | done | with_reducible rfl
  try simp only [Act.put, List.setIfInBounds_toArray, List.set_cons_zero, List.set_cons_succ]
  refine wpAnyM_take (i := 14) (v := ?vc14) rfl (by kernel_rfl) (by kernel_rfl) (by decide) (by kernel_rfl) (by kernel_rfl) (by kernel_rfl) (fun _ _ _ h => h) (Or.inl ⟨by rfl, ?hc14⟩) HS0.out ?rc14
  case hc14 => intro W hSW; obtain ⟨_, _, _, _, _, _⟩ := hSW; go_simp; first | done | with_reducible rfl
  try simp only [Act.put, List.setIfInBounds_toArray, List.set_cons_zero, List.set_cons_succ]
  refine wpAnyM_take (i := 15) (v := ?vc15) rfl (by kernel_rfl) (by kernel_rfl) (by decide) (by kernel_rfl) (by kernel_rfl) (by kernel_rfl) (fun _ _ _ h => h) (Or.inl ⟨by rfl, ?hc15⟩) HS0.out ?rc15
  case hc15 => intro W hSW; obtain ⟨_, _, _, _, _, _⟩ := hSW; go_simp; first | done | with_reducible rfl
  try simp only [Act.put, List.setIfInBounds_toArray, List.set_cons_zero, List.set_cons_succ]
  refine wpAnyM_take (i := 16) (v := ?vc16) rfl (by kernel_rfl) (by kernel_rfl) (by decide) (by kernel_rfl) (by kernel_rfl) (by kernel_rfl) (fun _ _ _ h => h) (Or.inl ⟨by rfl, ?hc16⟩) HS0.out ?rc16
  case hc16 => intro W hSW; obtain ⟨_, _, _, _, _, _⟩ := hSW; go_simp; first | done | with_reducible rfl
  try simp only [Act.put, List.setIfInBounds_toArray, List.set_cons_zero, List.set_cons_succ]
  refine wpAnyM_take (i := 17) (v := ?vc17) rfl (by kernel_rfl) (by kernel_rfl) (by decide) (by kernel_rfl) (by kernel_rfl) (by kernel_rfl) (fun _ _ _ h => h) (Or.inl ⟨by rfl, ?hc17⟩) HS0.out ?rc17
  case hc17 => intro W hSW; obtain ⟨_, _, _, _, _, _⟩ := hSW; go_simp; first | done | with_reducible rfl
  try simp only [Act.put, List.setIfInBounds_toArray, List.set_cons_zero, List.set_cons_succ]
  refine wpAnyM_take (i := 19) (v := ?vc19) rfl (by kernel_rfl) (by kernel_rfl) (by decide) (by kernel_rfl) (by kernel_rfl) (by kernel_rfl) (fun _ _ _ h => h) (Or.inl ⟨by rfl, ?hc19⟩) HS0.out ?rc19
  case hc19 => intro W hSW; obtain ⟨_, _, _, _, _, _⟩ := hSW; go_simp; first | done | with_reducible rfl
  try simp only [Act.put, List.setIfInBounds_toArray, List.set_cons_zero, List.set_cons_succ]
  refine wpAnyM_take (i := 20) (v := ?vc20) rfl (by kernel_rfl) (by kernel_rfl) (by decide) (by kernel_rfl) (by kernel_rfl) (by kernel_rfl) (fun _ _ _ h => h) (Or.inl ⟨by rfl, ?hc20⟩) HS0.out ?rc20
  case hc20 => intro W hSW; obtain ⟨_, _, _, _, _, _⟩ := hSW; go_simp; first | done | with_reducible rfl
  try simp only [Act.put, List.setIfInBounds_toArray, List.set_cons_zero, List.set_cons_succ]
  refine wpAnyM_take (i := 21) (v := ?vc21) rfl (by kernel_rfl) (by kernel_rfl) (by decide) (by kernel_rfl) (by kernel_rfl) (by kernel_rfl) (fun _ _ _ h => h) (Or.inl ⟨by rfl, ?hc21⟩) HS0.out ?rc21
  case hc21 => intro W hSW; obtain ⟨_, _, _, _, _, _⟩ := hSW; go_simp; first | done | with_reducible rfl
  try simp only [Act.put, List.setIfInBounds_toArray, List.set_cons_zero, List.set_cons_succ]
  refine wpAnyM_take (i := 22) (v := ?vc22) rfl (by kernel_rfl) (by kernel_rfl) (by decide) (by kernel_rfl) (by kernel_rfl) (by kernel_rfl) (fun _ _ _ h => h) (Or.inl ⟨by rfl, ?hc22⟩) HS0.out ?rc22
  case hc22 => intro W hSW; obtain ⟨_, _, _, _, _, _⟩ := hSW; go_simp; first | done | with_reducible rfl
  try simp only [Act.put, List.setIfInBounds_toArray, List.set_cons_zero, List.set_cons_succ]
  refine wpAnyM_one (i := 4) (by kernel_rfl) rfl (by rfl) ?_
  go_simp
  refine Calls.mono (HCB.out _ HB0.out) ?_
  rintro e w1 ⟨v1, rfl, ⟨g1, i1, e1, rfl, hg1, k1, l1, m1⟩, hb1⟩
  have HG1 := Lib.hid hg1
  have HM1 : Hid (w.heap.size ≤ g1 ∧ w.heap.size ≤ i1 ∧ w.heap.size ≤ e1) := Lib.hid ⟨Nat.le_trans HB0.out.size k1, Nat.le_trans HB0.out.size l1, Nat.le_trans HB0.out.size m1⟩
  have HB1 : Hid (Below w.heap.size w w1) := Lib.hid (HB0.out.trans (hb1.mono HB0.out.size))
  clear hg1 k1 l1 m1 hb1
  refine ⟨HJ.out _ HB1.out, ?_⟩
  try simp only [Act.put, List.setIfInBounds_toArray, List.set_cons_zero, List.set_cons_succ]
  refine wpAnyM_one (i := 9) (by kernel_rfl) rfl (by rfl) ?_
  go_simp
  refine Calls.mono (HCG.out _ HB1.out) ?_
  rintro e w2 ⟨v2, rfl, ⟨g2, i2, e2, rfl, hg2, k2, l2, m2⟩, hb2⟩
  have HG2 := Lib.hid hg2
  have HM2 : Hid (w1.heap.size ≤ g2 ∧ w1.heap.size ≤ i2 ∧ w1.heap.size ≤ e2) := Lib.hid ⟨k2, l2, m2⟩
  have HB12 := Lib.hid hb2
  have HB2 : Hid (Below w.heap.size w w2) := Lib.hid (HB1.out.trans (hb2.mono HB1.out.size))
  clear hg2 k2 l2 m2 hb2
  refine ⟨HJ.out _ HB2.out, ?_⟩
  try simp only [Act.put, List.setIfInBounds_toArray, List.set_cons_zero, List.set_cons_succ]
  refine wpAnyM_one (i := 18) (by kernel_rfl) rfl (by rfl) ?_
  go_simp
  refine Calls.mono (HCO.out _ HB2.out) ?_
  rintro e w3 ⟨v3, rfl, hr3, hb3⟩
  have HR3 := Lib.hid hr3
  have HB23 := Lib.hid hb3
  have HB3 : Hid (Below w.heap.size w w3) := Lib.hid (HB2.out.trans (hb3.mono HB2.out.size))
  obtain ⟨a3, c3, rfl⟩ := hr3.shape
  clear hr3 hb3
  refine ⟨HJ.out _ HB3.out, ?_⟩
  try simp only [Act.put, List.setIfInBounds_toArray, List.set_cons_zero, List.set_cons_succ]
  refine wpAnyM_one (i := 23) (by kernel_rfl) rfl (by rfl) ?_
  go_simp
  refine Calls.mono (HCR.out _ HB3.out) ?_
  rintro e w4 ⟨v4, rfl, hr4, hb4⟩
  have HR4 := Lib.hid hr4
  have HB34 := Lib.hid hb4
  have HB4 : Hid (Below w.heap.size w w4) := Lib.hid (HB3.out.trans (hb4.mono HB3.out.size))
  obtain ⟨a4, c4, rfl⟩ := row_len5 hr4
  clear hr4 hb4
  refine ⟨HJ.out _ HB4.out, ?_⟩
  try simp only [Act.put, List.setIfInBounds_toArray, List.set_cons_zero, List.set_cons_succ]
  refine wpAnyM_one (i := 24) (by kernel_rfl) rfl rfl ?_
  go_simp
  refine ⟨HJ.out _ HB4.out, ?_⟩
  try simp only [Act.put, List.setIfInBounds_toArray, List.set_cons_zero, List.set_cons_succ]
  refine wpAnyM_one (i := 25) (by kernel_rfl) rfl rfl ?_
  go_simp
  refine ⟨HJ.out _ (HB4.out.alloc HB4.out.size _), ?_⟩
  try simp only [Act.put, List.setIfInBounds_toArray, List.set_cons_zero, List.set_cons_succ]
  refine wpAnyM_one (i := 26) (by kernel_rfl) rfl rfl ?_
  go_simp
  refine ⟨HJ.out _ (HB4.out.alloc HB4.out.size _), ?_⟩
  try simp only [Act.put, List.setIfInBounds_toArray, List.set_cons_zero, List.set_cons_succ]
  refine wpAnyM_done (by kernel_rfl) ?_ _
  obtain ⟨W5, hW5⟩ : ∃ W5, W5 = w4.alloc (.cells #[.pointer (some ⟨g1, 0, none⟩), .pointer (some ⟨g2, 0, none⟩), .int .i64 L.floor.t, .int .i64 L.floor.r, .slice a3 L.ops.length c3, .slice a4 L.ops.length c4] 132) := ⟨_, rfl⟩
  rw [← hW5]
  have hb45 : Below w4.heap.size w4 W5 := by rw [hW5]; exact (Below.refl _ _).alloc (Nat.le_refl _) _
  have hbx : W5.heap[w4.heap.size]? = some (.cells #[.pointer (some ⟨g1, 0, none⟩), .pointer (some ⟨g2, 0, none⟩), .int .i64 L.floor.t, .int .i64 L.floor.r, .slice a3 L.ops.length c3, .slice a4 L.ops.length c4] 132 (0, 0)) := by rw [hW5]; exact World.alloc_heap_new _ _
  have hf : LogCp w.heap.size B W5 w4.heap.size g2 i2 e2 L := by
    have s1 := HB1.out.size
    have s2 := HB12.out.size
    have s3 := HB23.out.size
    have s4 := HB34.out.size
    have m1 := HM1.out
    have m2 := HM2.out
    have l1 := HG1.out.lt
    have l2 := HG2.out.lt
    have b24 : Below w2.heap.size w2 w4 := HB23.out.trans (HB34.out.mono s3)
    have b15 : Below w1.heap.size w1 W5 := HB12.out.trans ((b24.trans (hb45.mono (by omega))).mono s2)
    have b25 : Below w2.heap.size w2 W5 := b24.trans (hb45.mono (by omega))
    have b35 : Below w3.heap.size w3 W5 := HB34.out.trans (hb45.mono s4)
    exact ⟨⟨g1, i1, e1, _, _, rs, hbx, HG1.out.below b15, OpsRow.mono (OpsRow.kept HR3.out b35) (by omega), ownsRow_mono (ownsRow_keep HR4.out fun j _ hj => hb45.block j hj) (by omega),
      HRC.out.to fun _ _ _ _ _ hr => hr.kept fun j _ hj => (HB4.out.trans (hb45.mono HB4.out.size)).block j hj, by omega, by omega⟩, HG2.out.below b25, HOK.out, HSM.out, HFW.out, by omega, HBS.out.1⟩
  have HF := Lib.hid hf
  have HB5 : Hid (Below w.heap.size w W5) := Lib.hid (HB4.out.trans (hb45.mono HB4.out.size))
  clear hW5 hb45 hbx hf
  go_wp2
  go_ret
  exact ⟨_, _, _, _, rfl, HF.out, HB5.out⟩

theorem noContOp (a : Option Addr) (c : Nat) (f : Value) (w : World) : Calls Tryz.prog 102 #[.slice a 0 c, f] w fun e w' => e = .returned (.bool false) ∧ Below w.heap.size w w' := by
  have hI : Calls Tryz.prog 155 #[.slice a 0 c, f] w fun e w' => e = .returned (.int .i64 (-1)) ∧ w' = w := by
    go_enter Tryz.func155, Tryz.ntmps155
    go_wp2
    refine wp_loop_rounds 1 ?_
    rw [rounds_succ]
    go_wp2
    go_ret
    exact ⟨rfl, rfl⟩
  go_enter Tryz.func102, Tryz.ntmps102
  go_wp2_with (go_at_call 155; refine hI.mono ?_; rintro e w' ⟨rfl, rfl⟩)
  go_ret
  exact ⟨rfl, Below.refl _ _⟩
/-- slices.ContainsFunc at a list of operations, whatever predicate -/
theorem containsOp (p : Op → Bool) (g : Nat) (lb : Array Value) (eg : ∀ args w, (callFunc g args).run Tryz.prog w = .ok (.enter g args) w) (v : Value) (zs : List Op) (w : World) (h : SlAt w 13 Op.cells v zs) (hz : zs.length ≤ 1000)
    (hp : ∀ (W : World) (x : Op), Below w.heap.size w W → Calls Tryz.prog g (#[x.v] ++ lb) W fun e w' => e = .returned (.bool (p x)) ∧ Below W.heap.size W w') :
    Calls Tryz.prog 102 #[v, .func (.func g) #[] lb] w fun e w' => e = .returned (.bool (zs.any p)) ∧ Below w.heap.size w w' := by
  rcases h with ⟨a', c', rfl, rfl⟩ | ⟨b, off, c, rfl, _, _, hb, hc⟩
  · exact noContOp _ _ _ w
  · have := AnyQ.slices_ContainsFunc lHasOp 13 Tryz.isAgg47 Tryz.sizeOf47 Op.cells (fun _ => rfl) p g lb eg b off zs.length c zs w (fun W x hb => (hp W x hb).mono fun e w' ⟨h1, h2⟩ => ⟨h1, hb.trans (h2.mono hb.size)⟩) (Nat.le_refl _) (by omega) hb hc
    rw [List.take_length] at this
    exact this
set_option maxRecDepth 100000 in
theorem has_one (o : Op) (s : St) (sb : Nat) (w : World) (h : w.heap[sb]? = some (.cells #[.int .i64 s.t, .int .i64 s.r] 31)) :
    Calls Tryz.prog 103 #[o.v, .pointer (some ⟨sb, 0, none⟩)] w fun e w' => e = .returned (.bool (decide (o.stamp = s))) ∧ Below w.heap.size w w' := by
  have hl := (Array.getElem?_eq_some_iff.1 h).1
  have c0 := cell_at h 0 _ rfl
  have c1 := cell_at h 1 _ rfl
  clear h
  obtain ⟨x, k, ax, ix, tx, nx, ny, fx, dx⟩ := o
  unfold Op.v
  rcases St.three x s with rfl | ⟨hne, h1⟩ | ⟨r, rfl, hne, h1⟩
  · go_enter Tryz.func103, Tryz.ntmps103
    go_wp2
    go_ret
    exact ⟨by rw [decide_eq_true trivial]; rfl, (Below.refl _ w).alloc (Nat.le_refl _) _⟩
  · rw [decide_eq_false hne]
    clear hne
    go_enter Tryz.func103, Tryz.ntmps103
    go_wp2
    go_ret
    exact ⟨rfl, (Below.refl _ w).alloc (Nat.le_refl _) _⟩
  · rw [decide_eq_false hne]
    clear hne
    go_enter Tryz.func103, Tryz.ntmps103
    go_wp2
    go_ret
    exact ⟨rfl, (Below.refl _ w).alloc (Nat.le_refl _) _⟩

set_option maxRecDepth 100000 in
set_option maxHeartbeats 4000000 in
theorem has_low (B lb gb mI mE : Nat) (L : Lg) (s : St) (w : World) (h : LogAt B w lb gb mI mE L) (hc : ¬ ltSt L.floor s) :
    Calls Tryz.prog 56 #[.pointer (some ⟨lb, 0, none⟩), s.v] w fun e w' => e = .returned (.bool (true)) ∧ Below w.heap.size w w' := by
  obtain ⟨bb, bI, bE, vo, vr, rs, h1, h2, h3, h4, h5, h6, h7⟩ := h.parts
  obtain ⟨oa, oc, rfl⟩ := h3.shape
  obtain ⟨ra, rc, rfl⟩ := row_len5 h4
  have hcl := cmpSt_le (a := s) (b := L.floor)
  rw [decide_eq_false hc, Bool.not_false] at hcl
  obtain ⟨W0, hW0⟩ : ∃ W0, W0 = w.alloc (.cells #[.int .i64 s.t, .int .i64 s.r] 31) := ⟨_, rfl⟩
  have HBW : Hid (Below w.heap.size w W0 ∧ w.heap.size + 1 ≤ W0.heap.size) := Lib.hid ⟨by rw [hW0]; exact (Below.refl _ _).alloc (Nat.le_refl _) _, by rw [hW0]; simp only [World.size_alloc]; omega⟩
  have hsx : W0.heap[w.heap.size]? = some (.cells #[.int .i64 s.t, .int .i64 s.r] 31) := by rw [hW0]; exact World.alloc_heap_new _ _
  have HJ : Hid (∀ W, Below W0.heap.size W0 W → (fun W : World => W.cell? ⟨lb, 0, none⟩ = some (.pointer (some ⟨bb, 0, none⟩)) ∧ W.cell? ⟨lb, 1, none⟩ = some (.pointer (some ⟨gb, 0, none⟩)) ∧ W.cell? ⟨lb, 2, none⟩ = some (.int .i64 L.floor.t) ∧ W.cell? ⟨lb, 3, none⟩ = some (.int .i64 L.floor.r) ∧ W.cell? ⟨lb, 4, none⟩ = some (.slice oa L.ops.length oc) ∧ W.cell? ⟨lb, 5, none⟩ = some (.slice ra L.ops.length rc) ∧ W.cell? ⟨w.heap.size, 0, none⟩ = some (.int .i64 s.t) ∧ W.cell? ⟨w.heap.size, 1, none⟩ = some (.int .i64 s.r)) W) := Lib.hid fun W hW => by
    have hl := h.lt.1
    have hb : W.heap[lb]? = _ := (hW.block lb (by have := HBW.out.1.size; omega)).trans ((HBW.out.1.block lb hl).trans h1)
    have hs : W.heap[w.heap.size]? = some (.cells #[.int .i64 s.t, .int .i64 s.r] 31) := (hW.block _ (by have := HBW.out.2; omega)).trans hsx
    obtain ⟨c0, c1, c2, c3, c4, c5⟩ := log_cells hb
    exact ⟨c0, c1, c2, c3, c4, c5, cell_at hs 0 _ rfl, cell_at hs 1 _ rfl⟩
  have HHO : Hid (∀ W, Below W0.heap.size W0 W → Calls Tryz.prog 102 #[.slice oa L.ops.length oc, .func (.func 103) #[] #[.pointer (some ⟨w.heap.size, 0, none⟩)]] W fun e w' => e = .returned (.bool (L.ops.any fun o => decide (o.stamp = s))) ∧ Below W.heap.size W w') := Lib.hid fun W hW =>
    containsOp _ 103 _ (enters_of Tryz.func103 (by kernel_rfl) rfl) _ L.ops W ((h3.sl.below HBW.out.1).below hW) (by have := h.few; omega) (fun W' x hb => has_one x s w.heap.size W' ((hb.block _ (by have := HBW.out.2; have := hW.size; omega)).trans ((hW.block _ (by have := HBW.out.2; omega)).trans hsx)))
  have HBQ : Hid (Below W0.heap.size W0 W0.drew) := Lib.hid (Below.refl _ _).drew
  have HS0 := Lib.hid (HJ.out _ HBQ.out)
  unfold St.v
  clear h h1 h2 h3 h4 h5 h6 h7 hc hsx
  go_enter Tryz.func56, Tryz.ntmps56
  go_wp2_with fail
  rw [← hW0]
  clear hW0
  refine wp_region_M [] (S := (fun W : World => W.cell? ⟨lb, 0, none⟩ = some (.pointer (some ⟨bb, 0, none⟩)) ∧ W.cell? ⟨lb, 1, none⟩ = some (.pointer (some ⟨gb, 0, none⟩)) ∧ W.cell? ⟨lb, 2, none⟩ = some (.int .i64 L.floor.t) ∧ W.cell? ⟨lb, 3, none⟩ = some (.int .i64 L.floor.r) ∧ W.cell? ⟨lb, 4, none⟩ = some (.slice oa L.ops.length oc) ∧ W.cell? ⟨lb, 5, none⟩ = some (.slice ra L.ops.length rc) ∧ W.cell? ⟨w.heap.size, 0, none⟩ = some (.int .i64 s.t) ∧ W.cell? ⟨w.heap.size, 1, none⟩ = some (.int .i64 s.r))) (by kernel_rfl) ?_
  refine wpAnyM_take (i := 0) (v := ?vg0) rfl (by kernel_rfl) (by kernel_rfl) (by decide) (by kernel_rfl) (by kernel_rfl) (by kernel_rfl) (fun _ _ _ h => h) (Or.inl ⟨by rfl, ?hg0⟩) HS0.out ?rg0
  case hg0 => intro W hSW; obtain ⟨_, _, _, _, _, _, _, _⟩ := hSW; go_simp; first | done | with_reducible rfl
  try simp only [Act.put, List.setIfInBounds_toArray, List.set_cons_zero, List.set_cons_succ]
  refine wpAnyM_take (i := 1) (v := ?vg1) rfl (by kernel_rfl) (by kernel_rfl) (by decide) (by kernel_rfl) (by kernel_rfl) (by kernel_rfl) (fun _ _ _ h => h) (Or.inl ⟨by rfl, ?hg1⟩) HS0.out ?rg1
  case hg1 => intro W hSW; obtain ⟨_, _, _, _, _, _, _, _⟩ := hSW; go_simp; first | done | with_reducible rfl
  try simp only [Act.put, List.setIfInBounds_toArray, List.set_cons_zero, List.set_cons_succ]
  refine wpAnyM_take (i := 2) (v := ?vg2) rfl (by kernel_rfl) (by kernel_rfl) (by decide) (by kernel_rfl) (by kernel_rfl) (by kernel_rfl) (fun _ _ _ h => h) (Or.inl ⟨by rfl, ?hg2⟩) HS0.out ?rg2
  case hg2 => intro W hSW; obtain ⟨_, _, _, _, _, _, _, _⟩ := hSW; go_simp; first | done | with_reducible rfl
  try simp only [Act.put, List.setIfInBounds_toArray, List.set_cons_zero, List.set_cons_succ]
  refine wpAnyM_take (i := 3) (v := ?vg3) rfl (by kernel_rfl) (by kernel_rfl) (by decide) (by kernel_rfl) (by kernel_rfl) (by kernel_rfl) (fun _ _ _ h => h) (Or.inl ⟨by rfl, ?hg3⟩) HS0.out ?rg3
  case hg3 => intro W hSW; obtain ⟨_, _, _, _, _, _, _, _⟩ := hSW; go_simp; first | done | with_reducible rfl
  try simp only [Act.put, List.setIfInBounds_toArray, List.set_cons_zero, List.set_cons_succ]
  refine wpAnyM_take (i := 4) (v := ?vg4) rfl (by kernel_rfl) (by kernel_rfl) (by decide) (by kernel_rfl) (by kernel_rfl) (by kernel_rfl) (fun _ _ _ h => h) (Or.inl ⟨by rfl, ?hg4⟩) HS0.out ?rg4
  case hg4 => intro W hSW; obtain ⟨_, _, _, _, _, _, _, _⟩ := hSW; go_simp; first | done | with_reducible rfl
  try simp only [Act.put, List.setIfInBounds_toArray, List.set_cons_zero, List.set_cons_succ]
  refine wpAnyM_one (i := 5) (by kernel_rfl) rfl (by rfl) ?_
  go_simp
  refine Calls.mono (stCompare_any _ _ _ _ _) ?_
  rintro e w1 ⟨rfl, hn1⟩
  have HB1 : Hid (Below W0.heap.size W0 w1) := Lib.hid (HBQ.out.trans (hn1.below.mono HBQ.out.size))
  clear hn1
  have HS1 := Lib.hid (HJ.out _ HB1.out)
  refine ⟨HS1.out, ?_⟩
  try simp only [Act.put, List.setIfInBounds_toArray, List.set_cons_zero, List.set_cons_succ]
  refine wpAnyM_take (i := 6) (v := ?vg6) rfl (by kernel_rfl) (by kernel_rfl) (by decide) (by kernel_rfl) (by kernel_rfl) (by kernel_rfl) (fun _ _ _ h => h) (Or.inl ⟨by rfl, ?hg6⟩) HS1.out ?rg6
  case hg6 => intro W hSW; obtain ⟨_, _, _, _, _, _, _, _⟩ := hSW; go_simp; first | done | with_reducible rfl
  try simp only [Act.put, List.setIfInBounds_toArray, List.set_cons_zero, List.set_cons_succ]
  refine wpAnyM_take (i := 7) (v := ?vg7) rfl (by kernel_rfl) (by kernel_rfl) (by decide) (by kernel_rfl) (by kernel_rfl) (by kernel_rfl) (fun _ _ _ h => h) (Or.inl ⟨by rfl, ?hg7⟩) HS1.out ?rg7
  case hg7 => intro W hSW; obtain ⟨_, _, _, _, _, _, _, _⟩ := hSW; go_simp; first | done | with_reducible rfl
  try simp only [Act.put, List.setIfInBounds_toArray, List.set_cons_zero, List.set_cons_succ]
  refine wpAnyM_take (i := 8) (v := undef) rfl (by kernel_rfl) (by kernel_rfl) (by decide) (by kernel_rfl) (by kernel_rfl) (by kernel_rfl) (fun _ _ _ h => h) (Or.inr ⟨by rfl, rfl⟩) HS1.out ?_
  try simp only [Act.put, List.setIfInBounds_toArray, List.set_cons_zero, List.set_cons_succ]
  refine wpAnyM_take (i := 9) (v := undef) rfl (by kernel_rfl) (by kernel_rfl) (by decide) (by kernel_rfl) (by kernel_rfl) (by kernel_rfl) (fun _ _ _ h => h) (Or.inr ⟨by rfl, rfl⟩) HS1.out ?_
  try simp only [Act.put, List.setIfInBounds_toArray, List.set_cons_zero, List.set_cons_succ]
  refine wpAnyM_take (i := 10) (v := undef) rfl (by kernel_rfl) (by kernel_rfl) (by decide) (by kernel_rfl) (by kernel_rfl) (by kernel_rfl) (fun _ _ _ h => h) (Or.inr ⟨by rfl, rfl⟩) HS1.out ?_
  try simp only [Act.put, List.setIfInBounds_toArray, List.set_cons_zero, List.set_cons_succ]
  refine wpAnyM_take (i := 11) (v := undef) rfl (by kernel_rfl) (by kernel_rfl) (by decide) (by kernel_rfl) (by kernel_rfl) (by kernel_rfl) (fun _ _ _ h => h) (Or.inr ⟨by rfl, rfl⟩) HS1.out ?_
  try simp only [Act.put, List.setIfInBounds_toArray, List.set_cons_zero, List.set_cons_succ]
  refine wpAnyM_take (i := 12) (v := undef) rfl (by kernel_rfl) (by kernel_rfl) (by decide) (by kernel_rfl) (by kernel_rfl) (by kernel_rfl) (fun _ _ _ h => h) (Or.inr ⟨by rfl, rfl⟩) HS1.out ?_
  try simp only [Act.put, List.setIfInBounds_toArray, List.set_cons_zero, List.set_cons_succ]
  refine wpAnyM_take (i := 13) (v := undef) rfl (by kernel_rfl) (by kernel_rfl) (by decide) (by kernel_rfl) (by kernel_rfl) (by kernel_rfl) (fun _ _ _ h => h) (Or.inr ⟨by rfl, rfl⟩) HS1.out ?_
  try simp only [Act.put, List.setIfInBounds_toArray, List.set_cons_zero, List.set_cons_succ]
  refine wpAnyM_one (i := 14) (by kernel_rfl) rfl rfl ?_
  go_simp
  refine ⟨HS1.out, ?_⟩
  try simp only [Act.put, List.setIfInBounds_toArray, List.set_cons_zero, List.set_cons_succ]
  refine wpAnyM_one (i := 15) (by kernel_rfl) rfl rfl ?_
  go_simp
  refine ⟨HS1.out, ?_⟩
  try simp only [Act.put, List.setIfInBounds_toArray, List.set_cons_zero, List.set_cons_succ]
  refine wpAnyM_done (by kernel_rfl) ?_ _
  go_wp2
  go_ret
  exact ⟨rfl, HBW.out.1.trans (HB1.out.mono HBW.out.1.size)⟩

set_option maxRecDepth 100000 in
set_option maxHeartbeats 4000000 in
theorem has_high (B lb gb mI mE : Nat) (L : Lg) (s : St) (w : World) (h : LogAt B w lb gb mI mE L) (hc : ltSt L.floor s) :
    Calls Tryz.prog 56 #[.pointer (some ⟨lb, 0, none⟩), s.v] w fun e w' => e = .returned (.bool (L.ops.any fun o => decide (o.stamp = s))) ∧ Below w.heap.size w w' := by
  obtain ⟨bb, bI, bE, vo, vr, rs, h1, h2, h3, h4, h5, h6, h7⟩ := h.parts
  obtain ⟨oa, oc, rfl⟩ := h3.shape
  obtain ⟨ra, rc, rfl⟩ := row_len5 h4
  have hcl := cmpSt_le (a := s) (b := L.floor)
  rw [decide_eq_true hc, Bool.not_true] at hcl
  obtain ⟨W0, hW0⟩ : ∃ W0, W0 = w.alloc (.cells #[.int .i64 s.t, .int .i64 s.r] 31) := ⟨_, rfl⟩
  have HBW : Hid (Below w.heap.size w W0 ∧ w.heap.size + 1 ≤ W0.heap.size) := Lib.hid ⟨by rw [hW0]; exact (Below.refl _ _).alloc (Nat.le_refl _) _, by rw [hW0]; simp only [World.size_alloc]; omega⟩
  have hsx : W0.heap[w.heap.size]? = some (.cells #[.int .i64 s.t, .int .i64 s.r] 31) := by rw [hW0]; exact World.alloc_heap_new _ _
  have HJ : Hid (∀ W, Below W0.heap.size W0 W → (fun W : World => W.cell? ⟨lb, 0, none⟩ = some (.pointer (some ⟨bb, 0, none⟩)) ∧ W.cell? ⟨lb, 1, none⟩ = some (.pointer (some ⟨gb, 0, none⟩)) ∧ W.cell? ⟨lb, 2, none⟩ = some (.int .i64 L.floor.t) ∧ W.cell? ⟨lb, 3, none⟩ = some (.int .i64 L.floor.r) ∧ W.cell? ⟨lb, 4, none⟩ = some (.slice oa L.ops.length oc) ∧ W.cell? ⟨lb, 5, none⟩ = some (.slice ra L.ops.length rc) ∧ W.cell? ⟨w.heap.size, 0, none⟩ = some (.int .i64 s.t) ∧ W.cell? ⟨w.heap.size, 1, none⟩ = some (.int .i64 s.r)) W) := Lib.hid fun W hW => by
    have hl := h.lt.1
    have hb : W.heap[lb]? = _ := (hW.block lb (by have := HBW.out.1.size; omega)).trans ((HBW.out.1.block lb hl).trans h1)
    have hs : W.heap[w.heap.size]? = some (.cells #[.int .i64 s.t, .int .i64 s.r] 31) := (hW.block _ (by have := HBW.out.2; omega)).trans hsx
    obtain ⟨c0, c1, c2, c3, c4, c5⟩ := log_cells hb
    exact ⟨c0, c1, c2, c3, c4, c5, cell_at hs 0 _ rfl, cell_at hs 1 _ rfl⟩
  have HHO : Hid (∀ W, Below W0.heap.size W0 W → Calls Tryz.prog 102 #[.slice oa L.ops.length oc, .func (.func 103) #[] #[.pointer (some ⟨w.heap.size, 0, none⟩)]] W fun e w' => e = .returned (.bool (L.ops.any fun o => decide (o.stamp = s))) ∧ Below W.heap.size W w') := Lib.hid fun W hW =>
    containsOp _ 103 _ (enters_of Tryz.func103 (by kernel_rfl) rfl) _ L.ops W ((h3.sl.below HBW.out.1).below hW) (by have := h.few; omega) (fun W' x hb => has_one x s w.heap.size W' ((hb.block _ (by have := HBW.out.2; have := hW.size; omega)).trans ((hW.block _ (by have := HBW.out.2; omega)).trans hsx)))
  have HBQ : Hid (Below W0.heap.size W0 W0.drew) := Lib.hid (Below.refl _ _).drew
  have HS0 := Lib.hid (HJ.out _ HBQ.out)
  unfold St.v
  clear h h1 h2 h3 h4 h5 h6 h7 hc hsx
  go_enter Tryz.func56, Tryz.ntmps56
  go_wp2_with fail
  rw [← hW0]
  clear hW0
  refine wp_region_M [] (S := (fun W : World => W.cell? ⟨lb, 0, none⟩ = some (.pointer (some ⟨bb, 0, none⟩)) ∧ W.cell? ⟨lb, 1, none⟩ = some (.pointer (some ⟨gb, 0, none⟩)) ∧ W.cell? ⟨lb, 2, none⟩ = some (.int .i64 L.floor.t) ∧ W.cell? ⟨lb, 3, none⟩ = some (.int .i64 L.floor.r) ∧ W.cell? ⟨lb, 4, none⟩ = some (.slice oa L.ops.length oc) ∧ W.cell? ⟨lb, 5, none⟩ = some (.slice ra L.ops.length rc) ∧ W.cell? ⟨w.heap.size, 0, none⟩ = some (.int .i64 s.t) ∧ W.cell? ⟨w.heap.size, 1, none⟩ = some (.int .i64 s.r))) (by kernel_rfl) ?_
  refine wpAnyM_take (i := 0) (v := ?vg0) rfl (by kernel_rfl) (by kernel_rfl) (by decide) (by kernel_rfl) (by kernel_rfl) (by kernel_rfl) (fun _ _ _ h => h) (Or.inl ⟨by rfl, ?hg0⟩) HS0.out ?rg0
  case hg0 => intro W hSW; obtain ⟨_, _, _, _, _, _, _, _⟩ := hSW; go_simp; first | done | with_reducible rfl
  try simp only [Act.put, List.setIfInBounds_toArray, List.set_cons_zero, List.set_cons_succ]
  refine wpAnyM_take (i := 1) (v := ?vg1) rfl (by kernel_rfl) (by kernel_rfl) (by decide) (by kernel_rfl) (by kernel_rfl) (by kernel_rfl) (fun _ _ _ h => h) (Or.inl ⟨by rfl, ?hg1⟩) HS0.out ?rg1
  case hg1 => intro W hSW; obtain ⟨_, _, _, _, _, _, _, _⟩ := hSW; go_simp; first | done | with_reducible rfl
  try simp only [Act.put, List.setIfInBounds_toArray, List.set_cons_zero, List.set_cons_succ]
  refine wpAnyM_take (i := 2) (v := ?vg2) rfl (by kernel_rfl) (by kernel_rfl) (by decide) (by kernel_rfl) (by kernel_rfl) (by kernel_rfl) (fun _ _ _ h => h) (Or.inl ⟨by rfl, ?hg2⟩) HS0.out ?rg2
  case hg2 => intro W hSW; obtain ⟨_, _, _, _, _, _, _, _⟩ := hSW; go_simp; first | done | with_reducible rfl
  try simp only [Act.put, List.setIfInBounds_toArray, List.set_cons_zero, List.set_cons_succ]
  refine wpAnyM_take (i := 3) (v := ?vg3) rfl (by kernel_rfl) (by kernel_rfl) (by decide) (by kernel_rfl) (by kernel_rfl) (by kernel_rfl) (fun _ _ _ h => h) (Or.inl ⟨by rfl, ?hg3⟩) HS0.out ?rg3
  case hg3 => intro W hSW; obtain ⟨_, _, _, _, _, _, _, _⟩ := hSW; go_simp; first | done | with_reducible rfl
  try simp only [Act.put, List.setIfInBounds_toArray, List.set_cons_zero, List.set_cons_succ]
  refine wpAnyM_take (i := 4) (v := ?vg4) rfl (by kernel_rfl) (by kernel_rfl) (by decide) (by kernel_rfl) (by kernel_rfl) (by kernel_rfl) (fun _ _ _ h => h) (Or.inl ⟨by rfl, ?hg4⟩) HS0.out ?rg4
  case hg4 => intro W hSW; obtain ⟨_, _, _, _, _, _, _, _⟩ := hSW; go_simp; first | done | with_reducible rfl
  try simp only [Act.put, List.setIfInBounds_toArray, List.set_cons_zero, List.set_cons_succ]
  refine wpAnyM_one (i := 5) (by kernel_rfl) rfl (by rfl) ?_
  go_simp
  refine Calls.mono (stCompare_any _ _ _ _ _) ?_
  rintro e w1 ⟨rfl, hn1⟩
  have HB1 : Hid (Below W0.heap.size W0 w1) := Lib.hid (HBQ.out.trans (hn1.below.mono HBQ.out.size))
  clear hn1
  have HS1 := Lib.hid (HJ.out _ HB1.out)
  refine ⟨HS1.out, ?_⟩
  try simp only [Act.put, List.setIfInBounds_toArray, List.set_cons_zero, List.set_cons_succ]
  refine wpAnyM_take (i := 6) (v := ?vg6) rfl (by kernel_rfl) (by kernel_rfl) (by decide) (by kernel_rfl) (by kernel_rfl) (by kernel_rfl) (fun _ _ _ h => h) (Or.inl ⟨by rfl, ?hg6⟩) HS1.out ?rg6
  case hg6 => intro W hSW; obtain ⟨_, _, _, _, _, _, _, _⟩ := hSW; go_simp; first | done | with_reducible rfl
  try simp only [Act.put, List.setIfInBounds_toArray, List.set_cons_zero, List.set_cons_succ]
  refine wpAnyM_take (i := 7) (v := ?vg7) rfl (by kernel_rfl) (by kernel_rfl) (by decide) (by kernel_rfl) (by kernel_rfl) (by kernel_rfl) (fun _ _ _ h => h) (Or.inl ⟨by rfl, ?hg7⟩) HS1.out ?rg7
  case hg7 => intro W hSW; obtain ⟨_, _, _, _, _, _, _, _⟩ := hSW; go_simp; first | done | with_reducible rfl
  try simp only [Act.put, List.setIfInBounds_toArray, List.set_cons_zero, List.set_cons_succ]
  refine wpAnyM_take (i := 8) (v := ?vg8) rfl (by kernel_rfl) (by kernel_rfl) (by decide) (by kernel_rfl) (by kernel_rfl) (by kernel_rfl) (fun _ _ _ h => h) (Or.inl ⟨by rfl, ?hg8⟩) HS1.out ?rg8
  case hg8 => intro W hSW; obtain ⟨_, _, _, _, _, _, _, _⟩ := hSW; go_simp; first | done | with_reducible rfl
  try simp only [Act.put, List.setIfInBounds_toArray, List.set_cons_zero, List.set_cons_succ]
  refine wpAnyM_take (i := 9) (v := ?vg9) rfl (by kernel_rfl) (by kernel_rfl) (by decide) (by kernel_rfl) (by kernel_rfl) (by kernel_rfl) (fun _ _ _ h => h) (Or.inl ⟨by rfl, ?hg9⟩) HS1.out ?rg9
  case hg9 => intro W hSW; obtain ⟨_, _, _, _, _, _, _, _⟩ := hSW; go_simp; first | done | with_reducible rfl
  try simp only [Act.put, List.setIfInBounds_toArray, List.set_cons_zero, List.set_cons_succ]
  refine wpAnyM_take (i := 10) (v := ?vg10) rfl (by kernel_rfl) (by kernel_rfl) (by decide) (by kernel_rfl) (by kernel_rfl) (by kernel_rfl) (fun _ _ _ h => h) (Or.inl ⟨by rfl, ?hg10⟩) HS1.out ?rg10
  case hg10 => intro W hSW; obtain ⟨_, _, _, _, _, _, _, _⟩ := hSW; go_simp; first | done | with_reducible rfl
  try simp only [Act.put, List.setIfInBounds_toArray, List.set_cons_zero, List.set_cons_succ]
  refine wpAnyM_take (i := 11) (v := ?vg11) rfl (by kernel_rfl) (by kernel_rfl) (by decide) (by kernel_rfl) (by kernel_rfl) (by kernel_rfl) (fun _ _ _ h => h) (Or.inl ⟨by rfl, ?hg11⟩) HS1.out ?rg11
  case hg11 => intro W hSW; obtain ⟨_, _, _, _, _, _, _, _⟩ := hSW; go_simp; first | done | with_reducible rfl
  try simp only [Act.put, List.setIfInBounds_toArray, List.set_cons_zero, List.set_cons_succ]
  refine wpAnyM_take (i := 12) (v := ?vg12) rfl (by kernel_rfl) (by kernel_rfl) (by decide) (by kernel_rfl) (by kernel_rfl) (by kernel_rfl) (fun _ _ _ h => h) (Or.inl ⟨by rfl, ?hg12⟩) HS1.out ?rg12
  case hg12 => intro W hSW; obtain ⟨_, _, _, _, _, _, _, _⟩ := hSW; go_simp; first | done | with_reducible rfl
  try simp only [Act.put, List.setIfInBounds_toArray, List.set_cons_zero, List.set_cons_succ]
  refine wpAnyM_oneG (i := 13) (by kernel_rfl) rfl (by rfl) ?_
  go_simp
  refine Calls.mono (HHO.out _ HB1.out) ?_
  rintro e w2 ⟨rfl, hb2⟩
  have HB2 : Hid (Below W0.heap.size W0 w2) := Lib.hid (HB1.out.trans (hb2.mono HB1.out.size))
  clear hb2
  have HS2 := Lib.hid (HJ.out _ HB2.out)
  refine ⟨HS2.out, ?_⟩
  try simp only [Act.put, List.setIfInBounds_toArray, List.set_cons_zero, List.set_cons_succ]
  refine wpAnyM_one (i := 14) (by kernel_rfl) rfl rfl ?_
  go_simp
  refine ⟨HS2.out, ?_⟩
  try simp only [Act.put, List.setIfInBounds_toArray, List.set_cons_zero, List.set_cons_succ]
  refine wpAnyM_one (i := 15) (by kernel_rfl) rfl rfl ?_
  go_simp
  refine ⟨HS2.out, ?_⟩
  try simp only [Act.put, List.setIfInBounds_toArray, List.set_cons_zero, List.set_cons_succ]
  refine wpAnyM_done (by kernel_rfl) ?_ _
  go_wp2
  go_ret
  exact ⟨rfl, HBW.out.1.trans (HB2.out.mono HBW.out.1.size)⟩

theorem has_l (B lb gb mI mE : Nat) (L : Lg) (s : St) (w : World) (h : LogAt B w lb gb mI mE L) :
    Calls Tryz.prog 56 #[.pointer (some ⟨lb, 0, none⟩), s.v] w fun e w' => e = .returned (.bool (L.hasB s)) ∧ Below w.heap.size w w' := by
  unfold Lg.hasB
  by_cases hc : ltSt L.floor s
  · rw [decide_eq_true hc, Bool.not_true, Bool.false_or]
    exact has_high B lb gb mI mE L s w h hc
  · rw [decide_eq_false hc, Bool.not_false, Bool.true_or]
    exact has_low B lb gb mI mE L s w h hc
end Go.Proofs.YtlokljaeknmdpaaGreat

/-! ## LogN -/
namespace Go.Proofs.YtlokljaeknmdpaaGreat
open Go.RowKit Go.Shelf Go.Sort Go.Proofs

set_option maxRecDepth 100000 in
set_option maxHeartbeats 2000000 in
theorem add_nil (o : Op) (w : World) : Calls Tryz.prog 54 #[.pointer none, o.v] w fun e w' => e = .returned (.bool false) ∧ Below w.heap.size w w' := by
  obtain ⟨W0, hW0⟩ : ∃ W0, W0 = ((w.alloc (.cells #[.pointer none] 71)).alloc (.cells #[.int .i64 o.stamp.t, .int .i64 o.stamp.r, .int .i64 o.kind, .int .i64 o.at_.t, .int .i64 o.at_.r, .int .i64 o.ino.t, .int .i64 o.ino.r, .int .i64 o.to.t, .int .i64 o.to.r, .string o.name, .string o.new, .int .i64 o.off, .string o.data] 47)) := ⟨_, rfl⟩
  have HBW : Hid (Below w.heap.size w W0 ∧ w.heap.size ≤ W0.heap.size) := Lib.hid ⟨by rw [hW0]; exact ((Below.refl _ _).alloc (Nat.le_refl _) _).alloc (by simp) _, by rw [hW0]; simp only [World.size_alloc]; omega⟩
  have HP : Hid (W0.heap[w.heap.size]? = some (.cells #[.pointer none] 71 (0, 0))) := Lib.hid (by rw [hW0]; exact (Below.heap_alloc _ _ _ (by simp)).trans (World.alloc_heap_new w _))
  unfold Op.v
  go_enter Tryz.func54, Tryz.ntmps54
  go_wp2_with fail
  rw [← hW0]
  clear hW0
  have q0 : ∀ d os, (grow (redrawn W0 d) os).cell? ⟨w.heap.size, 0, none⟩ = some (.pointer none) := fun d os => cell_at (((below_regrown W0 d os).block _ (Array.getElem?_eq_some_iff.1 HP.out).1).trans HP.out) 0 _ rfl
  refine wp_region_quiet_below (by kernel_rfl) (by kernel_rfl) ?_
  repeat (first | go_big_quiet_step (fail) | quiet_step (fail))
  refine wpQuiet_nil ?_
  intro _ hw'
  obtain ⟨⟨dq, osq⟩, hw''⟩ := hw'
  subst hw''
  go_wp2
  go_ret
  exact ⟨rfl, HBW.out.1.trans ((below_regrown W0 dq osq).mono HBW.out.2)⟩
set_option maxRecDepth 100000 in
set_option maxHeartbeats 2000000 in
theorem compact_nil (s : St) (w : World) : Calls Tryz.prog 53 #[.pointer none, s.v] w fun e w' => e = .returned (.int .i64 0) ∧ Below w.heap.size w w' := by
  obtain ⟨W0, hW0⟩ : ∃ W0, W0 = w.alloc (.cells #[.int .i64 s.t, .int .i64 s.r] 31) := ⟨_, rfl⟩
  have HBW : Hid (Below w.heap.size w W0 ∧ w.heap.size ≤ W0.heap.size) := Lib.hid ⟨by rw [hW0]; exact (Below.refl _ _).alloc (Nat.le_refl _) _, by rw [hW0]; simp only [World.size_alloc]; omega⟩
  unfold St.v
  go_enter Tryz.func53, Tryz.ntmps53
  go_wp2_with fail
  rw [← hW0]
  clear hW0
  refine wp_region_quiet_below (by kernel_rfl) (by kernel_rfl) ?_
  repeat (first | go_big_quiet_step (fail) | quiet_step (fail))
  refine wpQuiet_nil ?_
  intro _ hw'
  obtain ⟨⟨dq, osq⟩, hw''⟩ := hw'
  subst hw''
  go_wp2
  go_ret
  exact ⟨rfl, HBW.out.1.trans ((below_regrown W0 dq osq).mono HBW.out.2)⟩
set_option maxRecDepth 100000 in
theorem has_nil (s : St) (w : World) : Calls Tryz.prog 56 #[.pointer none, s.v] w fun e w' => e = .returned (.bool false) ∧ Below w.heap.size w w' := by
  unfold St.v
  go_enter Tryz.func56, Tryz.ntmps56
  go_wp2
  go_ret
  exact ⟨rfl, (Below.refl _ _).alloc (Nat.le_refl _) _⟩
set_option maxRecDepth 100000 in
theorem graph_nil_l (w : World) : Calls Tryz.prog 49 #[.pointer none] w fun e w' => e = .returned (.pointer none) ∧ Below w.heap.size w w' := by
  go_enter Tryz.func49, Tryz.ntmps49
  go_wp2
  go_ret
  exact ⟨rfl, Below.refl _ _⟩
set_option maxRecDepth 100000 in
theorem from_nil (s : St) (v : Value) (w : World) : Calls Tryz.prog 47 #[.pointer none, s.v, v] w fun e w' => e = .returned (.pointer none) ∧ Below w.heap.size w w' := by
  unfold St.v
  go_enter Tryz.func47, Tryz.ntmps47
  go_wp2
  go_ret
  exact ⟨rfl, (Below.refl _ _).alloc (Nat.le_refl _) _⟩
end Go.Proofs.YtlokljaeknmdpaaGreat
