/-
  (*oplog.Log).Copy, (*oplog.Log).Has; condition: the log is in order.
-/
import Derived.Test.YtlokljaeknmdpaaGreatKZ44
import Derived.Test.YtlokljaeknmdpaaGreatKZ46
/-! ## LogK -/
namespace Go.Proofs.YtlokljaeknmdpaaGreat
open Go.RowKit Go.Shelf Go.Proofs
open L12 (Raw Raw.cells infoRec)

set_option linter.unusedSimpArgs false

/-- a log whose graphs and rows lie from C on (the records' own rows: from B on) -/
def LogCp (C B : Nat) (w : World) (lb gb mI mE : Nat) (L : Lg) : Prop := (∃ bb bI bE vo vr rs, w.heap[lb]? = some (.cells #[.pointer (some ⟨bb, 0, none⟩), .pointer (some ⟨gb, 0, none⟩), .int .i64 L.floor.t, .int .i64 L.floor.r, vo, vr] 132 (0, 0)) ∧ GrAt w bb bI bE L.base ∧
    OpsRow C vo L.ops w ∧ w.ownsRow C 44 5 vr L.ops.length (rs.flatMap Raw.cells) ∧ RecsOf B L.base L.ops L.ops.length rs w ∧ (C ≤ bb ∧ C ≤ bI ∧ C ≤ bE) ∧ (bI ≠ mI ∧ bI ≠ mE ∧ bE ≠ mI ∧ bE ≠ mE)) ∧
  GrAt w gb mI mE L.g ∧ L.Ok ∧ (∀ o ∈ L.ops, o.Small) ∧ L.ops.length ≤ 500 ∧ (C ≤ lb ∧ C ≤ gb ∧ C ≤ mI ∧ C ≤ mE) ∧ B ≤ C
section
variable {B C : Nat} {w w' : World} {lb gb mI mE : Nat} {L : Lg}
theorem LogCp.at (h : LogCp C B w lb gb mI mE L) : LogAt B w lb gb mI mE L := by
  obtain ⟨⟨bb, bI, bE, vo, vr, rs, h1, h2, h3, h4, h5, h6, h7⟩, k1, k2, k3, k4, k5, k6⟩ := h
  exact ⟨⟨bb, bI, bE, vo, vr, rs, h1, h2, h3.mono k6, ownsRow_mono h4 k6, h5, by omega, h7⟩, k1, k2, k3, k4, by omega⟩
end

set_option maxRecDepth 100000 in
set_option maxHeartbeats 4000000 in
theorem copy_l (B lb gb mI mE : Nat) (L : Lg) (w : World) (h : LogAt B w lb gb mI mE L) :
    Calls Tryz.prog 55 #[.pointer (some ⟨lb, 0, none⟩)] w fun e w' => ∃ lb' gb' mI' mE', e = .returned (.pointer (some ⟨lb', 0, none⟩)) ∧ LogCp w.heap.size B w' lb' gb' mI' mE' L ∧ Below w.heap.size w w' := by
  obtain ⟨bb, bI, bE, vo, vr, rs, h1, h2, h3, h4, h5, h6, h7⟩ := h.parts
  obtain ⟨oa, oc, rfl⟩ := h3.shape
  obtain ⟨ra, rc, rfl⟩ := row_len5 h4
  have hrl : rs.length = L.ops.length := h5.1
  have HJ : Hid (∀ W, Below w.heap.size w W → (fun W : World => W.cell? ⟨lb, 0, none⟩ = some (.pointer (some ⟨bb, 0, none⟩)) ∧ W.cell? ⟨lb, 1, none⟩ = some (.pointer (some ⟨gb, 0, none⟩)) ∧ W.cell? ⟨lb, 2, none⟩ = some (.int .i64 L.floor.t) ∧ W.cell? ⟨lb, 3, none⟩ = some (.int .i64 L.floor.r) ∧ W.cell? ⟨lb, 4, none⟩ = some (.slice oa L.ops.length oc) ∧ W.cell? ⟨lb, 5, none⟩ = some (.slice ra L.ops.length rc)) W) := Lib.hid fun W hW => log_cells ((hW.block lb h.lt.1).trans h1)
  have HCB : Hid (∀ W, Below w.heap.size w W → Calls Tryz.prog 27 #[.pointer (some ⟨bb, 0, none⟩)] W (MadeGr W L.base)) := Lib.hid fun W hW => copy_g bb bI bE L.base W (h2.below hW)
  have HCG : Hid (∀ W, Below w.heap.size w W → Calls Tryz.prog 27 #[.pointer (some ⟨gb, 0, none⟩)] W (MadeGr W L.g)) := Lib.hid fun W hW => copy_g gb mI mE L.g W (h.g.below hW)
  have HCO : Hid (∀ W, Below w.heap.size w W → Calls Tryz.prog 97 #[.slice oa L.ops.length oc] W fun e w' => ∃ v', e = .returned v' ∧ OpsRow W.heap.size v' L.ops w' ∧ Below W.heap.size W w') := Lib.hid fun W hW => clone_any _ L.ops W (h3.sl.below hW) (by have := h.few; omega)
  have HCR : Hid (∀ W, Below w.heap.size w W → Calls Tryz.prog 100 #[.slice ra L.ops.length rc] W fun e w' => ∃ v', e = .returned v' ∧ w'.ownsRow W.heap.size 44 5 v' L.ops.length (rs.flatMap Raw.cells) ∧ Below W.heap.size W w') := Lib.hid fun W hW => by
    have := clone_rec _ rs W ((SlAt.of_row (enc := Raw.cells) (k := 5) (fun _ => rfl) (by rw [hrl]; exact h4)).below hW) (by have := h.few; omega) h5.one
    rw [hrl] at this
    exact this
  have HRC := Lib.hid h5
  have HOK := Lib.hid h.ok
  have HSM := Lib.hid h.small
  have HFW := Lib.hid h.few
  have HBS : Hid (B ≤ w.heap.size ∧ True) := Lib.hid ⟨by have := h.ge; have := h.lt; omega, trivial⟩
  have HB0 : Hid (Below w.heap.size w w.drew) := Lib.hid (Below.refl _ _).drew
  have HS0 := Lib.hid (HJ.out _ HB0.out)
  clear h h1 h2 h3 h4 h5 h6 h7 hrl
  go_enter Tryz.func55, Tryz.ntmps55
  go_wp2_with fail
  refine wp_region_M [] (S := (fun W : World => W.cell? ⟨lb, 0, none⟩ = some (.pointer (some ⟨bb, 0, none⟩)) ∧ W.cell? ⟨lb, 1, none⟩ = some (.pointer (some ⟨gb, 0, none⟩)) ∧ W.cell? ⟨lb, 2, none⟩ = some (.int .i64 L.floor.t) ∧ W.cell? ⟨lb, 3, none⟩ = some (.int .i64 L.floor.r) ∧ W.cell? ⟨lb, 4, none⟩ = some (.slice oa L.ops.length oc) ∧ W.cell? ⟨lb, 5, none⟩ = some (.slice ra L.ops.length rc))) (by kernel_rfl) ?_
  refine wpAnyM_take (i := 0) (v := ?vc0) rfl (by kernel_rfl) (by kernel_rfl) (by decide) (by kernel_rfl) (by kernel_rfl) (by kernel_rfl) (fun _ _ _ h => h) (Or.inl ⟨by rfl, ?hc0⟩) HS0.out ?rc0
  case hc0 => intro W hSW; obtain ⟨_, _, _, _, _, _⟩ := hSW; go_simp; first | done | with_reducible rfl
  try simp only [Act.put, List.setIfInBounds_toArray, List.set_cons_zero, List.set_cons_succ]
  refine wpAnyM_take (i := 1) (v := ?vc1) rfl (by kernel_rfl) (by kernel_rfl) (by decide) (by kernel_rfl) (by kernel_rfl) (by kernel_rfl) (fun _ _ _ h => h) (Or.inl ⟨by rfl, ?hc1⟩) HS0.out ?rc1
  case hc1 => intro W hSW; obtain ⟨_, _, _, _, _, _⟩ := hSW; go_simp; first | done | with_reducible rfl
  try simp only [Act.put, List.setIfInBounds_toArray, List.set_cons_zero, List.set_cons_succ]
  refine wpAnyM_take (i := 2) (v := ?vc2) rfl (by kernel_rfl) (by kernel_rfl) (by decide) (by kernel_rfl) (by kernel_rfl) (by kernel_rfl) (fun _ _ _ h => h) (Or.inl ⟨by rfl, ?hc2⟩) HS0.out ?rc2
  case hc2 => intro W hSW; obtain ⟨_, _, _, _, _, _⟩ := hSW; go_simp; first | done | with_reducible rfl
  try simp only [Act.put, List.setIfInBounds_toArray, List.set_cons_zero, List.set_cons_succ]
  refine wpAnyM_take (i := 3) (v := ?vc3) rfl (by kernel_rfl) (by kernel_rfl) (by decide) (by kernel_rfl) (by kernel_rfl) (by kernel_rfl) (fun _ _ _ h => h) (Or.inl ⟨by rfl, ?hc3⟩) HS0.out ?rc3
  case hc3 => intro W hSW; obtain ⟨_, _, _, _, _, _⟩ := hSW; go_simp; first | done | with_reducible rfl
  try simp only [Act.put, List.setIfInBounds_toArray, List.set_cons_zero, List.set_cons_succ]
  refine wpAnyM_take (i := 5) (v := ?vc5) rfl (by kernel_rfl) (by kernel_rfl) (by decide) (by kernel_rfl) (by kernel_rfl) (by kernel_rfl) (fun _ _ _ h => h) (Or.inl ⟨by rfl, ?hc5⟩) HS0.out ?rc5
  case hc5 => intro W hSW; obtain ⟨_, _, _, _, _, _⟩ := hSW; go_simp; first | done | with_reducible rfl
  try simp only [Act.put, List.setIfInBounds_toArray, List.set_cons_zero, List.set_cons_succ]
  refine wpAnyM_take (i := 6) (v := ?vc6) rfl (by kernel_rfl) (by kernel_rfl) (by decide) (by kernel_rfl) (by kernel_rfl) (by kernel_rfl) (fun _ _ _ h => h) (Or.inl ⟨by rfl, ?hc6⟩) HS0.out ?rc6
  case hc6 => intro W hSW; obtain ⟨_, _, _, _, _, _⟩ := hSW; go_simp; first | done | with_reducible rfl
  try simp only [Act.put, List.setIfInBounds_toArray, List.set_cons_zero, List.set_cons_succ]
  refine wpAnyM_take (i := 7) (v := ?vc7) rfl (by kernel_rfl) (by kernel_rfl) (by decide) (by kernel_rfl) (by kernel_rfl) (by kernel_rfl) (fun _ _ _ h => h) (Or.inl ⟨by rfl, ?hc7⟩) HS0.out ?rc7
  case hc7 => intro W hSW; obtain ⟨_, _, _, _, _, _⟩ := hSW; go_simp; first | done | with_reducible rfl
  try simp only [Act.put, List.setIfInBounds_toArray, List.set_cons_zero, List.set_cons_succ]
  refine wpAnyM_take (i := 8) (v := ?vc8) rfl (by kernel_rfl) (by kernel_rfl) (by decide) (by kernel_rfl) (by kernel_rfl) (by kernel_rfl) (fun _ _ _ h => h) (Or.inl ⟨by rfl, ?hc8⟩) HS0.out ?rc8
  case hc8 => intro W hSW; obtain ⟨_, _, _, _, _, _⟩ := hSW; go_simp; first | done | with_reducible rfl
  try simp only [Act.put, List.setIfInBounds_toArray, List.set_cons_zero, List.set_cons_succ]
  refine wpAnyM_take (i := 10) (v := ?vc10) rfl (by kernel_rfl) (by kernel_rfl) (by decide) (by kernel_rfl) (by kernel_rfl) (by kernel_rfl) (fun _ _ _ h => h) (Or.inl ⟨by rfl, ?hc10⟩) HS0.out ?rc10
  case hc10 => intro W hSW; obtain ⟨_, _, _, _, _, _⟩ := hSW; go_simp; first | done | with_reducible rfl
  try simp only [Act.put, List.setIfInBounds_toArray, List.set_cons_zero, List.set_cons_succ]
  refine wpAnyM_take (i := 11) (v := ?vc11) rfl (by kernel_rfl) (by kernel_rfl) (by decide) (by kernel_rfl) (by kernel_rfl) (by kernel_rfl) (fun _ _ _ h => h) (Or.inl ⟨by rfl, ?hc11⟩) HS0.out ?rc11
  case hc11 => intro W hSW; obtain ⟨_, _, _, _, _, _⟩ := hSW; go_simp; first | done | with_reducible rfl
  try simp only [Act.put, List.setIfInBounds_toArray, List.set_cons_zero, List.set_cons_succ]
  refine wpAnyM_take (i := 12) (v := ?vc12) rfl (by kernel_rfl) (by kernel_rfl) (by decide) (by kernel_rfl) (by kernel_rfl) (by kernel_rfl) (fun _ _ _ h => h) (Or.inl ⟨by rfl, ?hc12⟩) HS0.out ?rc12
  case hc12 => intro W hSW; obtain ⟨_, _, _, _, _, _⟩ := hSW; go_simp; first | done | with_reducible rfl
  try simp only [Act.put, List.setIfInBounds_toArray, List.set_cons_zero, List.set_cons_succ]
  refine wpAnyM_take (i := 13) (v := ?vc13) rfl (by kernel_rfl) (by kernel_rfl) (by decide) (by kernel_rfl) (by kernel_rfl) (by kernel_rfl) (fun _ _ _ h => h) (Or.inl ⟨by rfl, ?hc13⟩) HS0.out ?rc13
  case hc13 => intro W hSW; obtain ⟨_, _, _, _, _, _⟩ := hSW; go_simp; first | done | with_reducible rfl
  try simp only [Act.put, List.setIfInBounds_toArray, List.set_cons_zero, List.set_cons_succ]
  refine wpAnyM_take (i := 14) (v := ?vc14) rfl (by kernel_rfl) (by kernel_rfl) (by decide) (by kernel_rfl) (by kernel_rfl) (by kernel_rfl) (fun _ _ _ h => h) (Or.inl ⟨by rfl, ?hc14⟩) HS0.out ?rc14
  case hc14 => intro W hSW; obtain ⟨_, _, _, _, _, _⟩ := hSW; go_simp; first | done | with_reducible rfl
  try simp only [Act.put, List.setIfInBounds_toArray, List.set_cons_zero, List.set_cons_succ]
  refine wpAnyM_take (i := 15) (v := ?vc15) rfl (by kernel_rfl) (by kernel_rfl) (by decide) (by kernel_rfl) (by kernel_rfl) (by kernel_rfl) (fun _ _ _ h => h) (Or.inl ⟨by rfl, ?hc15⟩) HS0.out ?rc15
  case hc15 => intro W hSW; obtain ⟨_, _, _, _, _, _⟩ := hSW; go_simp; first | done | with_reducible rfl
  try simp only [Act.put, List.setIfInBounds_toArray, List.set_cons_zero, List.set_cons_succ]
  refine wpAnyM_take (i := 16) (v := ?vc16) rfl (by kernel_rfl) (by kernel_rfl) (by decide) (by kernel_rfl) (by kernel_rfl) (by kernel_rfl) (fun _ _ _ h => h) (Or.inl ⟨by rfl, ?hc16⟩) HS0.out ?rc16
  case hc16 => intro W hSW; obtain ⟨_, _, _, _, _, _⟩ := hSW; go_simp; first | done | with_reducible rfl
  try simp only [Act.put, List.setIfInBounds_toArray, List.set_cons_zero, List.set_cons_succ]
  refine wpAnyM_take (i := 17) (v := ?vc17) rfl (by kernel_rfl) (by kernel_rfl) (by decide) (by kernel_rfl) (by kernel_rfl) (by kernel_rfl) (fun _ _ _ h => h) (Or.inl ⟨by rfl, ?hc17⟩) HS0.out ?rc17
  case hc17 => intro W hSW; obtain ⟨_, _, _, _, _, _⟩ := hSW; go_simp; first | done | with_reducible rfl
  try simp only [Act.put, List.setIfInBounds_toArray, List.set_cons_zero, List.set_cons_succ]
  refine wpAnyM_take (i := 19) (v := ?vc19) rfl (by kernel_rfl) (by kernel_rfl) (by decide) (by kernel_rfl) (by kernel_rfl) (by kernel_rfl) (fun _ _ _ h => h) (Or.inl ⟨by rfl, ?hc19⟩) HS0.out ?rc19
  case hc19 => intro W hSW; obtain ⟨_, _, _, _, _, _⟩ := hSW; go_simp; first | done | with_reducible rfl
  try simp only [Act.put, List.setIfInBounds_toArray, List.set_cons_zero, List.set_cons_succ]
  refine wpAnyM_take (i := 20) (v := ?vc20) rfl (by kernel_rfl) (by kernel_rfl) (by decide) (by kernel_rfl) (by kernel_rfl) (by kernel_rfl) (fun _ _ _ h => h) (Or.inl ⟨by rfl, ?hc20⟩) HS0.out ?rc20
  case hc20 => intro W hSW; obtain ⟨_, _, _, _, _, _⟩ := hSW; go_simp; first | done | with_reducible rfl
  try simp only [Act.put, List.setIfInBounds_toArray, List.set_cons_zero, List.set_cons_succ]
  refine wpAnyM_take (i := 21) (v := ?vc21) rfl (by kernel_rfl) (by kernel_rfl) (by decide) (by kernel_rfl) (by kernel_rfl) (by kernel_rfl) (fun _ _ _ h => h) (Or.inl ⟨by rfl, ?hc21⟩) HS0.out ?rc21
  case hc21 => intro W hSW; obtain ⟨_, _, _, _, _, _⟩ := hSW; go_simp; first | done | with_reducible rfl
  try simp only [Act.put, List.setIfInBounds_toArray, List.set_cons_zero, List.set_cons_succ]
  refine wpAnyM_take (i := 22) (v := ?vc22) rfl (by kernel_rfl) (by kernel_rfl) (by decide) (by kernel_rfl) (by kernel_rfl) (by kernel_rfl) (fun _ _ _ h => h) (Or.inl ⟨by rfl, ?hc22⟩) HS0.out ?rc22
  case hc22 => intro W hSW; obtain ⟨_, _, _, _, _, _⟩ := hSW; go_simp; first | done | with_reducible rfl
  try simp only [Act.put, List.setIfInBounds_toArray, List.set_cons_zero, List.set_cons_succ]
  refine wpAnyM_one (i := 4) (by kernel_rfl) rfl (by rfl) ?_
  go_simp
  refine Calls.mono (HCB.out _ HB0.out) ?_
  rintro e w1 ⟨v1, rfl, ⟨g1, i1, e1, rfl, hg1, k1, l1, m1⟩, hb1⟩
  have HG1 := Lib.hid hg1
  have HM1 : Hid (w.heap.size ≤ g1 ∧ w.heap.size ≤ i1 ∧ w.heap.size ≤ e1) := Lib.hid ⟨Nat.le_trans HB0.out.size k1, Nat.le_trans HB0.out.size l1, Nat.le_trans HB0.out.size m1⟩
  have HB1 : Hid (Below w.heap.size w w1) := Lib.hid (HB0.out.trans (hb1.mono HB0.out.size))
  clear hg1 k1 l1 m1 hb1
  refine ⟨HJ.out _ HB1.out, ?_⟩
  try simp only [Act.put, List.setIfInBounds_toArray, List.set_cons_zero, List.set_cons_succ]
  refine wpAnyM_one (i := 9) (by kernel_rfl) rfl (by rfl) ?_
  go_simp
  refine Calls.mono (HCG.out _ HB1.out) ?_
  rintro e w2 ⟨v2, rfl, ⟨g2, i2, e2, rfl, hg2, k2, l2, m2⟩, hb2⟩
  have HG2 := Lib.hid hg2
  have HM2 : Hid (w1.heap.size ≤ g2 ∧ w1.heap.size ≤ i2 ∧ w1.heap.size ≤ e2) := Lib.hid ⟨k2, l2, m2⟩
  have HB12 := Lib.hid hb2
  have HB2 : Hid (Below w.heap.size w w2) := Lib.hid (HB1.out.trans (hb2.mono HB1.out.size))
  clear hg2 k2 l2 m2 hb2
  refine ⟨HJ.out _ HB2.out, ?_⟩
  try simp only [Act.put, List.setIfInBounds_toArray, List.set_cons_zero, List.set_cons_succ]
  refine wpAnyM_one (i := 18) (by kernel_rfl) rfl (by rfl) ?_
  go_simp
  refine Calls.mono (HCO.out _ HB2.out) ?_
  rintro e w3 ⟨v3, rfl, hr3, hb3⟩
  have HR3 := Lib.hid hr3
  have HB23 := Lib.hid hb3
  have HB3 : Hid (Below w.heap.size w w3) := Lib.hid (HB2.out.trans (hb3.mono HB2.out.size))
  obtain ⟨a3, c3, rfl⟩ := hr3.shape
  clear hr3 hb3
  refine ⟨HJ.out _ HB3.out, ?_⟩
  try simp only [Act.put, List.setIfInBounds_toArray, List.set_cons_zero, List.set_cons_succ]
  refine wpAnyM_one (i := 23) (by kernel_rfl) rfl (by rfl) ?_
  go_simp
  refine Calls.mono (HCR.out _ HB3.out) ?_
  rintro e w4 ⟨v4, rfl, hr4, hb4⟩
  have HR4 := Lib.hid hr4
  have HB34 := Lib.hid hb4
  have HB4 : Hid (Below w.heap.size w w4) := Lib.hid (HB3.out.trans (hb4.mono HB3.out.size))
  obtain ⟨a4, c4, rfl⟩ := row_len5 hr4
  clear hr4 hb4
  refine ⟨HJ.out _ HB4.out, ?_⟩
  try simp only [Act.put, List.setIfInBounds_toArray, List.set_cons_zero, List.set_cons_succ]
  refine wpAnyM_one (i := 24) (by kernel_rfl) rfl rfl ?_
  go_simp
  refine ⟨HJ.out _ HB4.out, ?_⟩
  try simp only [Act.put, List.setIfInBounds_toArray, List.set_cons_zero, List.set_cons_succ]
  refine wpAnyM_one (i := 25) (by kernel_rfl) rfl rfl ?_
  go_simp
  refine ⟨HJ.out _ (HB4.out.alloc HB4.out.size _), ?_⟩
  try simp only [Act.put, List.setIfInBounds_toArray, List.set_cons_zero, List.set_cons_succ]
  refine wpAnyM_one (i := 26) (by kernel_rfl) rfl rfl ?_
  go_simp
  refine ⟨HJ.out _ (HB4.out.alloc HB4.out.size _), ?_⟩
  try simp only [Act.put, List.setIfInBounds_toArray, List.set_cons_zero, List.set_cons_succ]
  refine wpAnyM_done (by kernel_rfl) ?_ _
  obtain ⟨W5, hW5⟩ : ∃ W5, W5 = w4.alloc (.cells #[.pointer (some ⟨g1, 0, none⟩), .pointer (some ⟨g2, 0, none⟩), .int .i64 L.floor.t, .int .i64 L.floor.r, .slice a3 L.ops.length c3, .slice a4 L.ops.length c4] 132) := ⟨_, rfl⟩
  rw [← hW5]
  have hb45 : Below w4.heap.size w4 W5 := by rw [hW5]; exact (Below.refl _ _).alloc (Nat.le_refl _) _
  have hbx : W5.heap[w4.heap.size]? = some (.cells #[.pointer (some ⟨g1, 0, none⟩), .pointer (some ⟨g2, 0, none⟩), .int .i64 L.floor.t, .int .i64 L.floor.r, .slice a3 L.ops.length c3, .slice a4 L.ops.length c4] 132 (0, 0)) := by rw [hW5]; exact World.alloc_heap_new _ _
  have hf : LogCp w.heap.size B W5 w4.heap.size g2 i2 e2 L := by
    have s1 := HB1.out.size
    have s2 := HB12.out.size
    have s3 := HB23.out.size
    have s4 := HB34.out.size
    have m1 := HM1.out
    have m2 := HM2.out
    have l1 := HG1.out.lt
    have l2 := HG2.out.lt
    have b24 : Below w2.heap.size w2 w4 := HB23.out.trans (HB34.out.mono s3)
    have b15 : Below w1.heap.size w1 W5 := HB12.out.trans ((b24.trans (hb45.mono (by omega))).mono s2)
    have b25 : Below w2.heap.size w2 W5 := b24.trans (hb45.mono (by omega))
    have b35 : Below w3.heap.size w3 W5 := HB34.out.trans (hb45.mono s4)
    exact ⟨⟨g1, i1, e1, _, _, rs, hbx, HG1.out.below b15, OpsRow.mono (OpsRow.kept HR3.out b35) (by omega), ownsRow_mono (ownsRow_keep HR4.out fun j _ hj => hb45.block j hj) (by omega),
      HRC.out.to fun _ _ _ _ _ hr => hr.kept fun j _ hj => (HB4.out.trans (hb45.mono HB4.out.size)).block j hj, by omega, by omega⟩, HG2.out.below b25, HOK.out, HSM.out, HFW.out, by omega, HBS.out.1⟩
  have HF := Lib.hid hf
  have HB5 : Hid (Below w.heap.size w W5) := Lib.hid (HB4.out.trans (hb45.mono HB4.out.size))
  clear hW5 hb45 hbx hf
  go_wp2
  go_ret
  exact ⟨_, _, _, _, rfl, HF.out, HB5.out⟩

end Go.Proofs.YtlokljaeknmdpaaGreat
