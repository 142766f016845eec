/-
  path.walker's step; condition: the graph is in order, a part is left. · path.Find; condition: the graph is in order.
-/
import Derived.Test.YtfbjiaedfmdcfaaGreatDoorKY27
import Derived.Deep.CutRange
/-! ## PathH -/
namespace Go.Proofs.YtfbjiaedfmdcfaaGreatDoor
open Go.RowKit Go.Shelf Go.Proofs

/-- behind a step -/
def Stepped (kb gb : Nat) (g : Gr) (s : Spot) (v : Value) (name : ByteArray) (r : List ByteArray) (k : Int) (w : World) (e : Ending) (w' : World) : Prop :=
  e = .returned (.int .i64 (g.stepWhy s)) ∧ Wk kb w w' ∧ (g.stepWhy s ≠ 0 → WkAt w' kb (some ⟨gb, 0, none⟩) s v k) ∧ (g.stepWhy s = 0 → ∃ v', WkAt w' kb (some ⟨gb, 0, none⟩) (g.stepTo s name) v' k ∧ TxIn kb w' v' r)

set_option maxRecDepth 100000 in
set_option maxHeartbeats 8000000 in
theorem step_any (kb gb : Nat) (s : Spot) (v : Value) (name : ByteArray) (r : List ByteArray) (k : Int) (g : Gr) (w0 w : World) (hR : Reads gb g w0) (h0 : Below w0.heap.size w0 w) (hkb : w0.heap.size ≤ kb) (hw : WkAt w kb (some ⟨gb, 0, none⟩) s v k) (hr : TxIn kb w v (name :: r)) :
    Calls Tryz.prog 62 #[.pointer (some ⟨kb, 0, none⟩)] w (Stepped kb gb g s v name r k w) := by
  have HB0 : Hid (Below w.heap.size w w) := Lib.hid (Below.refl _ _)
  have HG := Lib.hid (fun W (hW : Below w.heap.size w W) => (hR.below h0).get s.ino (g.got s.ino) (g.get s.ino).isSome W rfl rfl hW)
  have HR := Lib.hid hR
  have H0 := Lib.hid h0
  have HW := Lib.hid hw
  have HX := Lib.hid hr
  have HJ : Hid (∀ W, Below w.heap.size w W → W.cell? ⟨kb, 0, none⟩ = some (.pointer (some ⟨gb, 0, none⟩)) ∧ W.cell? ⟨kb, 4, none⟩ = some (.int .i64 s.ino.t) ∧ W.cell? ⟨kb, 5, none⟩ = some (.int .i64 s.ino.r)) := Lib.hid fun W hW => by
    obtain ⟨c0, c1, c2, c3, c4, c5, c6, c7, c8⟩ := (hw.below hW).cells
    exact ⟨c0, c4, c5⟩
  have hlt := hw.lt
  have HWHY : Hid (g.stepWhy s = if !s.there then 3 else if (g.got s.ino).kind != 1 then 6 else 0) := Lib.hid rfl
  generalize g.got s.ino = i at HG HWHY
  generalize (g.get s.ino).isSome = b at HG
  clear hR hw h0 hr
  go_enter Tryz.func62, Tryz.ntmps62
  go_upto_region 1 with fail
  go_cut [3, 4] from 11 to 23 (fun s3 s4 wx => ∃ ib, s3 = .pointer (some ⟨ib, 0, none⟩) ∧ s4 = .bool b ∧ Aside (Below w.heap.size w wx) ∧ Aside (wx.heap[ib]? = some (.cells #[.int .i64 i.id.t, .int .i64 i.id.r, .int .i64 i.kind, .int .i64 i.links, .int .i64 i.mode, .string i.data] 28)) ∧ Aside (w.heap.size ≤ ib))
  case first =>
    refine wp_region_M [] (S := (fun W : World => W.cell? ⟨kb, 0, none⟩ = some (.pointer (some ⟨gb, 0, none⟩)) ∧ W.cell? ⟨kb, 4, none⟩ = some (.int .i64 s.ino.t) ∧ W.cell? ⟨kb, 5, none⟩ = some (.int .i64 s.ino.r))) (by kernel_rfl) ?_
    refine wpAnyM_takeD (i := 0) 12 (v := ?va1) rfl rfl (by kernel_rfl) (by kernel_rfl) (by decide) (by kernel_rfl) (by kernel_rfl) (by kernel_rfl) (fun _ _ _ h => h) (Or.inl ⟨by rfl, ?ha1⟩) (HJ.out _ HB0.out.drew) ?ra1
    case ha1 => intro W hSW; obtain ⟨_, _, _⟩ := hSW; go_simp; first | done | with_reducible rfl
    try simp only [Act.put, List.setIfInBounds_toArray, List.set_cons_zero, List.set_cons_succ]
    refine wpAnyM_takeD (i := 1) 13 (v := ?va2) rfl rfl (by kernel_rfl) (by kernel_rfl) (by decide) (by kernel_rfl) (by kernel_rfl) (by kernel_rfl) (fun _ _ _ h => h) (Or.inl ⟨by rfl, ?ha2⟩) (HJ.out _ HB0.out.drew) ?ra2
    case ha2 => intro W hSW; obtain ⟨_, _, _⟩ := hSW; go_simp; first | done | with_reducible rfl
    try simp only [Act.put, List.setIfInBounds_toArray, List.set_cons_zero, List.set_cons_succ]
    refine wpAnyM_takeD (i := 2) 14 (v := ?va3) rfl rfl (by kernel_rfl) (by kernel_rfl) (by decide) (by kernel_rfl) (by kernel_rfl) (by kernel_rfl) (fun _ _ _ h => h) (Or.inl ⟨by rfl, ?ha3⟩) (HJ.out _ HB0.out.drew) ?ra3
    case ha3 => intro W hSW; obtain ⟨_, _, _⟩ := hSW; go_simp; first | done | with_reducible rfl
    try simp only [Act.put, List.setIfInBounds_toArray, List.set_cons_zero, List.set_cons_succ]
    refine wpAnyM_takeD (i := 3) 15 (v := ?va4) rfl rfl (by kernel_rfl) (by kernel_rfl) (by decide) (by kernel_rfl) (by kernel_rfl) (by kernel_rfl) (fun _ _ _ h => h) (Or.inl ⟨by rfl, ?ha4⟩) (HJ.out _ HB0.out.drew) ?ra4
    case ha4 => intro W hSW; obtain ⟨_, _, _⟩ := hSW; go_simp; first | done | with_reducible rfl
    try simp only [Act.put, List.setIfInBounds_toArray, List.set_cons_zero, List.set_cons_succ]
    refine wpAnyM_takeD (i := 4) 16 (v := ?va5) rfl rfl (by kernel_rfl) (by kernel_rfl) (by decide) (by kernel_rfl) (by kernel_rfl) (by kernel_rfl) (fun _ _ _ h => h) (Or.inl ⟨by rfl, ?ha5⟩) (HJ.out _ HB0.out.drew) ?ra5
    case ha5 => intro W hSW; obtain ⟨_, _, _⟩ := hSW; go_simp; first | done | with_reducible rfl
    try simp only [Act.put, List.setIfInBounds_toArray, List.set_cons_zero, List.set_cons_succ]
    refine wpAnyM_takeD (i := 5) 17 (v := ?va6) rfl rfl (by kernel_rfl) (by kernel_rfl) (by decide) (by kernel_rfl) (by kernel_rfl) (by kernel_rfl) (fun _ _ _ h => h) (Or.inl ⟨by rfl, ?ha6⟩) (HJ.out _ HB0.out.drew) ?ra6
    case ha6 => intro W hSW; obtain ⟨_, _, _⟩ := hSW; go_simp; first | done | with_reducible rfl
    try simp only [Act.put, List.setIfInBounds_toArray, List.set_cons_zero, List.set_cons_succ]
    refine wpAnyM_takeD (i := 6) 18 (v := ?va7) rfl rfl (by kernel_rfl) (by kernel_rfl) (by decide) (by kernel_rfl) (by kernel_rfl) (by kernel_rfl) (fun _ _ _ h => h) (Or.inl ⟨by rfl, ?ha7⟩) (HJ.out _ HB0.out.drew) ?ra7
    case ha7 => intro W hSW; obtain ⟨_, _, _⟩ := hSW; go_simp; first | done | with_reducible rfl
    try simp only [Act.put, List.setIfInBounds_toArray, List.set_cons_zero, List.set_cons_succ]
    refine wpAnyM_takeD (i := 7) 19 (v := ?va8) rfl rfl (by kernel_rfl) (by kernel_rfl) (by decide) (by kernel_rfl) (by kernel_rfl) (by kernel_rfl) (fun _ _ _ h => h) (Or.inl ⟨by rfl, ?ha8⟩) (HJ.out _ HB0.out.drew) ?ra8
    case ha8 => intro W hSW; obtain ⟨_, _, _⟩ := hSW; go_simp; first | done | with_reducible rfl
    try simp only [Act.put, List.setIfInBounds_toArray, List.set_cons_zero, List.set_cons_succ]
    refine wpAnyM_takeD (i := 8) 20 (v := ?va9) rfl rfl (by kernel_rfl) (by kernel_rfl) (by decide) (by kernel_rfl) (by kernel_rfl) (by kernel_rfl) (fun _ _ _ h => h) (Or.inl ⟨by rfl, ?ha9⟩) (HJ.out _ HB0.out.drew) ?ra9
    case ha9 => intro W hSW; obtain ⟨_, _, _⟩ := hSW; go_simp; first | done | with_reducible rfl
    try simp only [Act.put, List.setIfInBounds_toArray, List.set_cons_zero, List.set_cons_succ]
    refine wpAnyM_two (i := 9) (j := 13) (by kernel_rfl) rfl rfl rfl rfl ?_ ?_
    · go_simp
      refine Calls.mono (HG.out _ (by exact HB0.out.drew)) ?_
      rintro e w1 ⟨rfl, hb1⟩
      have HB1 : Hid (Below w.heap.size w w1) := Lib.hid (HB0.out.drew.trans (hb1.mono HB0.out.drew.size))
      clear hb1
      refine ⟨HJ.out _ (HB1.out), ?_⟩
      try simp only [Act.put, List.setIfInBounds_toArray, List.set_cons_zero, List.set_cons_succ]
      refine wpAnyM_takeD (i := 10) 11 (v := ?va10) rfl rfl (by kernel_rfl) (by kernel_rfl) (by decide) (by kernel_rfl) (by kernel_rfl) (by kernel_rfl) (fun _ _ _ h => h) (Or.inl ⟨by rfl, ?ha10⟩) (HJ.out _ (HB1.out)) ?ra10
      case ha10 => intro W hSW; obtain ⟨_, _, _⟩ := hSW; go_simp; first | done | with_reducible rfl
      try simp only [Act.put, List.setIfInBounds_toArray, List.set_cons_zero, List.set_cons_succ]
      refine wpAnyM_takeD (i := 11) 22 (v := ?va11) rfl rfl (by kernel_rfl) (by kernel_rfl) (by decide) (by kernel_rfl) (by kernel_rfl) (by kernel_rfl) (fun _ _ _ h => h) (Or.inl ⟨by rfl, ?ha11⟩) (HJ.out _ (HB1.out)) ?ra11
      case ha11 => intro W hSW; obtain ⟨_, _, _⟩ := hSW; go_simp; first | done | with_reducible rfl
      try simp only [Act.put, List.setIfInBounds_toArray, List.set_cons_zero, List.set_cons_succ]
      refine wpAnyM_takeD (i := 12) 23 (v := ?va12) rfl rfl (by kernel_rfl) (by kernel_rfl) (by decide) (by kernel_rfl) (by kernel_rfl) (by kernel_rfl) (fun _ _ _ h => h) (Or.inl ⟨by rfl, ?ha12⟩) (HJ.out _ (HB1.out)) ?ra12
      case ha12 => intro W hSW; obtain ⟨_, _, _⟩ := hSW; go_simp; first | done | with_reducible rfl
      try simp only [Act.put, List.setIfInBounds_toArray, List.set_cons_zero, List.set_cons_succ]
      refine wpAnyM_one (i := 13) (by kernel_rfl) rfl rfl ?_
      go_simp
      refine ⟨HJ.out _ ((HB1.out.alloc HB1.out.size _)), ?_⟩
      try simp only [Act.put, List.setIfInBounds_toArray, List.set_cons_zero, List.set_cons_succ]
      refine wpAnyM_one (i := 14) (by kernel_rfl) rfl rfl ?_
      go_simp
      refine ⟨HJ.out _ ((HB1.out.alloc HB1.out.size _)), ?_⟩
      try simp only [Act.put, List.setIfInBounds_toArray, List.set_cons_zero, List.set_cons_succ]
      refine wpAnyM_one (i := 15) (by kernel_rfl) rfl rfl ?_
      go_simp
      refine ⟨HJ.out _ ((HB1.out.alloc HB1.out.size _)), ?_⟩
      try simp only [Act.put, List.setIfInBounds_toArray, List.set_cons_zero, List.set_cons_succ]
      refine wpAnyM_done (by kernel_rfl) ?_ _
      go_wp2_with fail
      go_meet
      case rel => exact ⟨w1.heap.size, rfl, rfl, (show Aside _ from (HB1.out.alloc HB1.out.size _)), (show Aside _ from World.alloc_heap_new w1 _), (show Aside _ from HB1.out.size)⟩
    · go_simp
      refine ⟨by first | exact HJ.out _ (HB0.out) | exact HJ.out _ ((HB0.out.alloc HB0.out.size _)), ?_⟩
      try simp only [Act.put, List.setIfInBounds_toArray, List.set_cons_zero, List.set_cons_succ]
      refine wpAnyM_one (i := 9) (by kernel_rfl) rfl rfl ?_
      go_simp
      refine Calls.mono (HG.out _ (by exact (HB0.out.alloc HB0.out.size _).drew)) ?_
      rintro e w1 ⟨rfl, hb1⟩
      have HB1 : Hid (Below w.heap.size w w1) := Lib.hid ((HB0.out.alloc HB0.out.size _).drew.trans (hb1.mono (HB0.out.alloc HB0.out.size _).drew.size))
      have hr0 : w1.heap[w.heap.size]? = some (.cells #[.int .i64 0, .int .i64 0, .int .i64 0, .int .i64 0, .int .i64 0, .string ⟨#[]⟩] 28) := (hb1.block w.heap.size (by show w.heap.size < (w.alloc _).heap.size; simp)).trans (World.alloc_heap_new w _)
      clear hb1
      refine ⟨HJ.out _ (HB1.out), ?_⟩
      try simp only [Act.put, List.setIfInBounds_toArray, List.set_cons_zero, List.set_cons_succ]
      refine wpAnyM_takeD (i := 10) 11 (v := ?va13) rfl rfl (by kernel_rfl) (by kernel_rfl) (by decide) (by kernel_rfl) (by kernel_rfl) (by kernel_rfl) (fun _ _ _ h => h) (Or.inl ⟨by rfl, ?ha13⟩) (HJ.out _ (HB1.out)) ?ra13
      case ha13 => intro W hSW; obtain ⟨_, _, _⟩ := hSW; go_simp; first | done | with_reducible rfl
      try simp only [Act.put, List.setIfInBounds_toArray, List.set_cons_zero, List.set_cons_succ]
      refine wpAnyM_takeD (i := 11) 22 (v := ?va14) rfl rfl (by kernel_rfl) (by kernel_rfl) (by decide) (by kernel_rfl) (by kernel_rfl) (by kernel_rfl) (fun _ _ _ h => h) (Or.inl ⟨by rfl, ?ha14⟩) (HJ.out _ (HB1.out)) ?ra14
      case ha14 => intro W hSW; obtain ⟨_, _, _⟩ := hSW; go_simp; first | done | with_reducible rfl
      try simp only [Act.put, List.setIfInBounds_toArray, List.set_cons_zero, List.set_cons_succ]
      refine wpAnyM_takeD (i := 12) 23 (v := ?va15) rfl rfl (by kernel_rfl) (by kernel_rfl) (by decide) (by kernel_rfl) (by kernel_rfl) (by kernel_rfl) (fun _ _ _ h => h) (Or.inl ⟨by rfl, ?ha15⟩) (HJ.out _ (HB1.out)) ?ra15
      case ha15 => intro W hSW; obtain ⟨_, _, _⟩ := hSW; go_simp; first | done | with_reducible rfl
      try simp only [Act.put, List.setIfInBounds_toArray, List.set_cons_zero, List.set_cons_succ]
      have q0 := cell_atW hr0 0 _ rfl
      have q1 := cell_atW hr0 1 _ rfl
      have q2 := cell_atW hr0 2 _ rfl
      have q3 := cell_atW hr0 3 _ rfl
      have q4 := cell_atW hr0 4 _ rfl
      have q5 := cell_atW hr0 5 _ rfl
      have p0 := frozen_atW hr0 0
      have p1 := frozen_atW hr0 1
      have p2 := frozen_atW hr0 2
      have p3 := frozen_atW hr0 3
      have p4 := frozen_atW hr0 4
      have p5 := frozen_atW hr0 5
      refine wpAnyM_one (i := 14) (by kernel_rfl) rfl rfl ?_
      go_simp
      obtain ⟨V, hV⟩ : ∃ V, V = ((((((w1.setCell ⟨w.heap.size, 0, none⟩ (.int .i64 i.id.t)).setCell ⟨w.heap.size, 1, none⟩ (.int .i64 i.id.r)).setCell ⟨w.heap.size, 2, none⟩ (.int .i64 i.kind)).setCell ⟨w.heap.size, 3, none⟩ (.int .i64 i.links)).setCell ⟨w.heap.size, 4, none⟩ (.int .i64 i.mode)).setCell ⟨w.heap.size, 5, none⟩ (.string i.data)) := ⟨_, rfl⟩
      try rw [← hV]
      have hv : V.heap[w.heap.size]? = some (.cells #[.int .i64 i.id.t, .int .i64 i.id.r, .int .i64 i.kind, .int .i64 i.links, .int .i64 i.mode, .string i.data] 28) := by rw [hV]; exact heap_setCell_atW (heap_setCell_atW (heap_setCell_atW (heap_setCell_atW (heap_setCell_atW (heap_setCell_atW (hr0) 0 _) 1 _) 2 _) 3 _) 4 _) 5 _
      have HBV : Hid (Below w.heap.size w V) := Lib.hid (by rw [hV]; exact ((((((HB1.out).setCell (p := ⟨w.heap.size, 0, none⟩) (Nat.le_refl _) _).setCell (p := ⟨w.heap.size, 1, none⟩) (Nat.le_refl _) _).setCell (p := ⟨w.heap.size, 2, none⟩) (Nat.le_refl _) _).setCell (p := ⟨w.heap.size, 3, none⟩) (Nat.le_refl _) _).setCell (p := ⟨w.heap.size, 4, none⟩) (Nat.le_refl _) _).setCell (p := ⟨w.heap.size, 5, none⟩) (Nat.le_refl _) _)
      clear hV hr0 q0 p0 q1 p1 q2 p2 q3 p3 q4 p4 q5 p5
      refine ⟨by first | exact HJ.out _ (HB1.out) | exact HJ.out _ (HBV.out), ?_⟩
      try simp only [Act.put, List.setIfInBounds_toArray, List.set_cons_zero, List.set_cons_succ]
      refine wpAnyM_one (i := 15) (by kernel_rfl) rfl rfl ?_
      go_simp
      refine ⟨HJ.out _ (HBV.out), ?_⟩
      try simp only [Act.put, List.setIfInBounds_toArray, List.set_cons_zero, List.set_cons_succ]
      refine wpAnyM_done (by kernel_rfl) ?_ _
      go_wp2_with fail
      go_meet
      case rel => exact ⟨w.heap.size, rfl, rfl, (show Aside _ from HBV.out), (show Aside _ from hv), (show Aside _ from (Nat.le_refl _))⟩
  case rest =>
    obtain ⟨ib, rfl, rfl, hB, hI, hib⟩ := hcut
    obtain ⟨rb, off, rc, rfl, hrc, hrm, hrl, hrx⟩ : ∃ rb off rc, v = .slice (some ⟨rb, off, none⟩) (name :: r).length rc ∧ (name :: r).length ≤ rc ∧ rc ≤ maxLen ∧ rb < w.heap.size ∧ ∀ j, j < (name :: r).length → w.cell? ⟨rb, off + j, none⟩ = some (.string (name :: r)[j]!) := by
      rcases HX.out.1 with ⟨_, h⟩ | ⟨_, _, _, h⟩ | h
      · cases h
      · cases h
      · exact h
    have hrk : rb ≠ kb := HX.out.2 _ _ _ rfl
    have x0 : w.cell? ⟨rb, off, none⟩ = some (.string name) := hrx 0 (by simp)
    have HRX := Lib.hid hrx
    have hrl0 := hrl
    have x0 := (hB.out.cell (p := ⟨rb, off, none⟩) hrl).trans x0
    have hrl1 : rb < wc.heap.size := Nat.lt_of_lt_of_le hrl hB.out.size
    have hlt1 : kb < wc.heap.size := Nat.lt_of_lt_of_le hlt hB.out.size
    have hi2 := cell_atW hI.out 2 _ rfl
    obtain ⟨c0, c1, c2, c3, c4, c5, c6, c7, c8⟩ := (HW.out.below hB.out).cells
    obtain ⟨f1, f2, f3, f4, f5, f6, f7, f8⟩ := (HW.out.below hB.out).fr
    have HBC := Lib.hid hB.out
    have hrcx := hrc
    clear hrx hI hB
    have hln : (0 : Int) < ((name :: r).length : Int) := by simp
    cases hth : s.there with
    | false =>
      rw [hth] at c6
      have HY : Hid (g.stepWhy s = 3) := Lib.hid (by rw [HWHY.out, hth]; rfl)
      clear hth
      go_wp2
      go_ret
      unfold Stepped
      rw [HY.out]
      exact ⟨rfl, Wk.of_below HBC.out, fun _ => HW.out.below HBC.out, fun h => by cases h⟩
    | true =>
      rw [hth] at c6
      by_cases hk1 : i.kind = 1
      case neg =>
        have hkn : (i.kind != 1) = true := by simpa using hk1
        have HY : Hid (g.stepWhy s = 6) := Lib.hid (by rw [HWHY.out, hth, hkn]; rfl)
        clear hth hk1
        go_wp2
        go_ret
        unfold Stepped
        rw [HY.out]
        exact ⟨rfl, Wk.of_below HBC.out, fun _ => HW.out.below HBC.out, fun h => by cases h⟩
      case pos =>
        have hkn : (i.kind != 1) = false := by simpa using hk1
        have HY : Hid (g.stepWhy s = 0) := Lib.hid (by rw [HWHY.out, hth, hkn]; rfl)
        clear hth hk1
        go_upto_region 6 with fail
        go_region_held3 (fun W : World => W.cell? ⟨kb, 4, none⟩ = some (.int .i64 s.ino.t) ∧ W.cell? ⟨kb, 5, none⟩ = some (.int .i64 s.ino.r) ∧ W.cell? ⟨kb, 7, none⟩ = some (.slice (some ⟨rb, off, none⟩) (name :: r).length rc) ∧ W.cell? ⟨rb, off, none⟩ = some (.string name)) (go_keep) (fail)
        have hrc1 : (1 : Int) ≤ ((name :: r).length : Int) := by rw [List.length_cons]; omega
        have hrc2 : ((name :: r).length : Int) ≤ (rc : Int) := by omega
        obtain ⟨wa, hwa⟩ : ∃ wa, wa = wc := ⟨_, rfl⟩
        subst hwa
        go_upto_region 7 with fail
        go_cut [] from 46 to 53 (fun wx => ∃ a' n' c', Aside (WkAt wx kb (some ⟨gb, 0, none⟩) s (.slice a' n' c') k) ∧ Aside (TxIn kb wx (.slice a' n' c') r) ∧ Aside (wx.heap[wa.heap.size]? = some (.cells #[.int .i64 s.ino.t, .int .i64 s.ino.r] 26)) ∧ Aside (Wk kb w wx))
        case first =>
          have HWK : Hid (∀ v' : Value, Wk kb w ((wa.setCell ⟨kb, 7, none⟩ v').alloc (.cells #[.int .i64 s.ino.t, .int .i64 s.ino.r] 26)).drew ∧ WkAt ((wa.setCell ⟨kb, 7, none⟩ v').alloc (.cells #[.int .i64 s.ino.t, .int .i64 s.ino.r] 26)).drew kb (some ⟨gb, 0, none⟩) s v' k ∧ ((wa.setCell ⟨kb, 7, none⟩ v').alloc (.cells #[.int .i64 s.ino.t, .int .i64 s.ino.r] 26)).drew.heap[wa.heap.size]? = some (.cells #[.int .i64 s.ino.t, .int .i64 s.ino.r] 26)) := Lib.hid fun v' =>
            ⟨((((Wk.of_below HBC.out).set 7 v').alloc _).drew), ((HW.out.below HBC.out).rest v').below (((Below.refl _ _).alloc (Nat.le_refl _) _).drew), by
              have := World.alloc_heap_new (wa.setCell ⟨kb, 7, none⟩ v') (.cells #[.int .i64 s.ino.t, .int .i64 s.ino.r] 26)
              rw [World.size_setCell] at this
              exact this⟩
          by_cases hc1 : rc = 1
          · subst hc1
            have hr0 : r = [] := List.eq_nil_of_length_eq_zero (by rw [List.length_cons] at hrcx; omega)
            go_wp2_with fail
            go_meet
            case rel => exact ⟨_, _, _, (show Aside _ from (HWK.out _).2.1), (show Aside _ from ⟨.inr (.inl ⟨_, _, by first | rfl | (rw [hr0]; rfl), hr0⟩), fun ad m c e => by cases e; exact hrk⟩), (show Aside _ from (HWK.out _).2.2), (show Aside _ from (HWK.out _).1)⟩
          · go_wp2_with fail
            go_meet
            case rel => exact ⟨_, _, _, (show Aside _ from (HWK.out _).2.1), (show Aside _ from ⟨.inr (.inr ⟨rb, off + 1, _, rfl, by rw [List.length_cons] at hrcx; omega, by omega, by have := HBC.out.size; show rb < ((wa.setCell _ _).alloc _).heap.size; simp only [World.size_alloc, World.size_setCell]; omega, fun j hj => by
                have h := HRX.out (j + 1) (by simp; omega)
                rw [show off + (j + 1) = off + 1 + j by omega] at h
                have h2 : (name :: r)[j + 1]! = r[j]! := by simp
                rw [h2] at h
                exact ((HWK.out _).1.cell hrl0 hrk).trans h⟩), fun ad m c e => by cases e; exact hrk⟩), (show Aside _ from (HWK.out _).2.2), (show Aside _ from (HWK.out _).1)⟩
        case rest =>
          obtain ⟨a', n', c', hwk, htx, hst, hwk1⟩ := hcut
          have HWC := Lib.hid hwk.out
          have HTC := Lib.hid htx.out
          have HSC := Lib.hid hst.out
          have HKC := Lib.hid hwk1.out
          have HBc : Hid (Below wc.heap.size wc wc) := Lib.hid (Below.refl _ _)
          have HRc : Hid (Reads gb g wc) := Lib.hid (HR.out.below (H0.out.trans (HKC.out.below hkb H0.out.size)))
          have HJc : Hid (∀ W, Below wc.heap.size wc W → W.cell? ⟨kb, 0, none⟩ = some (.pointer (some ⟨gb, 0, none⟩)) ∧ W.cell? ⟨wa.heap.size, 0, none⟩ = some (.int .i64 s.ino.t) ∧ W.cell? ⟨wa.heap.size, 1, none⟩ = some (.int .i64 s.ino.r)) := Lib.hid fun W hW => by
            have h1 := (hW.block _ (Array.getElem?_eq_some_iff.1 HSC.out).1).trans HSC.out
            exact ⟨(HWC.out.below hW).cells.1, cell_atW h1 0 _ rfl, cell_atW h1 1 _ rfl⟩
          have hlz1 : kb < wc.heap.size := HWC.out.lt
          have hlz2 : wa.heap.size < wc.heap.size := (Array.getElem?_eq_some_iff.1 HSC.out).1
          have ht : name.toList = name.data.toList := ByteArray.toList_eq name
          clear hwk htx hst hwk1 c0 c1 c2 c3 c4 c5 c6 c7 c8 f1 f2 f3 f4 f5 f6 f7 f8 x0 hi2 hrc hrl hrl1 hlt1 hrcx hln hrc1 hrc2
          by_cases hu : name.data.toList = [46, 46]
          · have hn : name.toList = [46, 46] := by rw [ht]; exact hu
            have HST : Hid (g.stepTo s name = ⟨⟨0, 0⟩, ⟨#[]⟩, (g.parent s.ino).getD ⟨0, 0⟩, true⟩) := Lib.hid (by unfold Gr.stepTo; rw [if_pos hu])
            have HP := Lib.hid (fun W (hW : Below wc.heap.size wc W) => HRc.out.parent s.ino _ _ W rfl rfl hW)
            generalize (g.parent s.ino).getD ⟨0, 0⟩ = q at *
            generalize (g.parent s.ino).isSome = qb at *
            clear ht hu
            go_upto_region 9 with fail
            go_cut [7, 8] from 56 to 64 (fun s7 s8 wx => ∃ ib, s7 = .pointer (some ⟨ib, 0, none⟩) ∧ s8 = .bool qb ∧ Aside (Below wc.heap.size wc wx) ∧ Aside (wx.heap[ib]? = some (.cells #[.int .i64 q.t, .int .i64 q.r] 26)) ∧ Aside (wc.heap.size ≤ ib))
            case first =>
              refine wp_region_M [] (S := (fun W : World => W.cell? ⟨kb, 0, none⟩ = some (.pointer (some ⟨gb, 0, none⟩)) ∧ W.cell? ⟨wa.heap.size, 0, none⟩ = some (.int .i64 s.ino.t) ∧ W.cell? ⟨wa.heap.size, 1, none⟩ = some (.int .i64 s.ino.r))) (by kernel_rfl) ?_
              refine wpAnyM_takeD (i := 0) 57 (v := ?va16) rfl rfl (by kernel_rfl) (by kernel_rfl) (by decide) (by kernel_rfl) (by kernel_rfl) (by kernel_rfl) (fun _ _ _ h => h) (Or.inl ⟨by rfl, ?ha16⟩) (HJc.out _ HBc.out.drew) ?ra16
              case ha16 => intro W hSW; obtain ⟨_, _, _⟩ := hSW; go_simp; first | done | with_reducible rfl
              try simp only [Act.put, List.setIfInBounds_toArray, List.set_cons_zero, List.set_cons_succ]
              refine wpAnyM_takeD (i := 1) 58 (v := ?va17) rfl rfl (by kernel_rfl) (by kernel_rfl) (by decide) (by kernel_rfl) (by kernel_rfl) (by kernel_rfl) (fun _ _ _ h => h) (Or.inl ⟨by rfl, ?ha17⟩) (HJc.out _ HBc.out.drew) ?ra17
              case ha17 => intro W hSW; obtain ⟨_, _, _⟩ := hSW; go_simp; first | done | with_reducible rfl
              try simp only [Act.put, List.setIfInBounds_toArray, List.set_cons_zero, List.set_cons_succ]
              refine wpAnyM_takeD (i := 2) 59 (v := ?va18) rfl rfl (by kernel_rfl) (by kernel_rfl) (by decide) (by kernel_rfl) (by kernel_rfl) (by kernel_rfl) (fun _ _ _ h => h) (Or.inl ⟨by rfl, ?ha18⟩) (HJc.out _ HBc.out.drew) ?ra18
              case ha18 => intro W hSW; obtain ⟨_, _, _⟩ := hSW; go_simp; first | done | with_reducible rfl
              try simp only [Act.put, List.setIfInBounds_toArray, List.set_cons_zero, List.set_cons_succ]
              refine wpAnyM_takeD (i := 3) 60 (v := ?va19) rfl rfl (by kernel_rfl) (by kernel_rfl) (by decide) (by kernel_rfl) (by kernel_rfl) (by kernel_rfl) (fun _ _ _ h => h) (Or.inl ⟨by rfl, ?ha19⟩) (HJc.out _ HBc.out.drew) ?ra19
              case ha19 => intro W hSW; obtain ⟨_, _, _⟩ := hSW; go_simp; first | done | with_reducible rfl
              try simp only [Act.put, List.setIfInBounds_toArray, List.set_cons_zero, List.set_cons_succ]
              refine wpAnyM_takeD (i := 4) 61 (v := ?va20) rfl rfl (by kernel_rfl) (by kernel_rfl) (by decide) (by kernel_rfl) (by kernel_rfl) (by kernel_rfl) (fun _ _ _ h => h) (Or.inl ⟨by rfl, ?ha20⟩) (HJc.out _ HBc.out.drew) ?ra20
              case ha20 => intro W hSW; obtain ⟨_, _, _⟩ := hSW; go_simp; first | done | with_reducible rfl
              try simp only [Act.put, List.setIfInBounds_toArray, List.set_cons_zero, List.set_cons_succ]
              refine wpAnyM_two (i := 5) (j := 9) (by kernel_rfl) rfl rfl rfl rfl ?_ ?_
              · go_simp
                refine Calls.mono (HP.out _ (by exact HBc.out.drew)) ?_
                rintro e w1 ⟨rfl, hb1⟩
                have HB1 : Hid (Below wc.heap.size wc w1) := Lib.hid (HBc.out.drew.trans (hb1.mono HBc.out.drew.size))
                clear hb1
                refine ⟨HJc.out _ (HB1.out), ?_⟩
                try simp only [Act.put, List.setIfInBounds_toArray, List.set_cons_zero, List.set_cons_succ]
                refine wpAnyM_takeD (i := 6) 56 (v := ?va21) rfl rfl (by kernel_rfl) (by kernel_rfl) (by decide) (by kernel_rfl) (by kernel_rfl) (by kernel_rfl) (fun _ _ _ h => h) (Or.inl ⟨by rfl, ?ha21⟩) (HJc.out _ (HB1.out)) ?ra21
                case ha21 => intro W hSW; obtain ⟨_, _, _⟩ := hSW; go_simp; first | done | with_reducible rfl
                try simp only [Act.put, List.setIfInBounds_toArray, List.set_cons_zero, List.set_cons_succ]
                refine wpAnyM_takeD (i := 7) 63 (v := ?va22) rfl rfl (by kernel_rfl) (by kernel_rfl) (by decide) (by kernel_rfl) (by kernel_rfl) (by kernel_rfl) (fun _ _ _ h => h) (Or.inl ⟨by rfl, ?ha22⟩) (HJc.out _ (HB1.out)) ?ra22
                case ha22 => intro W hSW; obtain ⟨_, _, _⟩ := hSW; go_simp; first | done | with_reducible rfl
                try simp only [Act.put, List.setIfInBounds_toArray, List.set_cons_zero, List.set_cons_succ]
                refine wpAnyM_takeD (i := 8) 64 (v := ?va23) rfl rfl (by kernel_rfl) (by kernel_rfl) (by decide) (by kernel_rfl) (by kernel_rfl) (by kernel_rfl) (fun _ _ _ h => h) (Or.inl ⟨by rfl, ?ha23⟩) (HJc.out _ (HB1.out)) ?ra23
                case ha23 => intro W hSW; obtain ⟨_, _, _⟩ := hSW; go_simp; first | done | with_reducible rfl
                try simp only [Act.put, List.setIfInBounds_toArray, List.set_cons_zero, List.set_cons_succ]
                refine wpAnyM_one (i := 9) (by kernel_rfl) rfl rfl ?_
                go_simp
                refine ⟨HJc.out _ ((HB1.out.alloc HB1.out.size _)), ?_⟩
                try simp only [Act.put, List.setIfInBounds_toArray, List.set_cons_zero, List.set_cons_succ]
                refine wpAnyM_one (i := 10) (by kernel_rfl) rfl rfl ?_
                go_simp
                refine ⟨HJc.out _ ((HB1.out.alloc HB1.out.size _)), ?_⟩
                try simp only [Act.put, List.setIfInBounds_toArray, List.set_cons_zero, List.set_cons_succ]
                refine wpAnyM_one (i := 11) (by kernel_rfl) rfl rfl ?_
                go_simp
                refine ⟨HJc.out _ ((HB1.out.alloc HB1.out.size _)), ?_⟩
                try simp only [Act.put, List.setIfInBounds_toArray, List.set_cons_zero, List.set_cons_succ]
                refine wpAnyM_done (by kernel_rfl) ?_ _
                go_wp2_with fail
                go_meet
                case rel => exact ⟨w1.heap.size, rfl, rfl, (show Aside _ from (HB1.out.alloc HB1.out.size _)), (show Aside _ from World.alloc_heap_new w1 _), (show Aside _ from HB1.out.size)⟩
              · go_simp
                refine ⟨by first | exact HJc.out _ (HBc.out) | exact HJc.out _ ((HBc.out.alloc HBc.out.size _)), ?_⟩
                try simp only [Act.put, List.setIfInBounds_toArray, List.set_cons_zero, List.set_cons_succ]
                refine wpAnyM_one (i := 5) (by kernel_rfl) rfl rfl ?_
                go_simp
                refine Calls.mono (HP.out _ (by exact (HBc.out.alloc HBc.out.size _).drew)) ?_
                rintro e w1 ⟨rfl, hb1⟩
                have HB1 : Hid (Below wc.heap.size wc w1) := Lib.hid ((HBc.out.alloc HBc.out.size _).drew.trans (hb1.mono (HBc.out.alloc HBc.out.size _).drew.size))
                have hr0 : w1.heap[wc.heap.size]? = some (.cells #[.int .i64 0, .int .i64 0] 26) := (hb1.block wc.heap.size (by show wc.heap.size < (wc.alloc _).heap.size; simp)).trans (World.alloc_heap_new wc _)
                clear hb1
                refine ⟨HJc.out _ (HB1.out), ?_⟩
                try simp only [Act.put, List.setIfInBounds_toArray, List.set_cons_zero, List.set_cons_succ]
                refine wpAnyM_takeD (i := 6) 56 (v := ?va24) rfl rfl (by kernel_rfl) (by kernel_rfl) (by decide) (by kernel_rfl) (by kernel_rfl) (by kernel_rfl) (fun _ _ _ h => h) (Or.inl ⟨by rfl, ?ha24⟩) (HJc.out _ (HB1.out)) ?ra24
                case ha24 => intro W hSW; obtain ⟨_, _, _⟩ := hSW; go_simp; first | done | with_reducible rfl
                try simp only [Act.put, List.setIfInBounds_toArray, List.set_cons_zero, List.set_cons_succ]
                refine wpAnyM_takeD (i := 7) 63 (v := ?va25) rfl rfl (by kernel_rfl) (by kernel_rfl) (by decide) (by kernel_rfl) (by kernel_rfl) (by kernel_rfl) (fun _ _ _ h => h) (Or.inl ⟨by rfl, ?ha25⟩) (HJc.out _ (HB1.out)) ?ra25
                case ha25 => intro W hSW; obtain ⟨_, _, _⟩ := hSW; go_simp; first | done | with_reducible rfl
                try simp only [Act.put, List.setIfInBounds_toArray, List.set_cons_zero, List.set_cons_succ]
                refine wpAnyM_takeD (i := 8) 64 (v := ?va26) rfl rfl (by kernel_rfl) (by kernel_rfl) (by decide) (by kernel_rfl) (by kernel_rfl) (by kernel_rfl) (fun _ _ _ h => h) (Or.inl ⟨by rfl, ?ha26⟩) (HJc.out _ (HB1.out)) ?ra26
                case ha26 => intro W hSW; obtain ⟨_, _, _⟩ := hSW; go_simp; first | done | with_reducible rfl
                try simp only [Act.put, List.setIfInBounds_toArray, List.set_cons_zero, List.set_cons_succ]
                have q0 := cell_atW hr0 0 _ rfl
                have q1 := cell_atW hr0 1 _ rfl
                have p0 := frozen_atW hr0 0
                have p1 := frozen_atW hr0 1
                refine wpAnyM_one (i := 10) (by kernel_rfl) rfl rfl ?_
                go_simp
                obtain ⟨V, hV⟩ : ∃ V, V = ((w1.setCell ⟨wc.heap.size, 0, none⟩ (.int .i64 q.t)).setCell ⟨wc.heap.size, 1, none⟩ (.int .i64 q.r)) := ⟨_, rfl⟩
                try rw [← hV]
                have hv : V.heap[wc.heap.size]? = some (.cells #[.int .i64 q.t, .int .i64 q.r] 26) := by rw [hV]; exact heap_setCell_atW (heap_setCell_atW (hr0) 0 _) 1 _
                have HBV : Hid (Below wc.heap.size wc V) := Lib.hid (by rw [hV]; exact ((HB1.out).setCell (p := ⟨wc.heap.size, 0, none⟩) (Nat.le_refl _) _).setCell (p := ⟨wc.heap.size, 1, none⟩) (Nat.le_refl _) _)
                clear hV hr0 q0 p0 q1 p1
                refine ⟨by first | exact HJc.out _ (HB1.out) | exact HJc.out _ (HBV.out), ?_⟩
                try simp only [Act.put, List.setIfInBounds_toArray, List.set_cons_zero, List.set_cons_succ]
                refine wpAnyM_one (i := 11) (by kernel_rfl) rfl rfl ?_
                go_simp
                refine ⟨HJc.out _ (HBV.out), ?_⟩
                try simp only [Act.put, List.setIfInBounds_toArray, List.set_cons_zero, List.set_cons_succ]
                refine wpAnyM_done (by kernel_rfl) ?_ _
                go_wp2_with fail
                go_meet
                case rel => exact ⟨wc.heap.size, rfl, rfl, (show Aside _ from HBV.out), (show Aside _ from hv), (show Aside _ from (Nat.le_refl _))⟩
            case rest =>
              obtain ⟨jb, rfl, rfl, hB2, hI2, hjb⟩ := hcut
              obtain ⟨wd, hwd⟩ : ∃ wd, wd = wc := ⟨_, rfl⟩
              subst hwd
              have y0 := cell_atW hI2.out 0 _ rfl
              have y1 := cell_atW hI2.out 1 _ rfl
              have HWD := Lib.hid (HWC.out.below hB2.out)
              have HKD := Lib.hid (HKC.out.trans (Wk.of_below hB2.out))
              have HTD := Lib.hid (HTC.out.wk (Wk.of_below hB2.out))
              obtain ⟨z0, z1⟩ : wd.cell? ⟨wa.heap.size, 0, none⟩ = some (.int .i64 s.ino.t) ∧ wd.cell? ⟨wa.heap.size, 1, none⟩ = some (.int .i64 s.ino.r) := (HJc.out _ hB2.out).2
              obtain ⟨c0, c1, c2, c3, c4, c5, c6, c7, c8⟩ := HWD.out.cells
              obtain ⟨f1, f2, f3, f4, f5, f6, f7, f8⟩ := HWD.out.fr
              clear hB2 hI2
              go_wp2
              go_ret
              unfold Stepped
              rw [HY.out, HST.out]
              exact ⟨rfl, HKD.out.trans (Wk.spot _ _ _ _ _ _ _ _), fun h => absurd rfl h, fun _ => ⟨_, HWD.out.spot ⟨⟨0, 0⟩, ⟨#[]⟩, q, true⟩, HTD.out.wk (Wk.spot _ _ _ _ _ _ _ _)⟩⟩
          · have hn : ¬ name.toList = [46, 46] := by rw [ht]; exact hu
            have hn2 : (name.toList == [46, 46]) = false := by rw [ht, beq_eq_false_iff_ne]; exact hu
            have HST : Hid (g.stepTo s name = ⟨s.ino, name, (g.look ⟨s.ino, name⟩).getD ⟨0, 0⟩, (g.look ⟨s.ino, name⟩).isSome⟩) := Lib.hid (by unfold Gr.stepTo; rw [if_neg hu])
            have HP := Lib.hid (fun W (hW : Below wc.heap.size wc W) => HRc.out.look ⟨s.ino, name⟩ _ _ W rfl rfl hW)
            generalize (g.look ⟨s.ino, name⟩).getD ⟨0, 0⟩ = q at *
            generalize (g.look ⟨s.ino, name⟩).isSome = qb at *
            clear ht hu
            go_upto_region 12 with fail
            go_cut [9, 10] from 70 to 79 (fun s9 s10 wx => ∃ ib, s9 = .pointer (some ⟨ib, 0, none⟩) ∧ s10 = .bool qb ∧ Aside (Below wc.heap.size wc wx) ∧ Aside (wx.heap[ib]? = some (.cells #[.int .i64 q.t, .int .i64 q.r] 26)) ∧ Aside (wc.heap.size ≤ ib))
            case first =>
              refine wp_region_M [] (S := (fun W : World => W.cell? ⟨kb, 0, none⟩ = some (.pointer (some ⟨gb, 0, none⟩)) ∧ W.cell? ⟨wa.heap.size, 0, none⟩ = some (.int .i64 s.ino.t) ∧ W.cell? ⟨wa.heap.size, 1, none⟩ = some (.int .i64 s.ino.r))) (by kernel_rfl) ?_
              refine wpAnyM_takeD (i := 0) 71 (v := ?va27) rfl rfl (by kernel_rfl) (by kernel_rfl) (by decide) (by kernel_rfl) (by kernel_rfl) (by kernel_rfl) (fun _ _ _ h => h) (Or.inl ⟨by rfl, ?ha27⟩) (HJc.out _ HBc.out.drew) ?ra27
              case ha27 => intro W hSW; obtain ⟨_, _, _⟩ := hSW; go_simp; first | done | with_reducible rfl
              try simp only [Act.put, List.setIfInBounds_toArray, List.set_cons_zero, List.set_cons_succ]
              refine wpAnyM_takeD (i := 1) 72 (v := ?va28) rfl rfl (by kernel_rfl) (by kernel_rfl) (by decide) (by kernel_rfl) (by kernel_rfl) (by kernel_rfl) (fun _ _ _ h => h) (Or.inl ⟨by rfl, ?ha28⟩) (HJc.out _ HBc.out.drew) ?ra28
              case ha28 => intro W hSW; obtain ⟨_, _, _⟩ := hSW; go_simp; first | done | with_reducible rfl
              try simp only [Act.put, List.setIfInBounds_toArray, List.set_cons_zero, List.set_cons_succ]
              refine wpAnyM_takeD (i := 2) 73 (v := ?va29) rfl rfl (by kernel_rfl) (by kernel_rfl) (by decide) (by kernel_rfl) (by kernel_rfl) (by kernel_rfl) (fun _ _ _ h => h) (Or.inl ⟨by rfl, ?ha29⟩) (HJc.out _ HBc.out.drew) ?ra29
              case ha29 => intro W hSW; obtain ⟨_, _, _⟩ := hSW; go_simp; first | done | with_reducible rfl
              try simp only [Act.put, List.setIfInBounds_toArray, List.set_cons_zero, List.set_cons_succ]
              refine wpAnyM_takeD (i := 3) 74 (v := ?va30) rfl rfl (by kernel_rfl) (by kernel_rfl) (by decide) (by kernel_rfl) (by kernel_rfl) (by kernel_rfl) (fun _ _ _ h => h) (Or.inl ⟨by rfl, ?ha30⟩) (HJc.out _ HBc.out.drew) ?ra30
              case ha30 => intro W hSW; obtain ⟨_, _, _⟩ := hSW; go_simp; first | done | with_reducible rfl
              try simp only [Act.put, List.setIfInBounds_toArray, List.set_cons_zero, List.set_cons_succ]
              refine wpAnyM_takeD (i := 4) 75 (v := ?va31) rfl rfl (by kernel_rfl) (by kernel_rfl) (by decide) (by kernel_rfl) (by kernel_rfl) (by kernel_rfl) (fun _ _ _ h => h) (Or.inl ⟨by rfl, ?ha31⟩) (HJc.out _ HBc.out.drew) ?ra31
              case ha31 => intro W hSW; obtain ⟨_, _, _⟩ := hSW; go_simp; first | done | with_reducible rfl
              try simp only [Act.put, List.setIfInBounds_toArray, List.set_cons_zero, List.set_cons_succ]
              refine wpAnyM_takeD (i := 5) 76 (v := ?va32) rfl rfl (by kernel_rfl) (by kernel_rfl) (by decide) (by kernel_rfl) (by kernel_rfl) (by kernel_rfl) (fun _ _ _ h => h) (Or.inl ⟨by rfl, ?ha32⟩) (HJc.out _ HBc.out.drew) ?ra32
              case ha32 => intro W hSW; obtain ⟨_, _, _⟩ := hSW; go_simp; first | done | with_reducible rfl
              try simp only [Act.put, List.setIfInBounds_toArray, List.set_cons_zero, List.set_cons_succ]
              refine wpAnyM_two (i := 6) (j := 10) (by kernel_rfl) rfl rfl rfl rfl ?_ ?_
              · go_simp
                refine Calls.mono (HP.out _ (by exact HBc.out.drew)) ?_
                rintro e w1 ⟨rfl, hb1⟩
                have HB1 : Hid (Below wc.heap.size wc w1) := Lib.hid (HBc.out.drew.trans (hb1.mono HBc.out.drew.size))
                clear hb1
                refine ⟨HJc.out _ (HB1.out), ?_⟩
                try simp only [Act.put, List.setIfInBounds_toArray, List.set_cons_zero, List.set_cons_succ]
                refine wpAnyM_takeD (i := 7) 70 (v := ?va33) rfl rfl (by kernel_rfl) (by kernel_rfl) (by decide) (by kernel_rfl) (by kernel_rfl) (by kernel_rfl) (fun _ _ _ h => h) (Or.inl ⟨by rfl, ?ha33⟩) (HJc.out _ (HB1.out)) ?ra33
                case ha33 => intro W hSW; obtain ⟨_, _, _⟩ := hSW; go_simp; first | done | with_reducible rfl
                try simp only [Act.put, List.setIfInBounds_toArray, List.set_cons_zero, List.set_cons_succ]
                refine wpAnyM_takeD (i := 8) 78 (v := ?va34) rfl rfl (by kernel_rfl) (by kernel_rfl) (by decide) (by kernel_rfl) (by kernel_rfl) (by kernel_rfl) (fun _ _ _ h => h) (Or.inl ⟨by rfl, ?ha34⟩) (HJc.out _ (HB1.out)) ?ra34
                case ha34 => intro W hSW; obtain ⟨_, _, _⟩ := hSW; go_simp; first | done | with_reducible rfl
                try simp only [Act.put, List.setIfInBounds_toArray, List.set_cons_zero, List.set_cons_succ]
                refine wpAnyM_takeD (i := 9) 79 (v := ?va35) rfl rfl (by kernel_rfl) (by kernel_rfl) (by decide) (by kernel_rfl) (by kernel_rfl) (by kernel_rfl) (fun _ _ _ h => h) (Or.inl ⟨by rfl, ?ha35⟩) (HJc.out _ (HB1.out)) ?ra35
                case ha35 => intro W hSW; obtain ⟨_, _, _⟩ := hSW; go_simp; first | done | with_reducible rfl
                try simp only [Act.put, List.setIfInBounds_toArray, List.set_cons_zero, List.set_cons_succ]
                refine wpAnyM_one (i := 10) (by kernel_rfl) rfl rfl ?_
                go_simp
                refine ⟨HJc.out _ ((HB1.out.alloc HB1.out.size _)), ?_⟩
                try simp only [Act.put, List.setIfInBounds_toArray, List.set_cons_zero, List.set_cons_succ]
                refine wpAnyM_one (i := 11) (by kernel_rfl) rfl rfl ?_
                go_simp
                refine ⟨HJc.out _ ((HB1.out.alloc HB1.out.size _)), ?_⟩
                try simp only [Act.put, List.setIfInBounds_toArray, List.set_cons_zero, List.set_cons_succ]
                refine wpAnyM_one (i := 12) (by kernel_rfl) rfl rfl ?_
                go_simp
                refine ⟨HJc.out _ ((HB1.out.alloc HB1.out.size _)), ?_⟩
                try simp only [Act.put, List.setIfInBounds_toArray, List.set_cons_zero, List.set_cons_succ]
                refine wpAnyM_done (by kernel_rfl) ?_ _
                go_wp2_with fail
                go_meet
                case rel => exact ⟨w1.heap.size, rfl, rfl, (show Aside _ from (HB1.out.alloc HB1.out.size _)), (show Aside _ from World.alloc_heap_new w1 _), (show Aside _ from HB1.out.size)⟩
              · go_simp
                refine ⟨by first | exact HJc.out _ (HBc.out) | exact HJc.out _ ((HBc.out.alloc HBc.out.size _)), ?_⟩
                try simp only [Act.put, List.setIfInBounds_toArray, List.set_cons_zero, List.set_cons_succ]
                refine wpAnyM_one (i := 6) (by kernel_rfl) rfl rfl ?_
                go_simp
                refine Calls.mono (HP.out _ (by exact (HBc.out.alloc HBc.out.size _).drew)) ?_
                rintro e w1 ⟨rfl, hb1⟩
                have HB1 : Hid (Below wc.heap.size wc w1) := Lib.hid ((HBc.out.alloc HBc.out.size _).drew.trans (hb1.mono (HBc.out.alloc HBc.out.size _).drew.size))
                have hr0 : w1.heap[wc.heap.size]? = some (.cells #[.int .i64 0, .int .i64 0] 26) := (hb1.block wc.heap.size (by show wc.heap.size < (wc.alloc _).heap.size; simp)).trans (World.alloc_heap_new wc _)
                clear hb1
                refine ⟨HJc.out _ (HB1.out), ?_⟩
                try simp only [Act.put, List.setIfInBounds_toArray, List.set_cons_zero, List.set_cons_succ]
                refine wpAnyM_takeD (i := 7) 70 (v := ?va36) rfl rfl (by kernel_rfl) (by kernel_rfl) (by decide) (by kernel_rfl) (by kernel_rfl) (by kernel_rfl) (fun _ _ _ h => h) (Or.inl ⟨by rfl, ?ha36⟩) (HJc.out _ (HB1.out)) ?ra36
                case ha36 => intro W hSW; obtain ⟨_, _, _⟩ := hSW; go_simp; first | done | with_reducible rfl
                try simp only [Act.put, List.setIfInBounds_toArray, List.set_cons_zero, List.set_cons_succ]
                refine wpAnyM_takeD (i := 8) 78 (v := ?va37) rfl rfl (by kernel_rfl) (by kernel_rfl) (by decide) (by kernel_rfl) (by kernel_rfl) (by kernel_rfl) (fun _ _ _ h => h) (Or.inl ⟨by rfl, ?ha37⟩) (HJc.out _ (HB1.out)) ?ra37
                case ha37 => intro W hSW; obtain ⟨_, _, _⟩ := hSW; go_simp; first | done | with_reducible rfl
                try simp only [Act.put, List.setIfInBounds_toArray, List.set_cons_zero, List.set_cons_succ]
                refine wpAnyM_takeD (i := 9) 79 (v := ?va38) rfl rfl (by kernel_rfl) (by kernel_rfl) (by decide) (by kernel_rfl) (by kernel_rfl) (by kernel_rfl) (fun _ _ _ h => h) (Or.inl ⟨by rfl, ?ha38⟩) (HJc.out _ (HB1.out)) ?ra38
                case ha38 => intro W hSW; obtain ⟨_, _, _⟩ := hSW; go_simp; first | done | with_reducible rfl
                try simp only [Act.put, List.setIfInBounds_toArray, List.set_cons_zero, List.set_cons_succ]
                have q0 := cell_atW hr0 0 _ rfl
                have q1 := cell_atW hr0 1 _ rfl
                have p0 := frozen_atW hr0 0
                have p1 := frozen_atW hr0 1
                refine wpAnyM_one (i := 11) (by kernel_rfl) rfl rfl ?_
                go_simp
                obtain ⟨V, hV⟩ : ∃ V, V = ((w1.setCell ⟨wc.heap.size, 0, none⟩ (.int .i64 q.t)).setCell ⟨wc.heap.size, 1, none⟩ (.int .i64 q.r)) := ⟨_, rfl⟩
                try rw [← hV]
                have hv : V.heap[wc.heap.size]? = some (.cells #[.int .i64 q.t, .int .i64 q.r] 26) := by rw [hV]; exact heap_setCell_atW (heap_setCell_atW (hr0) 0 _) 1 _
                have HBV : Hid (Below wc.heap.size wc V) := Lib.hid (by rw [hV]; exact ((HB1.out).setCell (p := ⟨wc.heap.size, 0, none⟩) (Nat.le_refl _) _).setCell (p := ⟨wc.heap.size, 1, none⟩) (Nat.le_refl _) _)
                clear hV hr0 q0 p0 q1 p1
                refine ⟨by first | exact HJc.out _ (HB1.out) | exact HJc.out _ (HBV.out), ?_⟩
                try simp only [Act.put, List.setIfInBounds_toArray, List.set_cons_zero, List.set_cons_succ]
                refine wpAnyM_one (i := 12) (by kernel_rfl) rfl rfl ?_
                go_simp
                refine ⟨HJc.out _ (HBV.out), ?_⟩
                try simp only [Act.put, List.setIfInBounds_toArray, List.set_cons_zero, List.set_cons_succ]
                refine wpAnyM_done (by kernel_rfl) ?_ _
                go_wp2_with fail
                go_meet
                case rel => exact ⟨wc.heap.size, rfl, rfl, (show Aside _ from HBV.out), (show Aside _ from hv), (show Aside _ from (Nat.le_refl _))⟩
            case rest =>
              obtain ⟨jb, rfl, rfl, hB2, hI2, hjb⟩ := hcut
              obtain ⟨wd, hwd⟩ : ∃ wd, wd = wc := ⟨_, rfl⟩
              subst hwd
              have y0 := cell_atW hI2.out 0 _ rfl
              have y1 := cell_atW hI2.out 1 _ rfl
              have HWD := Lib.hid (HWC.out.below hB2.out)
              have HKD := Lib.hid (HKC.out.trans (Wk.of_below hB2.out))
              have HTD := Lib.hid (HTC.out.wk (Wk.of_below hB2.out))
              obtain ⟨z0, z1⟩ : wd.cell? ⟨wa.heap.size, 0, none⟩ = some (.int .i64 s.ino.t) ∧ wd.cell? ⟨wa.heap.size, 1, none⟩ = some (.int .i64 s.ino.r) := (HJc.out _ hB2.out).2
              obtain ⟨c0, c1, c2, c3, c4, c5, c6, c7, c8⟩ := HWD.out.cells
              obtain ⟨f1, f2, f3, f4, f5, f6, f7, f8⟩ := HWD.out.fr
              clear hB2 hI2
              go_wp2
              go_ret
              unfold Stepped
              rw [HY.out, HST.out]
              exact ⟨rfl, HKD.out.trans (Wk.spot _ _ _ _ _ _ _ _), fun h => absurd rfl h, fun _ => ⟨_, HWD.out.spot ⟨s.ino, name, q, qb⟩, HTD.out.wk (Wk.spot _ _ _ _ _ _ _ _)⟩⟩
end Go.Proofs.YtfbjiaedfmdcfaaGreatDoor

/-! ## PathI -/
namespace Go.Proofs.YtfbjiaedfmdcfaaGreatDoor
open Go.RowKit Go.Shelf Go.Proofs

def Spot.v (s : Spot) : Value := .agg #[.int .i64 s.at_.t, .int .i64 s.at_.r, .string s.name, .int .i64 s.ino.t, .int .i64 s.ino.r, .bool s.there]

theorem results_cell_tmp {P : Program} {fn : Func} {p t : Tmp} {ty : TypeId} (h : fn.results = #[.cell p ty, .tmp t]) (tmps : Array Value) (w : World) (g : Nat) (t' : TypeId) (cs : Array Value) (fr : Nat × Nat) (d : TypeDesc)
    (hp : tmps.getD p undef = .pointer (some ⟨g, 0, none⟩)) (hg : w.heap[g]? = some (.cells cs t' fr))
    (hu : P.underlying ty = some d) (hd : (match d with | .struct _ | .array _ _ => true | _ => false) = true) (hi : (P.info? ty).map (·.size) = some cs.size) :
    (results fn tmps).run P w = .ok (.tuple #[.agg cs, tmps.getD t undef]) w := by
  have hp' : tmps[p]?.getD undef = .pointer (some ⟨g, 0, none⟩) := by simpa using hp
  simp [results, h, hp', asAddr, run_loadVar_row w g t' ty cs fr d hg hu hd hi]
theorem spotBox {w : World} {b : Nat} {s0 : Spot} (h : w.heap[b]? = some (.cells #[.int .i64 s0.at_.t, .int .i64 s0.at_.r, .string s0.name, .int .i64 s0.ino.t, .int .i64 s0.ino.r, .bool s0.there] 60 (0, 0))) (s : Spot) :
    ((((((w.setCell ⟨b, 0, none⟩ (.int .i64 s.at_.t)).setCell ⟨b, 1, none⟩ (.int .i64 s.at_.r)).setCell ⟨b, 2, none⟩ (.string s.name)).setCell ⟨b, 3, none⟩ (.int .i64 s.ino.t)).setCell ⟨b, 4, none⟩ (.int .i64 s.ino.r)).setCell ⟨b, 5, none⟩ (.bool s.there)).heap[b]? = some (.cells #[.int .i64 s.at_.t, .int .i64 s.at_.r, .string s.name, .int .i64 s.ino.t, .int .i64 s.ino.r, .bool s.there] 60 (0, 0)) :=
  heap_setCell_atW (heap_setCell_atW (heap_setCell_atW (heap_setCell_atW (heap_setCell_atW (heap_setCell_atW h 0 _) 1 _) 2 _) 3 _) 4 _) 5 _
theorem spotBelow {B b : Nat} {w w' : World} (h : Below B w w') (hb : B ≤ b) (a0 a1 a2 a3 a4 a5 : Value) :
    Below B w ((((((w'.setCell ⟨b, 0, none⟩ a0).setCell ⟨b, 1, none⟩ a1).setCell ⟨b, 2, none⟩ a2).setCell ⟨b, 3, none⟩ a3).setCell ⟨b, 4, none⟩ a4).setCell ⟨b, 5, none⟩ a5) :=
  (((((h.setCell (p := ⟨b, 0, none⟩) hb a0).setCell (p := ⟨b, 1, none⟩) hb a1).setCell (p := ⟨b, 2, none⟩) hb a2).setCell (p := ⟨b, 3, none⟩) hb a3).setCell (p := ⟨b, 4, none⟩) hb a4).setCell (p := ⟨b, 5, none⟩) hb a5

theorem follow_fin {g : Gr} {fol : Bool} {sp : Spot} {r : List ByteArray} {k : Nat} {d : ByteArray} {R : Spot × Int} (hl : (g.isLink sp && (fol || !r.isEmpty)) = true) (hd : (g.got sp.ino).data = d) (hgo : g.goes fol sp r k = R) :
    ((folErr k d) ≠ 0 → R = (spot0, folErr k d)) ∧
    ((folErr k d) = 0 → g.goes fol (startAt sp.at_ d) (partsOf d ++ r) (k + 1) = R ∧ k + 1 ≤ 40 ∧ fuelOf (partsOf d ++ r) (k + 1) < fuelOf r k) := by
  unfold folErr
  rw [Gr.goes_link hl, hd] at hgo
  by_cases h : 40 < k + 1
  · rw [if_pos h] at hgo
    rw [if_pos (show (40 : Int) < (k : Int) + 1 by omega)]
    exact ⟨fun _ => hgo.symm, fun h => by cases h⟩
  · rw [if_neg h] at hgo
    rw [if_neg (show ¬ (40 : Int) < (k : Int) + 1 by omega)]
    refine ⟨fun h2 => by rw [if_pos h2] at hgo; exact hgo.symm, fun h2 => ?_⟩
    rw [if_neg (by rw [h2]; simp)] at hgo
    exact ⟨hgo, by omega, fuel_link h2 h⟩

set_option maxRecDepth 100000 in
set_option maxHeartbeats 8000000 in
theorem find_any (gb : Nat) (g : Gr) (at_ : St) (p : ByteArray) (fol : Bool) (w : World) (hR : Reads gb g w) (hth : g.Thin) (hps : p.size ≤ 1000) :
    Calls Tryz.prog 31 #[.pointer (some ⟨gb, 0, none⟩), at_.v, .string p, .bool fol] w fun e w' => e = .returned (.tuple #[(g.findP at_ p fol).1.v, .int .i64 (g.findP at_ p fol).2]) ∧ Below w.heap.size w w' := by
  obtain ⟨W1, hW1⟩ : ∃ W1, W1 = ((w.alloc (.cells #[.int .i64 at_.t, .int .i64 at_.r] 26)).alloc (.cells #[.int .i64 0, .int .i64 0, .string ⟨#[]⟩, .int .i64 0, .int .i64 0, .bool false] 60)).alloc (.cells #[.pointer (some ⟨gb, 0, none⟩), .int .i64 0, .int .i64 0, .string ⟨#[]⟩, .int .i64 0, .int .i64 0, .bool false, .slice none 0 0, .int .i64 0] 104) := ⟨_, rfl⟩
  have HB1 : Hid (Below w.heap.size w W1) := Lib.hid (by rw [hW1]; exact (((Below.refl _ w).alloc (Nat.le_refl _) _).alloc (by simp) _).alloc (by simp only [World.size_alloc]; omega) _)
  have hs1 : W1.heap.size = w.heap.size + 1 + 1 + 1 := by rw [hW1]; simp
  have HK1 : Hid (WkAt W1 (w.heap.size + 1 + 1) (some ⟨gb, 0, none⟩) spot0 (.slice none 0 0) 0) := Lib.hid (by
    have := World.alloc_heap_new ((w.alloc (.cells #[.int .i64 at_.t, .int .i64 at_.r] 26)).alloc (.cells #[.int .i64 0, .int .i64 0, .string ⟨#[]⟩, .int .i64 0, .int .i64 0, .bool false] 60)) (.cells #[.pointer (some ⟨gb, 0, none⟩), .int .i64 0, .int .i64 0, .string ⟨#[]⟩, .int .i64 0, .int .i64 0, .bool false, .slice none 0 0, .int .i64 0] 104)
    rw [World.size_alloc, World.size_alloc, ← hW1] at this
    exact this)
  have HA1 : Hid (W1.heap[w.heap.size]? = some (.cells #[.int .i64 at_.t, .int .i64 at_.r] 26) ∧ W1.heap[w.heap.size + 1]? = some (.cells #[.int .i64 0, .int .i64 0, .string ⟨#[]⟩, .int .i64 0, .int .i64 0, .bool false] 60 (0, 0))) := Lib.hid (by
    rw [hW1]
    constructor
    · rw [Below.heap_alloc _ _ _ (by simp only [World.size_alloc]; omega), Below.heap_alloc _ _ _ (by simp)]
      exact World.alloc_heap_new w _
    · have := World.alloc_heap_new (w.alloc (.cells #[.int .i64 at_.t, .int .i64 at_.r] 26)) (.cells #[.int .i64 0, .int .i64 0, .string ⟨#[]⟩, .int .i64 0, .int .i64 0, .bool false] 60)
      rw [World.size_alloc] at this
      rw [Below.heap_alloc _ _ _ (by simp only [World.size_alloc]; omega)]
      exact this)
  have HBG := Lib.hid (begin_any (w.heap.size + 1 + 1) (some ⟨gb, 0, none⟩) spot0 (.slice none 0 0) [] 0 at_ p W1 hps HK1.out (TxIn.nil _ _) (by simp))
  have HGT := Lib.hid (fun W (hW : Below w.heap.size w W) => hR.get at_ _ _ W rfl rfl hW)
  have HR := Lib.hid hR
  have HTH := Lib.hid hth
  have HFP : Hid (g.findP at_ p fol = if splitWhy p ≠ 0 then (spot0, splitWhy p) else if !(g.get at_).isSome then (spot0, 3) else g.goes fol (startAt at_ p) (partsOf p) 0) := Lib.hid rfl
  generalize g.findP at_ p fol = R at *
  generalize g.got at_ = i at HGT
  generalize hb : (g.get at_).isSome = b at HGT HFP
  clear hR hth
  unfold St.v at HBG ⊢
  have hcs : splitWhy p ≠ 0 ∨ (splitWhy p = 0 ∧ b = false) ∨ (splitWhy p = 0 ∧ b = true) := by
    by_cases h : splitWhy p = 0
    · cases b <;> simp [h]
    · exact .inl h
  have HZP : Hid (splitWhy p = 0 → p.size ≤ 128) := Lib.hid fun h => (splitWhy_zero h).2.1
  generalize splitWhy p = z at HFP HBG hcs HZP
  rcases hcs with hz | ⟨rfl, rfl⟩ | ⟨rfl, rfl⟩
  · have HFR : Hid (R = (spot0, z)) := Lib.hid (by rw [HFP.out, if_pos hz])
    have hzb : (z == 0) = false := by simpa using hz
    have hzc : (z != 0) = true := by simpa using hz
    clear hz hb
    go_enter Tryz.func31, Tryz.ntmps31
    go_wp2_with fail
    go_step3
    go_wp2_with fail
    rw [← hW1]
    clear hW1
    refine Calls.mono HBG.out ?_
    rintro e w2 ⟨rfl, hw2, _, hz0⟩
    have HZ0 := Lib.hid hz0
    clear hz0
    have HW2 := Lib.hid hw2
    have hl0 : w.heap.size < W1.heap.size := by omega
    have hl1 : w.heap.size + 1 < W1.heap.size := by omega
    have ha0 : w2.heap[w.heap.size]? = some (.cells #[.int .i64 at_.t, .int .i64 at_.r] 26) := (hw2.block _ hl0 (by omega)).trans HA1.out.1
    have ha1 : w2.heap[w.heap.size + 1]? = some (.cells #[.int .i64 0, .int .i64 0, .string ⟨#[]⟩, .int .i64 0, .int .i64 0, .bool false] 60 (0, 0)) := (hw2.block _ hl1 (by omega)).trans HA1.out.2
    have HBW2 : Hid (Below w.heap.size w w2) := Lib.hid (HB1.out.trans (hw2.below (by omega) HB1.out.size))
    have x0 := cell_atW ha0 0 _ rfl
    have x1 := cell_atW ha0 1 _ rfl
    have HA2 := Lib.hid ha1
    have HW0 := Lib.hid hl1
    clear hw2 ha0 ha1
    go_wp2_with fail
    refine (HGT.out _ HBW2.out).mono ?_
    rintro e w3 ⟨rfl, hb3⟩
    have HN3 := Lib.hid hb3
    have HB3 := Lib.hid (HBW2.out.trans (hb3.mono HBW2.out.size))
    have ha3 : w3.heap[w.heap.size + 1]? = some (.cells #[.int .i64 0, .int .i64 0, .string ⟨#[]⟩, .int .i64 0, .int .i64 0, .bool false] 60 (0, 0)) := (hb3.block _ (Array.getElem?_eq_some_iff.1 HA2.out).1).trans HA2.out
    clear hb3
    go_wp2
    go_step3
    go_wp2
    refine wp_loop_rounds 1 ?_
    rw [rounds_succ]
    have q0 := cell_atW ha3 0 _ rfl
    have q1 := cell_atW ha3 1 _ rfl
    have q2 := cell_atW ha3 2 _ rfl
    have q3 := cell_atW ha3 3 _ rfl
    have q4 := cell_atW ha3 4 _ rfl
    have q5 := cell_atW ha3 5 _ rfl
    have p0 := frozen_atW ha3 0
    have p1 := frozen_atW ha3 1
    have p2 := frozen_atW ha3 2
    have p3 := frozen_atW ha3 3
    have p4 := frozen_atW ha3 4
    have p5 := frozen_atW ha3 5
    have hl3 : w.heap.size + 1 < w3.heap.size := (Array.getElem?_eq_some_iff.1 ha3).1
    have HA3 := Lib.hid ha3
    clear ha3
    go_wp2
    rw [Exit.noGoto_ret]
    refine bodyPost_ret (results_cell_tmp rfl _ _ (w.heap.size + 1) 60 _ _ _ rfl ((Below.heap_alloc _ _ _ (by simp only [World.size_setCell]; exact hl3)).trans (spotBox (s0 := spot0) HA3.out spot0)) Tryz.underlying60 rfl (by kernel_rfl)) rfl ?_
    rw [HFR.out]
    exact ⟨rfl, (spotBelow HB3.out (by omega) _ _ _ _ _ _).alloc (spotBelow HB3.out (by omega) _ _ _ _ _ _).size _⟩
  · have HFR : Hid (R = (spot0, 3)) := Lib.hid (by rw [HFP.out]; rfl)
    clear hb
    go_enter Tryz.func31, Tryz.ntmps31
    go_wp2_with fail
    go_step3
    go_wp2_with fail
    rw [← hW1]
    clear hW1
    refine Calls.mono HBG.out ?_
    rintro e w2 ⟨rfl, hw2, _, hz0⟩
    have HZ0 := Lib.hid hz0
    clear hz0
    have HW2 := Lib.hid hw2
    have hl0 : w.heap.size < W1.heap.size := by omega
    have hl1 : w.heap.size + 1 < W1.heap.size := by omega
    have ha0 : w2.heap[w.heap.size]? = some (.cells #[.int .i64 at_.t, .int .i64 at_.r] 26) := (hw2.block _ hl0 (by omega)).trans HA1.out.1
    have ha1 : w2.heap[w.heap.size + 1]? = some (.cells #[.int .i64 0, .int .i64 0, .string ⟨#[]⟩, .int .i64 0, .int .i64 0, .bool false] 60 (0, 0)) := (hw2.block _ hl1 (by omega)).trans HA1.out.2
    have HBW2 : Hid (Below w.heap.size w w2) := Lib.hid (HB1.out.trans (hw2.below (by omega) HB1.out.size))
    have x0 := cell_atW ha0 0 _ rfl
    have x1 := cell_atW ha0 1 _ rfl
    have HA2 := Lib.hid ha1
    have HW0 := Lib.hid hl1
    clear hw2 ha0 ha1
    go_wp2_with fail
    refine (HGT.out _ HBW2.out).mono ?_
    rintro e w3 ⟨rfl, hb3⟩
    have HN3 := Lib.hid hb3
    have HB3 := Lib.hid (HBW2.out.trans (hb3.mono HBW2.out.size))
    have ha3 : w3.heap[w.heap.size + 1]? = some (.cells #[.int .i64 0, .int .i64 0, .string ⟨#[]⟩, .int .i64 0, .int .i64 0, .bool false] 60 (0, 0)) := (hb3.block _ (Array.getElem?_eq_some_iff.1 HA2.out).1).trans HA2.out
    clear hb3
    go_wp2
    go_step3
    go_wp2
    refine wp_loop_rounds 1 ?_
    rw [rounds_succ]
    have q0 := cell_atW ha3 0 _ rfl
    have q1 := cell_atW ha3 1 _ rfl
    have q2 := cell_atW ha3 2 _ rfl
    have q3 := cell_atW ha3 3 _ rfl
    have q4 := cell_atW ha3 4 _ rfl
    have q5 := cell_atW ha3 5 _ rfl
    have p0 := frozen_atW ha3 0
    have p1 := frozen_atW ha3 1
    have p2 := frozen_atW ha3 2
    have p3 := frozen_atW ha3 3
    have p4 := frozen_atW ha3 4
    have p5 := frozen_atW ha3 5
    have hl3 : w.heap.size + 1 < w3.heap.size := (Array.getElem?_eq_some_iff.1 ha3).1
    have HA3 := Lib.hid ha3
    clear ha3
    go_wp2
    rw [Exit.noGoto_ret]
    refine bodyPost_ret (results_cell_tmp rfl _ _ (w.heap.size + 1) 60 _ _ _ rfl ((Below.heap_alloc _ _ _ (by simp only [World.size_setCell]; exact hl3)).trans (spotBox (s0 := spot0) HA3.out spot0)) Tryz.underlying60 rfl (by kernel_rfl)) rfl ?_
    rw [HFR.out]
    exact ⟨rfl, (spotBelow HB3.out (by omega) _ _ _ _ _ _).alloc (spotBelow HB3.out (by omega) _ _ _ _ _ _).size _⟩
  · have HFR : Hid (g.goes fol (startAt at_ p) (partsOf p) 0 = R) := Lib.hid (by rw [HFP.out]; rfl)
    have HPS := partsOf_len p
    have HSZ := HZP.out rfl
    clear HZP
    clear hb
    go_enter Tryz.func31, Tryz.ntmps31
    go_wp2_with fail
    go_step3
    go_wp2_with fail
    rw [← hW1]
    clear hW1
    refine Calls.mono HBG.out ?_
    rintro e w2 ⟨rfl, hw2, _, hz0⟩
    have HZ0 := Lib.hid hz0
    clear hz0
    have HW2 := Lib.hid hw2
    have hl0 : w.heap.size < W1.heap.size := by omega
    have hl1 : w.heap.size + 1 < W1.heap.size := by omega
    have ha0 : w2.heap[w.heap.size]? = some (.cells #[.int .i64 at_.t, .int .i64 at_.r] 26) := (hw2.block _ hl0 (by omega)).trans HA1.out.1
    have ha1 : w2.heap[w.heap.size + 1]? = some (.cells #[.int .i64 0, .int .i64 0, .string ⟨#[]⟩, .int .i64 0, .int .i64 0, .bool false] 60 (0, 0)) := (hw2.block _ hl1 (by omega)).trans HA1.out.2
    have HBW2 : Hid (Below w.heap.size w w2) := Lib.hid (HB1.out.trans (hw2.below (by omega) HB1.out.size))
    have x0 := cell_atW ha0 0 _ rfl
    have x1 := cell_atW ha0 1 _ rfl
    have HA2 := Lib.hid ha1
    have HW0 := Lib.hid hl1
    clear hw2 ha0 ha1
    go_wp2_with fail
    refine (HGT.out _ HBW2.out).mono ?_
    rintro e w3 ⟨rfl, hb3⟩
    have HN3 := Lib.hid hb3
    have HB3 := Lib.hid (HBW2.out.trans (hb3.mono HBW2.out.size))
    have ha3 : w3.heap[w.heap.size + 1]? = some (.cells #[.int .i64 0, .int .i64 0, .string ⟨#[]⟩, .int .i64 0, .int .i64 0, .bool false] 60 (0, 0)) := (hb3.block _ (Array.getElem?_eq_some_iff.1 HA2.out).1).trans HA2.out
    clear hb3
    go_wp2
    go_step3
    go_wp2
    obtain ⟨W4, hW4⟩ : ∃ W4, W4 = w3.alloc (.cells #[.int .i64 i.id.t, .int .i64 i.id.r, .int .i64 i.kind, .int .i64 i.links, .int .i64 i.mode, .string i.data] 28) := ⟨_, rfl⟩
    rw [← hW4]
    obtain ⟨v0, hk2, ht2⟩ := HZ0.out (by first | rfl | trivial)
    rw [List.append_nil] at ht2
    have hb4 : Below w2.heap.size w2 W4 := by rw [hW4]; exact HN3.out.alloc HN3.out.size _
    have HK4 := Lib.hid (hk2.below hb4)
    have HT4 := Lib.hid (ht2.wk (Wk.of_below hb4))
    have HB4 : Hid (Below w.heap.size w W4) := Lib.hid (HBW2.out.trans (hb4.mono HBW2.out.size))
    have HA4 : Hid (W4.heap[w.heap.size + 1]? = some (.cells #[.int .i64 0, .int .i64 0, .string ⟨#[]⟩, .int .i64 0, .int .i64 0, .bool false] 60 (0, 0))) := Lib.hid ((hb4.block _ (Array.getElem?_eq_some_iff.1 HA2.out).1).trans HA2.out)
    have hl4 : w.heap.size + 1 < W4.heap.size := (Array.getElem?_eq_some_iff.1 HA4.out).1
    have HL4 := Lib.hid hl4
    clear hW4 hk2 ht2 hb4 ha3 HZ0 HFP hl0 hl1 hl4 x0 x1
    go_loopg [11, 14, 15] (fuelOf (partsOf p) 0) (fun gg s11 s14 s15 wr => Aside (Wk (w.heap.size + 1 + 1) W4 wr) ∧ ((∃ e : Int, s11 = .int .i64 e ∧ e ≠ 0 ∧ Aside (R = (spot0, e))) ∨ (∃ (sp : Spot) (vr : Value) (r : List ByteArray) (k : Nat), s11 = .int .i64 0 ∧ Aside (WkAt wr (w.heap.size + 1 + 1) (some ⟨gb, 0, none⟩) sp vr k) ∧ Aside (TxIn (w.heap.size + 1 + 1) wr vr r) ∧ Aside (g.goes fol sp r k = R) ∧ fuelOf r k ≤ gg ∧ k ≤ 40 ∧ r.length ≤ 129 + k * 65)))
    case atStart => exact ⟨(show Aside _ from Wk.refl _ _), .inr ⟨startAt at_ p, v0, partsOf p, 0, rfl, (show Aside _ from HK4.out), (show Aside _ from HT4.out), (show Aside _ from HFR.out), Nat.le_refl _, by omega, by omega⟩⟩
    case round =>
      obtain ⟨hwk, ⟨e, rfl, he, hRe⟩ | ⟨sp, vr, r, k, rfl, hka, hta, hgo, hfu, hk40, hrl⟩⟩ := hrel
      · have HFE := Lib.hid hRe.out
        have heb : (e == 0) = false := by simpa using he
        have hec : (e != 0) = true := by simpa using he
        have HWK := Lib.hid hwk.out
        have ha : wr.heap[w.heap.size + 1]? = _ := (HWK.out.block _ HL4.out (by omega)).trans HA4.out
        have HBR : Hid (Below w.heap.size w wr) := Lib.hid (HB4.out.trans (HWK.out.below (by omega) HB4.out.size))
        have q0 := cell_atW ha 0 _ rfl
        have q1 := cell_atW ha 1 _ rfl
        have q2 := cell_atW ha 2 _ rfl
        have q3 := cell_atW ha 3 _ rfl
        have q4 := cell_atW ha 4 _ rfl
        have q5 := cell_atW ha 5 _ rfl
        have p0 := frozen_atW ha 0
        have p1 := frozen_atW ha 1
        have p2 := frozen_atW ha 2
        have p3 := frozen_atW ha 3
        have p4 := frozen_atW ha 4
        have p5 := frozen_atW ha 5
        clear hwk hRe he
        go_wp2
        rw [Exit.noGoto_ret]
        refine bodyPost_ret (results_cell_tmp rfl _ _ (w.heap.size + 1) 60 _ _ _ rfl (spotBox (s0 := spot0) ha spot0) Tryz.underlying60 rfl (by kernel_rfl)) rfl ?_
        rw [HFE.out]
        exact ⟨rfl, spotBelow HBR.out (by omega) _ _ _ _ _ _⟩
      · have HKR := Lib.hid hka.out
        have HTR := Lib.hid hta.out
        have HGO := Lib.hid hgo.out
        have HWK := Lib.hid hwk.out
        have HBR : Hid (Below w.heap.size w wr) := Lib.hid (HB4.out.trans (HWK.out.below (by omega) HB4.out.size))
        have HLK := Lib.hid (link_any (w.heap.size + 1 + 1) gb sp vr k g wr (HR.out.below HBR.out) HKR.out)
        have hdz : (g.got sp.ino).data.size ≤ 64 := HTH.out.got _
        clear hka hta hgo hwk
        obtain ⟨ra, rc, rfl⟩ := HTR.out.1.sl.len
        generalize hd : (g.got sp.ino).data = d at HLK hdz
        cases hl : g.isLink sp with
        | false =>
          rw [hl] at HLK
          cases r with
          | nil =>
            go_wp2_with (first
              | (go_at_call 60; refine HLK.out.mono ?_; rintro e w5 ⟨rfl, hb5⟩; have HK5 := Lib.hid (HKR.out.below hb5); have HT5 := Lib.hid (HTR.out.wk (Wk.of_below hb5)); have HW5 := Lib.hid (HWK.out.trans (Wk.of_below hb5)); have HB5 : Hid (Below w.heap.size w w5) := Lib.hid (HBR.out.trans (hb5.mono HBR.out.size)); obtain ⟨c0, c1, c2, c3, c4, c5, c6, c7, c8⟩ := (HKR.out.below hb5).cells; have ha := (HW5.out.block _ HL4.out (by omega)).trans HA4.out; have q0 := cell_atW ha 0 _ rfl; have q1 := cell_atW ha 1 _ rfl; have q2 := cell_atW ha 2 _ rfl; have q3 := cell_atW ha 3 _ rfl; have q4 := cell_atW ha 4 _ rfl; have q5 := cell_atW ha 5 _ rfl; have p0 := frozen_atW ha 0; have p1 := frozen_atW ha 1; have p2 := frozen_atW ha 2; have p3 := frozen_atW ha 3; have p4 := frozen_atW ha 4; have p5 := frozen_atW ha 5; have HA5 := Lib.hid ha; clear ha; clear hb5))
            rw [Exit.noGoto_ret]
            refine bodyPost_ret (results_cell_tmp rfl _ _ (w.heap.size + 1) 60 _ _ _ rfl (spotBox (s0 := spot0) HA5.out sp) Tryz.underlying60 rfl (by kernel_rfl)) rfl ?_
            rw [← HGO.out, Gr.goes_end (by rw [hl]; rfl)]
            exact ⟨rfl, spotBelow HB5.out (by omega) _ _ _ _ _ _⟩
          | cons name r =>
            have HSP := Lib.hid (fun W hB hK hT => step_any (w.heap.size + 1 + 1) gb sp (.slice ra (name :: r).length rc) name r k g w W HR.out hB (by omega) hK hT)
            go_wp2_with (first
              | (go_at_call 60; refine HLK.out.mono ?_; rintro e w5 ⟨rfl, hb5⟩; have HK5 := Lib.hid (HKR.out.below hb5); have HT5 := Lib.hid (HTR.out.wk (Wk.of_below hb5)); have HW5 := Lib.hid (HWK.out.trans (Wk.of_below hb5)); have HB5 : Hid (Below w.heap.size w w5) := Lib.hid (HBR.out.trans (hb5.mono HBR.out.size)); obtain ⟨c0, c1, c2, c3, c4, c5, c6, c7, c8⟩ := (HKR.out.below hb5).cells; clear hb5)
              | (go_at_call 62; refine (HSP.out _ HB5.out HK5.out HT5.out).mono ?_; intro e w6 hf6; obtain ⟨rfl, hw6, h61, h62⟩ := hf6; have HW6 := Lib.hid hw6; have H61 := Lib.hid h61; have H62 := Lib.hid h62; clear hw6 h61 h62))
            have hgs := HGO.out
            rw [Gr.goes_step hl] at hgs
            by_cases hx : g.stepWhy sp = 0
            · rw [if_neg (by rw [hx]; simp)] at hgs
              obtain ⟨v', hk', ht'⟩ := H62.out hx
              have hfs := fuel_step (name := name) (r := r) (k := k)
              go_roundg (fuelOf r k)
              case measure => omega
              case rel => exact ⟨(show Aside _ from HW5.out.trans HW6.out), .inr ⟨g.stepTo sp name, v', r, k, by rw [hx], (show Aside _ from hk'), (show Aside _ from ht'), (show Aside _ from hgs), Nat.le_refl _, hk40, by rw [List.length_cons] at hrl; omega⟩⟩
            · rw [if_pos hx] at hgs
              have hfp : 0 < fuelOf (name :: r) k := by unfold fuelOf; omega
              go_roundg 0
              case measure => omega
              case rel => exact ⟨(show Aside _ from HW5.out.trans HW6.out), .inl ⟨_, rfl, hx, (show Aside _ from hgs.symm)⟩⟩
        | true =>
          rw [hl] at HLK
          cases fol with
          | true =>
            have HFF := Lib.hid (follow_fin (g := g) (fol := true) (sp := sp) (r := r) (k := k) (by rw [hl]; rfl) hd HGO.out)
            have HFO := Lib.hid (fun W hK hT => follow_any (w.heap.size + 1 + 1) (some ⟨gb, 0, none⟩) sp (.slice ra (r).length rc) (r) k d W (by omega) hK hT (by omega) (by omega))
            go_wp2_with (first
              | (go_at_call 60; refine HLK.out.mono ?_; rintro e w5 ⟨rfl, hb5⟩; have HK5 := Lib.hid (HKR.out.below hb5); have HT5 := Lib.hid (HTR.out.wk (Wk.of_below hb5)); have HW5 := Lib.hid (HWK.out.trans (Wk.of_below hb5)); have HB5 : Hid (Below w.heap.size w w5) := Lib.hid (HBR.out.trans (hb5.mono HBR.out.size)); obtain ⟨c0, c1, c2, c3, c4, c5, c6, c7, c8⟩ := (HKR.out.below hb5).cells; clear hb5)
              | (go_at_call 61; refine (HFO.out _ HK5.out HT5.out).mono ?_; intro e w6 hf6; obtain ⟨rfl, hw6, h61, h62⟩ := hf6; have HW6 := Lib.hid hw6; have H61 := Lib.hid h61; have H62 := Lib.hid h62; clear hw6 h61 h62))
            by_cases hx : folErr k d = 0
            · obtain ⟨v', hk', ht'⟩ := H62.out hx
              obtain ⟨g1, g2, g3⟩ := HFF.out.2 hx
              have hpl := partsOf_len d
              go_roundg (fuelOf (partsOf d ++ r) (k + 1))
              case measure => omega
              case rel => exact ⟨(show Aside _ from HW5.out.trans HW6.out), .inr ⟨startAt sp.at_ d, v', partsOf d ++ r, k + 1, by first | exact congrArg (Value.int .i64) hx | rfl, (show Aside _ from hk'), (show Aside _ from ht'), (show Aside _ from g1), Nat.le_refl _, g2, by rw [List.length_append]; omega⟩⟩
            · have hfp : 0 < fuelOf (r) k := by unfold fuelOf; omega
              go_roundg 0
              case measure => omega
              case rel => exact ⟨(show Aside _ from HW5.out.trans HW6.out), .inl ⟨_, rfl, hx, (show Aside _ from HFF.out.1 hx)⟩⟩
          | false =>
            cases r with
            | nil =>
              go_wp2_with (first
                | (go_at_call 60; refine HLK.out.mono ?_; rintro e w5 ⟨rfl, hb5⟩; have HK5 := Lib.hid (HKR.out.below hb5); have HT5 := Lib.hid (HTR.out.wk (Wk.of_below hb5)); have HW5 := Lib.hid (HWK.out.trans (Wk.of_below hb5)); have HB5 : Hid (Below w.heap.size w w5) := Lib.hid (HBR.out.trans (hb5.mono HBR.out.size)); obtain ⟨c0, c1, c2, c3, c4, c5, c6, c7, c8⟩ := (HKR.out.below hb5).cells; have ha := (HW5.out.block _ HL4.out (by omega)).trans HA4.out; have q0 := cell_atW ha 0 _ rfl; have q1 := cell_atW ha 1 _ rfl; have q2 := cell_atW ha 2 _ rfl; have q3 := cell_atW ha 3 _ rfl; have q4 := cell_atW ha 4 _ rfl; have q5 := cell_atW ha 5 _ rfl; have p0 := frozen_atW ha 0; have p1 := frozen_atW ha 1; have p2 := frozen_atW ha 2; have p3 := frozen_atW ha 3; have p4 := frozen_atW ha 4; have p5 := frozen_atW ha 5; have HA5 := Lib.hid ha; clear ha; clear hb5))
              rw [Exit.noGoto_ret]
              refine bodyPost_ret (results_cell_tmp rfl _ _ (w.heap.size + 1) 60 _ _ _ rfl (spotBox (s0 := spot0) HA5.out sp) Tryz.underlying60 rfl (by kernel_rfl)) rfl ?_
              rw [← HGO.out, Gr.goes_end (by rw [hl]; rfl)]
              exact ⟨rfl, spotBelow HB5.out (by omega) _ _ _ _ _ _⟩
            | cons name r =>
              have HFF := Lib.hid (follow_fin (g := g) (fol := false) (sp := sp) (r := name :: r) (k := k) (by rw [hl]; rfl) hd HGO.out)
              have HFO := Lib.hid (fun W hK hT => follow_any (w.heap.size + 1 + 1) (some ⟨gb, 0, none⟩) sp (.slice ra (name :: r).length rc) (name :: r) k d W (by omega) hK hT (by omega) (by omega))
              go_wp2_with (first
                | (go_at_call 60; refine HLK.out.mono ?_; rintro e w5 ⟨rfl, hb5⟩; have HK5 := Lib.hid (HKR.out.below hb5); have HT5 := Lib.hid (HTR.out.wk (Wk.of_below hb5)); have HW5 := Lib.hid (HWK.out.trans (Wk.of_below hb5)); have HB5 : Hid (Below w.heap.size w w5) := Lib.hid (HBR.out.trans (hb5.mono HBR.out.size)); obtain ⟨c0, c1, c2, c3, c4, c5, c6, c7, c8⟩ := (HKR.out.below hb5).cells; clear hb5)
                | (go_at_call 61; refine (HFO.out _ HK5.out HT5.out).mono ?_; intro e w6 hf6; obtain ⟨rfl, hw6, h61, h62⟩ := hf6; have HW6 := Lib.hid hw6; have H61 := Lib.hid h61; have H62 := Lib.hid h62; clear hw6 h61 h62))
              by_cases hx : folErr k d = 0
              · obtain ⟨v', hk', ht'⟩ := H62.out hx
                obtain ⟨g1, g2, g3⟩ := HFF.out.2 hx
                have hpl := partsOf_len d
                go_roundg (fuelOf (partsOf d ++ name :: r) (k + 1))
                case measure => omega
                case rel => exact ⟨(show Aside _ from HW5.out.trans HW6.out), .inr ⟨startAt sp.at_ d, v', partsOf d ++ name :: r, k + 1, by first | exact congrArg (Value.int .i64) hx | rfl, (show Aside _ from hk'), (show Aside _ from ht'), (show Aside _ from g1), Nat.le_refl _, g2, by rw [List.length_append]; omega⟩⟩
              · have hfp : 0 < fuelOf (name :: r) k := by unfold fuelOf; omega
                go_roundg 0
                case measure => omega
                case rel => exact ⟨(show Aside _ from HW5.out.trans HW6.out), .inl ⟨_, rfl, hx, (show Aside _ from HFF.out.1 hx)⟩⟩
end Go.Proofs.YtfbjiaedfmdcfaaGreatDoor
