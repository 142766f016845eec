/-
  path.walker's link; condition: the graph is in order.
-/
import Derived.Test.YtfbjiaedfmdcfaaGreatDoorKY19
import Derived.Test.YtfbjiaedfmdcfaaGreatDoorKY26
/-! ## PathG -/
namespace Go.Proofs.YtfbjiaedfmdcfaaGreatDoor
open Go.RowKit Go.Shelf Go.Proofs

theorem below_drewN {B : Nat} {w w' : World} (h : Below B w w') (n : Nat) : Below B w (w'.drewN n) := ⟨h.os, h.tape, h.output, h.size, h.block⟩

set_option maxRecDepth 100000 in
set_option maxHeartbeats 4000000 in
theorem link_any (kb gb : Nat) (s : Spot) (v : Value) (k : Int) (g : Gr) (w : World) (hR : Reads gb g w) (hw : WkAt w kb (some ⟨gb, 0, none⟩) s v k) :
    Calls Tryz.prog 60 #[.pointer (some ⟨kb, 0, none⟩)] w fun e w' => e = .returned (.tuple #[.string (g.got s.ino).data, .bool (g.isLink s)]) ∧ Below w.heap.size w w' := by
  have HB0 : Hid (Below w.heap.size w w) := Lib.hid (Below.refl _ _)
  have HG := Lib.hid (fun W (hW : Below w.heap.size w W) => hR.get s.ino (g.got s.ino) (g.get s.ino).isSome W rfl rfl hW)
  have HJ : Hid (∀ W, Below w.heap.size w W → W.cell? ⟨kb, 0, none⟩ = some (.pointer (some ⟨gb, 0, none⟩)) ∧ W.cell? ⟨kb, 4, none⟩ = some (.int .i64 s.ino.t) ∧ W.cell? ⟨kb, 5, none⟩ = some (.int .i64 s.ino.r) ∧ W.cell? ⟨kb, 6, none⟩ = some (.bool s.there)) := Lib.hid fun W hW => by
    obtain ⟨c0, c1, c2, c3, c4, c5, c6, c7, c8⟩ := (hw.below hW).cells
    exact ⟨c0, c4, c5, c6⟩
  unfold Gr.isLink
  generalize g.got s.ino = i at HG ⊢
  generalize (g.get s.ino).isSome = b at HG ⊢
  have hlt := hw.lt
  clear hR hw
  obtain ⟨c0, c4, c5, c6⟩ := HJ.out w HB0.out
  generalize s.there = th at *
  have hbt : (b = true ∧ th = true) ∨ (b = true ∧ th = false) ∨ (b = false ∧ th = true) ∨ (b = false ∧ th = false) := by cases b <;> cases th <;> simp
  go_enter Tryz.func60, Tryz.ntmps60
  go_wp2_with fail
  clear c0 c4 c5 c6
  refine wp_region_M [] (S := (fun W : World => W.cell? ⟨kb, 0, none⟩ = some (.pointer (some ⟨gb, 0, none⟩)) ∧ W.cell? ⟨kb, 4, none⟩ = some (.int .i64 s.ino.t) ∧ W.cell? ⟨kb, 5, none⟩ = some (.int .i64 s.ino.r) ∧ W.cell? ⟨kb, 6, none⟩ = some (.bool th))) (by kernel_rfl) ?_
  refine wpAnyM_takeD (i := 0) 7 (v := ?va1) rfl rfl (by kernel_rfl) (by kernel_rfl) (by decide) (by kernel_rfl) (by kernel_rfl) (by kernel_rfl) (fun _ _ _ h => h) (Or.inl ⟨by rfl, ?ha1⟩) (HJ.out _ HB0.out.drew) ?ra1
  case ha1 => intro W hSW; obtain ⟨_, _, _, _⟩ := hSW; go_simp; first | done | with_reducible rfl
  try simp only [Act.put, List.setIfInBounds_toArray, List.set_cons_zero, List.set_cons_succ]
  refine wpAnyM_takeD (i := 1) 8 (v := ?va2) rfl rfl (by kernel_rfl) (by kernel_rfl) (by decide) (by kernel_rfl) (by kernel_rfl) (by kernel_rfl) (fun _ _ _ h => h) (Or.inl ⟨by rfl, ?ha2⟩) (HJ.out _ HB0.out.drew) ?ra2
  case ha2 => intro W hSW; obtain ⟨_, _, _, _⟩ := hSW; go_simp; first | done | with_reducible rfl
  try simp only [Act.put, List.setIfInBounds_toArray, List.set_cons_zero, List.set_cons_succ]
  refine wpAnyM_takeD (i := 2) 9 (v := ?va3) rfl rfl (by kernel_rfl) (by kernel_rfl) (by decide) (by kernel_rfl) (by kernel_rfl) (by kernel_rfl) (fun _ _ _ h => h) (Or.inl ⟨by rfl, ?ha3⟩) (HJ.out _ HB0.out.drew) ?ra3
  case ha3 => intro W hSW; obtain ⟨_, _, _, _⟩ := hSW; go_simp; first | done | with_reducible rfl
  try simp only [Act.put, List.setIfInBounds_toArray, List.set_cons_zero, List.set_cons_succ]
  refine wpAnyM_takeD (i := 3) 10 (v := ?va4) rfl rfl (by kernel_rfl) (by kernel_rfl) (by decide) (by kernel_rfl) (by kernel_rfl) (by kernel_rfl) (fun _ _ _ h => h) (Or.inl ⟨by rfl, ?ha4⟩) (HJ.out _ HB0.out.drew) ?ra4
  case ha4 => intro W hSW; obtain ⟨_, _, _, _⟩ := hSW; go_simp; first | done | with_reducible rfl
  try simp only [Act.put, List.setIfInBounds_toArray, List.set_cons_zero, List.set_cons_succ]
  refine wpAnyM_takeD (i := 4) 11 (v := ?va5) rfl rfl (by kernel_rfl) (by kernel_rfl) (by decide) (by kernel_rfl) (by kernel_rfl) (by kernel_rfl) (fun _ _ _ h => h) (Or.inl ⟨by rfl, ?ha5⟩) (HJ.out _ HB0.out.drew) ?ra5
  case ha5 => intro W hSW; obtain ⟨_, _, _, _⟩ := hSW; go_simp; first | done | with_reducible rfl
  try simp only [Act.put, List.setIfInBounds_toArray, List.set_cons_zero, List.set_cons_succ]
  refine wpAnyM_takeD (i := 5) 12 (v := ?va6) rfl rfl (by kernel_rfl) (by kernel_rfl) (by decide) (by kernel_rfl) (by kernel_rfl) (by kernel_rfl) (fun _ _ _ h => h) (Or.inl ⟨by rfl, ?ha6⟩) (HJ.out _ HB0.out.drew) ?ra6
  case ha6 => intro W hSW; obtain ⟨_, _, _, _⟩ := hSW; go_simp; first | done | with_reducible rfl
  try simp only [Act.put, List.setIfInBounds_toArray, List.set_cons_zero, List.set_cons_succ]
  refine wpAnyM_takeD (i := 6) 13 (v := ?va7) rfl rfl (by kernel_rfl) (by kernel_rfl) (by decide) (by kernel_rfl) (by kernel_rfl) (by kernel_rfl) (fun _ _ _ h => h) (Or.inl ⟨by rfl, ?ha7⟩) (HJ.out _ HB0.out.drew) ?ra7
  case ha7 => intro W hSW; obtain ⟨_, _, _, _⟩ := hSW; go_simp; first | done | with_reducible rfl
  try simp only [Act.put, List.setIfInBounds_toArray, List.set_cons_zero, List.set_cons_succ]
  refine wpAnyM_takeD (i := 7) 14 (v := ?va8) rfl rfl (by kernel_rfl) (by kernel_rfl) (by decide) (by kernel_rfl) (by kernel_rfl) (by kernel_rfl) (fun _ _ _ h => h) (Or.inl ⟨by rfl, ?ha8⟩) (HJ.out _ HB0.out.drew) ?ra8
  case ha8 => intro W hSW; obtain ⟨_, _, _, _⟩ := hSW; go_simp; first | done | with_reducible rfl
  try simp only [Act.put, List.setIfInBounds_toArray, List.set_cons_zero, List.set_cons_succ]
  refine wpAnyM_takeD (i := 8) 15 (v := ?va9) rfl rfl (by kernel_rfl) (by kernel_rfl) (by decide) (by kernel_rfl) (by kernel_rfl) (by kernel_rfl) (fun _ _ _ h => h) (Or.inl ⟨by rfl, ?ha9⟩) (HJ.out _ HB0.out.drew) ?ra9
  case ha9 => intro W hSW; obtain ⟨_, _, _, _⟩ := hSW; go_simp; first | done | with_reducible rfl
  try simp only [Act.put, List.setIfInBounds_toArray, List.set_cons_zero, List.set_cons_succ]
  refine wpAnyM_two (i := 9) (j := 13) (by kernel_rfl) rfl rfl rfl rfl ?_ ?_
  · go_simp
    refine Calls.mono (HG.out _ (by exact HB0.out.drew)) ?_
    rintro e w1 ⟨rfl, hb1⟩
    have HB1 : Hid (Below w.heap.size w w1) := Lib.hid (HB0.out.drew.trans (hb1.mono HB0.out.drew.size))
    clear hb1
    refine ⟨HJ.out _ HB1.out, ?_⟩
    try simp only [Act.put, List.setIfInBounds_toArray, List.set_cons_zero, List.set_cons_succ]
    refine wpAnyM_takeD (i := 10) 6 (v := ?va10) rfl rfl (by kernel_rfl) (by kernel_rfl) (by decide) (by kernel_rfl) (by kernel_rfl) (by kernel_rfl) (fun _ _ _ h => h) (Or.inl ⟨by rfl, ?ha10⟩) (HJ.out _ HB1.out) ?ra10
    case ha10 => intro W hSW; obtain ⟨_, _, _, _⟩ := hSW; go_simp; first | done | with_reducible rfl
    try simp only [Act.put, List.setIfInBounds_toArray, List.set_cons_zero, List.set_cons_succ]
    refine wpAnyM_takeD (i := 11) 17 (v := ?va11) rfl rfl (by kernel_rfl) (by kernel_rfl) (by decide) (by kernel_rfl) (by kernel_rfl) (by kernel_rfl) (fun _ _ _ h => h) (Or.inl ⟨by rfl, ?ha11⟩) (HJ.out _ HB1.out) ?ra11
    case ha11 => intro W hSW; obtain ⟨_, _, _, _⟩ := hSW; go_simp; first | done | with_reducible rfl
    try simp only [Act.put, List.setIfInBounds_toArray, List.set_cons_zero, List.set_cons_succ]
    refine wpAnyM_takeD (i := 12) 18 (v := ?va12) rfl rfl (by kernel_rfl) (by kernel_rfl) (by decide) (by kernel_rfl) (by kernel_rfl) (by kernel_rfl) (fun _ _ _ h => h) (Or.inl ⟨by rfl, ?ha12⟩) (HJ.out _ HB1.out) ?ra12
    case ha12 => intro W hSW; obtain ⟨_, _, _, _⟩ := hSW; go_simp; first | done | with_reducible rfl
    try simp only [Act.put, List.setIfInBounds_toArray, List.set_cons_zero, List.set_cons_succ]
    refine wpAnyM_one (i := 13) (by kernel_rfl) rfl rfl ?_
    go_simp
    refine ⟨HJ.out _ (HB1.out.alloc HB1.out.size _), ?_⟩
    try simp only [Act.put, List.setIfInBounds_toArray, List.set_cons_zero, List.set_cons_succ]
    refine wpAnyM_one (i := 14) (by kernel_rfl) rfl rfl ?_
    go_simp
    refine ⟨HJ.out _ (HB1.out.alloc HB1.out.size _), ?_⟩
    try simp only [Act.put, List.setIfInBounds_toArray, List.set_cons_zero, List.set_cons_succ]
    refine wpAnyM_one (i := 15) (by kernel_rfl) rfl rfl ?_
    go_simp
    refine ⟨HJ.out _ (HB1.out.alloc HB1.out.size _), ?_⟩
    try simp only [Act.put, List.setIfInBounds_toArray, List.set_cons_zero, List.set_cons_succ]
    refine wpAnyM_done (by kernel_rfl) ?_ _
    obtain ⟨_, _, _, c6⟩ := HJ.out w1 HB1.out
    have hl1 : kb < w1.heap.size := Nat.lt_of_lt_of_le hlt HB1.out.size
    rcases hbt with ⟨rfl, rfl⟩ | ⟨rfl, rfl⟩ | ⟨rfl, rfl⟩ | ⟨rfl, rfl⟩
    · go_wp2_with fail
      go_quiet (fail)
      go_wp2
      exact bodyPost_ret (v := .tuple #[.string i.data, .bool (i.kind == 3)]) (by simp [results, Tryz.results60, go_sem]) rfl ⟨by simp, below_drewN (HB1.out.alloc HB1.out.size _) _⟩
    · go_wp2_with fail
      go_quiet (fail)
      go_wp2
      exact bodyPost_ret (v := .tuple #[.string i.data, .bool (false)]) (by simp [results, Tryz.results60, go_sem]) rfl ⟨by simp, below_drewN (HB1.out.alloc HB1.out.size _) _⟩
    · go_wp2_with fail
      go_quiet (fail)
      go_wp2
      exact bodyPost_ret (v := .tuple #[.string i.data, .bool (false)]) (by simp [results, Tryz.results60, go_sem]) rfl ⟨by simp, below_drewN (HB1.out.alloc HB1.out.size _) _⟩
    · go_wp2_with fail
      go_quiet (fail)
      go_wp2
      exact bodyPost_ret (v := .tuple #[.string i.data, .bool (false)]) (by simp [results, Tryz.results60, go_sem]) rfl ⟨by simp, below_drewN (HB1.out.alloc HB1.out.size _) _⟩
  · go_simp
    refine ⟨HJ.out _ HB0.out, ?_⟩
    try simp only [Act.put, List.setIfInBounds_toArray, List.set_cons_zero, List.set_cons_succ]
    refine wpAnyM_one (i := 9) (by kernel_rfl) rfl rfl ?_
    go_simp
    refine Calls.mono (HG.out _ (by exact (HB0.out.alloc HB0.out.size _).drew)) ?_
    rintro e w1 ⟨rfl, hb1⟩
    have HB1 : Hid (Below w.heap.size w w1) := Lib.hid ((HB0.out.alloc HB0.out.size _).drew.trans (hb1.mono (HB0.out.alloc HB0.out.size _).drew.size))
    have hr0 : w1.heap[w.heap.size]? = some (.cells #[.int .i64 0, .int .i64 0, .int .i64 0, .int .i64 0, .int .i64 0, .string ⟨#[]⟩] 28) := (hb1.block w.heap.size (by show w.heap.size < (w.alloc _).heap.size; simp)).trans (World.alloc_heap_new w _)
    clear hb1
    refine ⟨HJ.out _ HB1.out, ?_⟩
    try simp only [Act.put, List.setIfInBounds_toArray, List.set_cons_zero, List.set_cons_succ]
    refine wpAnyM_takeD (i := 10) 6 (v := ?va13) rfl rfl (by kernel_rfl) (by kernel_rfl) (by decide) (by kernel_rfl) (by kernel_rfl) (by kernel_rfl) (fun _ _ _ h => h) (Or.inl ⟨by rfl, ?ha13⟩) (HJ.out _ HB1.out) ?ra13
    case ha13 => intro W hSW; obtain ⟨_, _, _, _⟩ := hSW; go_simp; first | done | with_reducible rfl
    try simp only [Act.put, List.setIfInBounds_toArray, List.set_cons_zero, List.set_cons_succ]
    refine wpAnyM_takeD (i := 11) 17 (v := ?va14) rfl rfl (by kernel_rfl) (by kernel_rfl) (by decide) (by kernel_rfl) (by kernel_rfl) (by kernel_rfl) (fun _ _ _ h => h) (Or.inl ⟨by rfl, ?ha14⟩) (HJ.out _ HB1.out) ?ra14
    case ha14 => intro W hSW; obtain ⟨_, _, _, _⟩ := hSW; go_simp; first | done | with_reducible rfl
    try simp only [Act.put, List.setIfInBounds_toArray, List.set_cons_zero, List.set_cons_succ]
    refine wpAnyM_takeD (i := 12) 18 (v := ?va15) rfl rfl (by kernel_rfl) (by kernel_rfl) (by decide) (by kernel_rfl) (by kernel_rfl) (by kernel_rfl) (fun _ _ _ h => h) (Or.inl ⟨by rfl, ?ha15⟩) (HJ.out _ HB1.out) ?ra15
    case ha15 => intro W hSW; obtain ⟨_, _, _, _⟩ := hSW; go_simp; first | done | with_reducible rfl
    try simp only [Act.put, List.setIfInBounds_toArray, List.set_cons_zero, List.set_cons_succ]
    have q0 := cell_atW hr0 0 _ rfl
    have q1 := cell_atW hr0 1 _ rfl
    have q2 := cell_atW hr0 2 _ rfl
    have q3 := cell_atW hr0 3 _ rfl
    have q4 := cell_atW hr0 4 _ rfl
    have q5 := cell_atW hr0 5 _ rfl
    have p0 := frozen_atW hr0 0
    have p1 := frozen_atW hr0 1
    have p2 := frozen_atW hr0 2
    have p3 := frozen_atW hr0 3
    have p4 := frozen_atW hr0 4
    have p5 := frozen_atW hr0 5
    refine wpAnyM_one (i := 14) (by kernel_rfl) rfl rfl ?_
    go_simp
    obtain ⟨V, hV⟩ : ∃ V, V = ((((((w1.setCell ⟨w.heap.size, 0, none⟩ (.int .i64 i.id.t)).setCell ⟨w.heap.size, 1, none⟩ (.int .i64 i.id.r)).setCell ⟨w.heap.size, 2, none⟩ (.int .i64 i.kind)).setCell ⟨w.heap.size, 3, none⟩ (.int .i64 i.links)).setCell ⟨w.heap.size, 4, none⟩ (.int .i64 i.mode)).setCell ⟨w.heap.size, 5, none⟩ (.string i.data)) := ⟨_, rfl⟩
    try rw [← hV]
    have hv : V.heap[w.heap.size]? = some (.cells #[.int .i64 i.id.t, .int .i64 i.id.r, .int .i64 i.kind, .int .i64 i.links, .int .i64 i.mode, .string i.data] 28) := by rw [hV]; exact heap_setCell_atW (heap_setCell_atW (heap_setCell_atW (heap_setCell_atW (heap_setCell_atW (heap_setCell_atW (hr0) 0 _) 1 _) 2 _) 3 _) 4 _) 5 _
    have HBV : Hid (Below w.heap.size w V) := Lib.hid (by rw [hV]; exact ((((((HB1.out).setCell (p := ⟨w.heap.size, 0, none⟩) (Nat.le_refl _) _).setCell (p := ⟨w.heap.size, 1, none⟩) (Nat.le_refl _) _).setCell (p := ⟨w.heap.size, 2, none⟩) (Nat.le_refl _) _).setCell (p := ⟨w.heap.size, 3, none⟩) (Nat.le_refl _) _).setCell (p := ⟨w.heap.size, 4, none⟩) (Nat.le_refl _) _).setCell (p := ⟨w.heap.size, 5, none⟩) (Nat.le_refl _) _)
    clear hV hr0 q0 q1 q2 q3 q4 q5 p0 p1 p2 p3 p4 p5
    refine ⟨HJ.out _ HB1.out, ?_⟩
    try simp only [Act.put, List.setIfInBounds_toArray, List.set_cons_zero, List.set_cons_succ]
    refine wpAnyM_one (i := 15) (by kernel_rfl) rfl rfl ?_
    go_simp
    refine ⟨HJ.out _ HBV.out, ?_⟩
    try simp only [Act.put, List.setIfInBounds_toArray, List.set_cons_zero, List.set_cons_succ]
    refine wpAnyM_done (by kernel_rfl) ?_ _
    obtain ⟨_, _, _, c6⟩ := HJ.out V HBV.out
    have x1 := cell_atW hv 1 _ rfl
    have x2 := cell_atW hv 2 _ rfl
    have x5 := cell_atW hv 5 _ rfl
    rcases hbt with ⟨rfl, rfl⟩ | ⟨rfl, rfl⟩ | ⟨rfl, rfl⟩ | ⟨rfl, rfl⟩
    · go_wp2_with fail
      go_quiet (fail)
      go_wp2
      exact bodyPost_ret (v := .tuple #[.string i.data, .bool (i.kind == 3)]) (by simp [results, Tryz.results60, go_sem]) rfl ⟨by simp, below_drewN HBV.out _⟩
    · go_wp2_with fail
      go_quiet (fail)
      go_wp2
      exact bodyPost_ret (v := .tuple #[.string i.data, .bool (false)]) (by simp [results, Tryz.results60, go_sem]) rfl ⟨by simp, below_drewN HBV.out _⟩
    · go_wp2_with fail
      go_quiet (fail)
      go_wp2
      exact bodyPost_ret (v := .tuple #[.string i.data, .bool (false)]) (by simp [results, Tryz.results60, go_sem]) rfl ⟨by simp, below_drewN HBV.out _⟩
    · go_wp2_with fail
      go_quiet (fail)
      go_wp2
      exact bodyPost_ret (v := .tuple #[.string i.data, .bool (false)]) (by simp [results, Tryz.results60, go_sem]) rfl ⟨by simp, below_drewN HBV.out _⟩
end Go.Proofs.YtfbjiaedfmdcfaaGreatDoor
