/-
  graph.Copy, New; condition: none but that the graph is one.
-/
import Derived.Test.YtlokljaeknmdpaaGreatQGrSet
import Derived.Shelf.SlMaps.Clone
import Derived.Deep.RegionHeld3
namespace Go.Proofs.YtlokljaeknmdpaaGreat
open Go.RowKit Go.Shelf Go.Proofs

set_option maxRecDepth 100000 in
set_option maxHeartbeats 1000000 in
theorem cloneI (b : Nat) (es : Array MapEntry) (ck : Nat) (w : World) (hb : w.heap[b]? = some (.map es ck)) :
    Calls Tryz.prog 80 #[.map (some b)] w fun e w' => e = .returned (.map (some w.heap.size)) ∧ w' = w.alloc (.map es ck) := by
  have hq := fun w => run_eql_map_nil_sl (P := Tryz.prog) w 89 _ _ (some b) Tryz.underlying89
  go_enter Tryz.func80, Tryz.ntmps80
  go_wp2
  rw [run_callFunc_extern Tryz.func134 (by kernel_rfl) (by kernel_rfl) (by kernel_rfl) (e := Extern.MapsClone.clone) (by kernel_rfl), run_maps_clone_sl w 89 hb]
  simp only [Result.andThen]
  rw [Oper.upon_value]
  go_wp2
  rw [run_typeAssert_map_sl _ 89 20 _ _ _ Tryz.underlying89]
  simp only [Result.andThen]
  rw [Oper.upon_value]
  go_wp2
  go_ret
  exact ⟨rfl, rfl⟩

set_option maxRecDepth 100000 in
set_option maxHeartbeats 1000000 in
theorem cloneE (b : Nat) (es : Array MapEntry) (ck : Nat) (w : World) (hb : w.heap[b]? = some (.map es ck)) :
    Calls Tryz.prog 81 #[.map (some b)] w fun e w' => e = .returned (.map (some w.heap.size)) ∧ w' = w.alloc (.map es ck) := by
  have hq := fun w => run_eql_map_nil_sl (P := Tryz.prog) w 90 _ _ (some b) Tryz.underlying90
  go_enter Tryz.func81, Tryz.ntmps81
  go_wp2
  rw [run_callFunc_extern Tryz.func134 (by kernel_rfl) (by kernel_rfl) (by kernel_rfl) (e := Extern.MapsClone.clone) (by kernel_rfl), run_maps_clone_sl w 90 hb]
  simp only [Result.andThen]
  rw [Oper.upon_value]
  go_wp2
  rw [run_typeAssert_map_sl _ 90 20 _ _ _ Tryz.underlying90]
  simp only [Result.andThen]
  rw [Oper.upon_value]
  go_wp2
  go_ret
  exact ⟨rfl, rfl⟩

theorem le_al {w w1 : World} {o : Obj} (h : w.heap.size ≤ w1.heap.size) : w.heap.size ≤ (w1.alloc o).heap.size := by simp only [World.size_alloc]; omega
/-- a graph of the call's own -/
def OwnGr (w : World) (g : Gr) (v : Value) (w' : World) : Prop := ∃ gb mI mE, v = .pointer (some ⟨gb, 0, none⟩) ∧ GrAt w' gb mI mE g ∧ w.heap.size ≤ gb ∧ w.heap.size ≤ mI ∧ w.heap.size ≤ mE
def MadeGr (w : World) (g : Gr) (e : Ending) (w' : World) : Prop := ∃ v, e = .returned v ∧ OwnGr w g v w' ∧ Below w.heap.size w w'

set_option maxRecDepth 100000 in
set_option maxHeartbeats 2000000 in
theorem copy_g (gb mI mE : Nat) (g : Gr) (w : World) (h : GrAt w gb mI mE g) :
    Calls Tryz.prog 27 #[.pointer (some ⟨gb, 0, none⟩)] w (MadeGr w g) := by
  obtain ⟨kI, ⟨eI, cI, hI, hI2⟩, hIp⟩ := h.nodes
  obtain ⟨kE, ⟨eE, cE, hE, hE2⟩, hEp⟩ := h.ents
  have hfin : ∀ W gb' mI' mE', W.heap[gb']? = some (.cells #[.map (some mI'), .map (some mE')] 92 (0, 0)) → W.heap[mI']? = some (.map eI cI) → W.heap[mE']? = some (.map eE cE) → mI' ≠ mE' → GrAt W gb' mI' mE' g := fun W gb' mI' mE' a b c d => ⟨a, ⟨kI, ⟨eI, cI, b, hI2⟩, hIp⟩, ⟨kE, ⟨eE, cE, c, hE2⟩, hEp⟩, d⟩
  have HI : Hid (∀ W, Below w.heap.size w W → Calls Tryz.prog 80 #[.map (some mI)] W fun e w' => e = .returned (.map (some W.heap.size)) ∧ w' = W.alloc (.map eI cI)) := Lib.hid fun W hW => cloneI mI eI cI W ((hW.block _ h.lt.2.1).trans hI)
  have HE : Hid (∀ W, Below w.heap.size w W → Calls Tryz.prog 81 #[.map (some mE)] W fun e w' => e = .returned (.map (some W.heap.size)) ∧ w' = W.alloc (.map eE cE)) := Lib.hid fun W hW => cloneE mE eE cE W ((hW.block _ h.lt.2.2).trans hE)
  obtain ⟨c0, c1⟩ := h.cells
  have hlt := h.lt.1
  have cA : ∀ o1 o2 o3 i, (((w.alloc o1).alloc o2).alloc o3).cell? ⟨gb, i, none⟩ = w.cell? ⟨gb, i, none⟩ := fun o1 o2 o3 i => (World.cell?_alloc_lt _ _ ⟨gb, i, none⟩ (by simp; omega)).trans ((World.cell?_alloc_lt _ _ ⟨gb, i, none⟩ (by simp; omega)).trans (World.cell?_alloc_lt _ _ ⟨gb, i, none⟩ hlt))
  have HFIN := Lib.hid hfin
  clear h hI hI2 hIp hE hE2 hEp hfin
  go_enter Tryz.func27, Tryz.ntmps27
  go_wp2
  go_region_held3 (fun W => W.cell? ⟨gb, 0, none⟩ = some (.map (some mI)) ∧ W.cell? ⟨gb, 1, none⟩ = some (.map (some mE))) (go_keep) (first
    | (go_at_call 80; refine (HI.out _ (by first | exact (Below.refl _ w).drew | exact (Below.refl _ w).drew.alloc (Nat.le_refl _) _ | exact ((Below.refl _ w).alloc (Nat.le_refl _) _).drew)).mono ?_; rintro e w' ⟨rfl, rfl⟩)
    | (go_at_call 81; refine (HE.out _ (by first | exact (Below.refl _ w).drew | exact (Below.refl _ w).drew.alloc (Nat.le_refl _) _ | exact ((Below.refl _ w).alloc (Nat.le_refl _) _).drew)).mono ?_; rintro e w' ⟨rfl, rfl⟩))
  all_goals go_wp2
  go_ret
  have b0 : (((w.alloc (.map eI cI)).alloc (.map eE cE)).alloc (.cells #[.map (some w.heap.size), .map (some (w.heap.size + 1))] 92)).heap[w.heap.size + 1 + 1]? = some (.cells #[.map (some w.heap.size), .map (some (w.heap.size + 1))] 92 (0, 0)) := by
    have := World.alloc_heap_new ((w.alloc (.map eI cI)).alloc (.map eE cE)) (.cells #[.map (some w.heap.size), .map (some (w.heap.size + 1))] 92)
    simpa using this
  have b1 : (((w.alloc (.map eI cI)).alloc (.map eE cE)).alloc (.cells #[.map (some w.heap.size), .map (some (w.heap.size + 1))] 92)).heap[w.heap.size]? = some (.map eI cI) :=
    (Below.heap_alloc _ _ _ (by simp only [World.size_alloc]; omega)).trans ((Below.heap_alloc _ _ _ (by simp only [World.size_alloc]; omega)).trans (World.alloc_heap_new w _))
  have b2 : (((w.alloc (.map eI cI)).alloc (.map eE cE)).alloc (.cells #[.map (some w.heap.size), .map (some (w.heap.size + 1))] 92)).heap[w.heap.size + 1]? = some (.map eE cE) :=
    (Below.heap_alloc _ _ _ (by simp only [World.size_alloc]; omega)).trans (by have := World.alloc_heap_new (w.alloc (.map eI cI)) (.map eE cE); simpa using this)
  exact ⟨_, rfl, ⟨_, _, _, rfl, HFIN.out _ _ _ _ b0 b1 b2 (by omega), by omega, Nat.le_refl _, by omega⟩, ((((Below.refl _ w).alloc (Nat.le_refl _) _).alloc (by simp only [World.size_alloc]; omega) _).alloc (by simp only [World.size_alloc]; omega) _).drew⟩

set_option maxRecDepth 100000 in
set_option maxHeartbeats 400000 in
theorem copy_nil (w : World) : Calls Tryz.prog 27 #[.pointer none] w fun e w' => e = .returned (.pointer none) ∧ w' = w := by
  go_enter Tryz.func27, Tryz.ntmps27
  go_wp2
  go_ret
  exact ⟨rfl, rfl⟩

set_option maxRecDepth 100000 in
set_option maxHeartbeats 1000000 in
theorem new_g (w : World) : Calls Tryz.prog 18 #[] w (MadeGr w Gr.new) := by
  have hmm := @run_makeMap Tryz.prog
  have hm0 : MapAt (w.alloc (.map #[] 0)) w.heap.size St.v Ino.v [] := ⟨#[], 0, World.alloc_heap_new w _, rfl, List.Pairwise.nil, fun _ h => by cases h⟩
  obtain ⟨w2, hu, hp, hm2⟩ := run_update_kv (encV := Ino.v) keySt Tryz.underlying89 hm0 ⟨0, 0⟩ ⟨⟨0, 0⟩, 1, 0, 0, ⟨#[]⟩⟩
  unfold Ino.v St.v at hu
  have hs2 : w2.heap.size = w.heap.size + 1 := by rw [hp.size]; simp
  have HB2 : Hid (Below w.heap.size w w2) := Lib.hid (by
    have h := (Turn.of_put hp)
    exact ((Below.refl _ w).alloc (Nat.le_refl _) _).trans (h.below (by simp) (fun k hk => by omega)))
  have HM2 := Lib.hid hm2
  have HS2 := Lib.hid hs2
  clear hm0 hp hm2 hs2
  go_enter Tryz.func18, Tryz.ntmps18
  go_wp2
  go_ret
  have hs2 := HS2.out
  have b0 : ((w2.alloc (.map #[] 0)).alloc (.cells #[.map (some w.heap.size), .map (some w2.heap.size)] 92)).heap[w2.heap.size + 1]? = some (.cells #[.map (some w.heap.size), .map (some w2.heap.size)] 92 (0, 0)) := by
    have := World.alloc_heap_new (w2.alloc (.map #[] 0)) (.cells #[.map (some w.heap.size), .map (some w2.heap.size)] 92)
    simpa using this
  have b2 : ((w2.alloc (.map #[] 0)).alloc (.cells #[.map (some w.heap.size), .map (some w2.heap.size)] 92)).heap[w2.heap.size]? = some (.map #[] 0) :=
    (Below.heap_alloc _ _ _ (by simp only [World.size_alloc]; omega)).trans (World.alloc_heap_new w2 _)
  have b1 : MapAt ((w2.alloc (.map #[] 0)).alloc (.cells #[.map (some w.heap.size), .map (some w2.heap.size)] 92)) w.heap.size St.v Ino.v [(⟨0, 0⟩, ⟨⟨0, 0⟩, 1, 0, 0, ⟨#[]⟩⟩)] :=
    HM2.out.below (((Below.refl _ w2).alloc (Nat.le_refl _) _).alloc (by simp only [World.size_alloc]; omega) _) (by omega)
  exact ⟨_, rfl, ⟨_, _, _, rfl, ⟨b0, ⟨_, b1, List.Perm.refl _⟩, ⟨[], ⟨#[], 0, b2, rfl, List.Pairwise.nil, fun _ h => by cases h⟩, List.Perm.refl _⟩, by omega⟩, by omega, Nat.le_refl _, by omega⟩, (HB2.out.alloc HB2.out.size _).alloc (le_al HB2.out.size) _⟩
end Go.Proofs.YtlokljaeknmdpaaGreat
