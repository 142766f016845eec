/-
  The audit's order; no condition.
-/
import Derived.Test.YtmnkaohhjhjciaaAudC
import Derived.Deep.RegionHeld3
namespace Go.Proofs.Ytmnkaohhjhjciaa
open Go.RowKit Go.Shelf

/-- two parameters' boxes behind a call in a drawn region -/
theorem after2 {w w' : World} {cs ds : Array Value} {t u : TypeId} (h : New (((w.alloc (.cells cs t)).alloc (.cells ds u)).drew) w') : (∀ i v, cs[i]? = some v → w'.cell? ⟨w.heap.size, i, none⟩ = some v) ∧ (∀ i v, ds[i]? = some v → w'.cell? ⟨w.heap.size + 1, i, none⟩ = some v) := by
  have hb := h.below
  refine ⟨fun i v hv => (hb.cell (p := ⟨w.heap.size, i, none⟩) (by show _ < ((w.alloc _).alloc _).heap.size; simp only [World.size_alloc]; omega)).trans ?_, fun i v hv => (hb.cell (p := ⟨w.heap.size + 1, i, none⟩) (by show _ < ((w.alloc _).alloc _).heap.size; simp only [World.size_alloc]; omega)).trans ?_⟩
  · exact Lib.cell?_alloc_some _ (cell_new w _ rfl _ _ i v hv)
  · exact cell_new (w.alloc _) _ (by simp) _ _ i v hv

set_option maxRecDepth 100000 in
set_option maxHeartbeats 400000 in
theorem order1_any (x y : Ino) (w : World) : Calls Try.prog 100 #[x.v, y.v] w fun e w' => e = .returned (.int .i64 (cmpSt x.id.t x.id.r y.id.t y.id.r)) ∧ New w w' := by
  have hs := stCompare_any x.id.t x.id.r y.id.t y.id.r
  have HS := Lib.hid hs
  clear hs
  unfold Ino.v
  go_enter Try.func100, Try.ntmps100
  go_wp2_with (go_at_call 17; refine (HS.out _).mono ?_; rintro e w' ⟨rfl, hN⟩; have HN := Lib.hid hN; clear hN)
  go_ret
  exact ⟨rfl, ((New.alloc' w _).alloc _).trans HN.out⟩

set_option maxRecDepth 100000 in
set_option maxHeartbeats 1000000 in
theorem order2_any (x y : Ent) (w : World) : Calls Try.prog 102 #[x.v, y.v] w fun e w' => e = .returned (.int .i64 (orI (cmpSt x.at_.t x.at_.r y.at_.t y.at_.r) (cmpB x.name y.name))) ∧ New w w' := by
  have HS := Lib.hid (stCompare_any x.at_.t x.at_.r y.at_.t y.at_.r)
  have HC := Lib.hid (cmps_any x.name y.name)
  have HO := Lib.hid or2_any
  unfold Ent.v
  go_enter Try.func102, Try.ntmps102
  go_wp2
  go_region_held3 (fun W => W.cell? ⟨w.heap.size, 0, none⟩ = some (.int .i64 x.at_.t) ∧ W.cell? ⟨w.heap.size, 1, none⟩ = some (.int .i64 x.at_.r) ∧ W.cell? ⟨w.heap.size, 2, none⟩ = some (.string x.name) ∧
      W.cell? ⟨w.heap.size + 1, 0, none⟩ = some (.int .i64 y.at_.t) ∧ W.cell? ⟨w.heap.size + 1, 1, none⟩ = some (.int .i64 y.at_.r) ∧ W.cell? ⟨w.heap.size + 1, 2, none⟩ = some (.string y.name)) (go_keep) (first
    | (go_at_call 17; refine (HS.out _).mono ?_; rintro e w' ⟨rfl, hN⟩; have HN := Lib.hid hN; have c0 : w'.cell? ⟨w.heap.size, 0, none⟩ = some (.int .i64 x.at_.t) := (after2 hN).1 0 _ rfl; have c1 : w'.cell? ⟨w.heap.size, 1, none⟩ = some (.int .i64 x.at_.r) := (after2 hN).1 1 _ rfl; have c2 : w'.cell? ⟨w.heap.size, 2, none⟩ = some (.string x.name) := (after2 hN).1 2 _ rfl; have d0 : w'.cell? ⟨w.heap.size + 1, 0, none⟩ = some (.int .i64 y.at_.t) := (after2 hN).2 0 _ rfl; have d1 : w'.cell? ⟨w.heap.size + 1, 1, none⟩ = some (.int .i64 y.at_.r) := (after2 hN).2 1 _ rfl; have d2 : w'.cell? ⟨w.heap.size + 1, 2, none⟩ = some (.string y.name) := (after2 hN).2 2 _ rfl; clear hN)
    | (go_at_call 62; refine (HC.out _).mono ?_; rintro e w' ⟨rfl, rfl⟩)
    | (go_at_call 48; refine (HO.out _ (cmpSt x.at_.t x.at_.r y.at_.t y.at_.r) (cmpB x.name y.name) _ _ ?_ ?_).mono ?_; (simp [*]); (simp [*]); rintro e w' ⟨rfl, rfl⟩))
  all_goals go_wp2
  all_goals go_ret
  all_goals exact ⟨rfl, ((((New.alloc' w _).alloc _).drew).trans HN.out).alloc _⟩
end Go.Proofs.Ytmnkaohhjhjciaa
