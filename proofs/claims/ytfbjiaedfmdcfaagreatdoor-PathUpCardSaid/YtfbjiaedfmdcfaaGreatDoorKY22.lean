/-
  graph.Get, Look, directory; condition: the lists rise.
-/
import Derived.Test.YtfbjiaedfmdcfaaGreatDoorKY21
import Derived.RegionTactic
import Derived.ChangeAlike
import Derived.Outline
/-! ## GrGet -/
namespace Go.Proofs.YtfbjiaedfmdcfaaGreatDoor
open Go.RowKit

set_option maxRecDepth 100000 in
set_option maxHeartbeats 400000 in
theorem get_any (gb mI mE : Nat) (g : Gr) (id : St) (w : World) (h : GrAt w gb mI mE g) (hs : RisesN g.n) :
    Calls Tryz.prog 33 #[.pointer (some ⟨gb, 0, none⟩), id.v] w fun x w' => x = .returned (.tuple #[(g.got id).v, .bool (g.get id).isSome]) ∧ New w w' := by
  obtain ⟨c0, c1⟩ := h.cells
  have hlt := h.lt.1
  have hl : ∀ W, New w W → (Instr.lookup 97 (.map (some mI)) (.agg #[.int .i64 id.t, .int .i64 id.r]) true).run Tryz.prog W = .ok (.tuple #[(g.got id).v, .bool (g.get id).isSome]) W := fun W hW => ((h.new hW).look_node hs id).1
  generalize g.got id = i at hl ⊢
  generalize (g.get id).isSome = b at hl ⊢
  unfold Ino.v at hl ⊢
  have h1 := (New.refl w).alloc (.cells #[.int .i64 id.t, .int .i64 id.r] 26)
  have h2 := h1.alloc (.cells #[.int .i64 0, .int .i64 0, .int .i64 0, .int .i64 0, .int .i64 0, .string ⟨#[]⟩] 28)
  have hl2 := hl _ h2.drew
  have c3 : (((w.alloc (.cells #[.int .i64 id.t, .int .i64 id.r] 26)).alloc (.cells #[.int .i64 0, .int .i64 0, .int .i64 0, .int .i64 0, .int .i64 0, .string ⟨#[]⟩] 28)).alloc (.cells #[.int .i64 0, .int .i64 0, .int .i64 0, .int .i64 0, .int .i64 0, .string ⟨#[]⟩] 28)).cell? ⟨gb, 0, none⟩ = some (.map (some mI)) := (h2.alloc _).cell c0
  have hl3 := hl _ (h2.alloc (.cells #[.int .i64 0, .int .i64 0, .int .i64 0, .int .i64 0, .int .i64 0, .string ⟨#[]⟩] 28)).drew
  clear h1 h2 hl h c1
  unfold St.v
  go_enter Tryz.func33, Tryz.ntmps33
  go_wp2
  go_region
  all_goals
    go_wp2
    exact bodyPost_ret (v := .tuple #[(.agg #[.int .i64 i.id.t, .int .i64 i.id.r, .int .i64 i.kind, .int .i64 i.links, .int .i64 i.mode, .string i.data]), .bool b]) (by simp [results, Tryz.results33, go_sem]) rfl ⟨rfl, (((New.alloc' w _).alloc _).alloc _).drew⟩

set_option maxRecDepth 100000 in
set_option maxHeartbeats 400000 in
theorem get_nil (id : St) (w : World) :
    Calls Tryz.prog 33 #[.pointer none, id.v] w fun x w' => x = .returned (.tuple #[zeroI.v, .bool false]) ∧ New w w' := by
  unfold St.v
  go_enter Tryz.func33, Tryz.ntmps33
  go_wp2
  exact bodyPost_ret (v := .tuple #[(.agg #[.int .i64 0, .int .i64 0, .int .i64 0, .int .i64 0, .int .i64 0, .string ⟨#[]⟩]), .bool false]) (by simp [results, Tryz.results33, go_sem]) rfl ⟨rfl, ((New.alloc' w _).alloc _)⟩

set_option maxRecDepth 100000 in
set_option maxHeartbeats 400000 in
theorem look_any (gb mI mE : Nat) (g : Gr) (p : Pl) (w : World) (h : GrAt w gb mI mE g) (hs : RisesE g.e) :
    Calls Tryz.prog 32 #[.pointer (some ⟨gb, 0, none⟩), p.at_.v, .string p.name] w fun x w' => x = .returned (.tuple #[((g.look p).getD ⟨0, 0⟩).v, .bool (g.look p).isSome]) ∧ New w w' := by
  obtain ⟨c0, c1⟩ := h.cells
  have hlt := h.lt.1
  have hl : ∀ W, New w W → (Instr.lookup 98 (.map (some mE)) (.agg #[.int .i64 p.at_.t, .int .i64 p.at_.r, .string p.name]) true).run Tryz.prog W = .ok (.tuple #[((g.look p).getD ⟨0, 0⟩).v, .bool (g.look p).isSome]) W := fun W hW => (h.new hW).look_ent hs p
  generalize (g.look p).getD ⟨0, 0⟩ = i at hl ⊢
  generalize (g.look p).isSome = b at hl ⊢
  obtain ⟨id, s⟩ := p
  unfold St.v at hl ⊢
  have h1 := (New.refl w).alloc (.cells #[.int .i64 id.t, .int .i64 id.r] 26)
  have h2 := h1.alloc (.cells #[.int .i64 0, .int .i64 0] 26)
  have hl2 := hl _ h2.drew
  have c3 : (((w.alloc (.cells #[.int .i64 id.t, .int .i64 id.r] 26)).alloc (.cells #[.int .i64 0, .int .i64 0] 26)).alloc (.cells #[.int .i64 0, .int .i64 0] 26)).cell? ⟨gb, 1, none⟩ = some (.map (some mE)) := (h2.alloc _).cell c1
  have hl3 := hl _ (h2.alloc (.cells #[.int .i64 0, .int .i64 0] 26)).drew
  clear h1 h2 hl h c0
  go_enter Tryz.func32, Tryz.ntmps32
  go_wp2
  go_region
  all_goals
    go_wp2
    exact bodyPost_ret (v := .tuple #[(.agg #[.int .i64 i.t, .int .i64 i.r]), .bool b]) (by simp [results, Tryz.results32, go_sem]) rfl ⟨rfl, (((New.alloc' w _).alloc _).alloc _).drew⟩

theorem bnew {W w1 : World} (hb : New W w1) : (∀ b o, b < W.heap.size → w1.cell? ⟨b, o, none⟩ = W.cell? ⟨b, o, none⟩) ∧ (∀ b o, b < W.heap.size → w1.frozen? ⟨b, o, none⟩ = W.frozen? ⟨b, o, none⟩) :=
  ⟨fun b o h => hb.cell_eq ⟨b, o, none⟩ h, fun b o h => hb.frozen_eq ⟨b, o, none⟩ h⟩

set_option maxRecDepth 100000 in
set_option maxHeartbeats 400000 in
theorem directory_g (gb mI mE : Nat) (g : Gr) (id : St) (w : World) (h : GrAt w gb mI mE g) (hs : RisesN g.n) :
    Calls Tryz.prog 75 #[.pointer (some ⟨gb, 0, none⟩), id.v] w fun x w' => x = .returned (.bool (g.isDir id)) ∧ New w w' := by
  have HG : Hid (∀ W, New w W → Calls Tryz.prog 33 #[.pointer (some ⟨gb, 0, none⟩), (.agg #[.int .i64 id.t, .int .i64 id.r])] W fun x w' => x = .returned (.tuple #[(g.got id).v, .bool (g.get id).isSome]) ∧ New W w') := Lib.hid fun W hW => get_any gb mI mE g id W (h.new hW) hs
  unfold Gr.isDir
  generalize g.got id = i at HG ⊢
  unfold Ino.v at HG
  generalize (g.get id).isSome = b at HG ⊢
  clear h
  unfold St.v
  cases b with
  | true =>
    go_enter Tryz.func75, Tryz.ntmps75
    go_wp2_with (go_at_call 33; refine (HG.out _ (New.alloc' w _)).mono ?_; rintro x w1 ⟨rfl, hN⟩)
    go_ret
    exact ⟨by simp, ((New.alloc' w _).trans hN).alloc _⟩
  | false =>
    go_enter Tryz.func75, Tryz.ntmps75
    go_wp2_with (go_at_call 33; refine (HG.out _ (New.alloc' w _)).mono ?_; rintro x w1 ⟨rfl, hN⟩)
    go_ret
    exact ⟨by simp, ((New.alloc' w _).trans hN).alloc _⟩
end Go.Proofs.YtfbjiaedfmdcfaaGreatDoor
