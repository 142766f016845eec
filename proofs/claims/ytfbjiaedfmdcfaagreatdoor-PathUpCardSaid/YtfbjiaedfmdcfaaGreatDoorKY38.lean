/-
  apply's deeds: rename, does; condition: the graph is in order, its data short.
-/
import Derived.Test.YtfbjiaedfmdcfaaGreatDoorKY37
/-! ## ApF -/
namespace Go.Proofs.YtfbjiaedfmdcfaaGreatDoor
open Go.RowKit Go.Shelf Go.Proofs

set_option maxRecDepth 100000 in
set_option maxHeartbeats 4000000 in
theorem rename_any (gb mI mE : Nat) (g : Gr) (o : Op) (w : World) (h : GrAt w gb mI mE g) (hok : g.Ok) (hs : o.Small) :
    Calls Tryz.prog 120 #[(.agg #[.pointer (some ⟨gb, 0, none⟩), .int .i64 o.stamp.t, .int .i64 o.stamp.r, .int .i64 o.kind, .int .i64 o.at_.t, .int .i64 o.at_.r, .int .i64 o.ino.t, .int .i64 o.ino.r, .int .i64 o.to.t, .int .i64 o.to.r, .string o.name, .string o.new, .int .i64 o.off, .string o.data])] w fun e w' => e = .returned (.tuple #[]) ∧ GrAt w' gb mI mE (g.rename o) ∧ Turn (Maps2 mI mE) w w' := by
  obtain ⟨W0, hW0⟩ : ∃ W0, W0 = w.alloc (.cells #[.pointer (some ⟨gb, 0, none⟩), .int .i64 o.stamp.t, .int .i64 o.stamp.r, .int .i64 o.kind, .int .i64 o.at_.t, .int .i64 o.at_.r, .int .i64 o.ino.t, .int .i64 o.ino.r, .int .i64 o.to.t, .int .i64 o.to.r, .string o.name, .string o.new, .int .i64 o.off, .string o.data] 129) := ⟨_, rfl⟩
  have hN : New w W0 := by rw [hW0]; exact New.alloc' w _
  have hz : w.heap.size < W0.heap.size := by rw [hW0]; simp only [World.size_alloc]; omega
  have hS0 : (fun W : World => W.cell? ⟨w.heap.size, 0, none⟩ = some (.pointer (some ⟨gb, 0, none⟩)) ∧ W.cell? ⟨w.heap.size, 1, none⟩ = some (.int .i64 o.stamp.t) ∧ W.cell? ⟨w.heap.size, 2, none⟩ = some (.int .i64 o.stamp.r) ∧ W.cell? ⟨w.heap.size, 3, none⟩ = some (.int .i64 o.kind) ∧ W.cell? ⟨w.heap.size, 4, none⟩ = some (.int .i64 o.at_.t) ∧ W.cell? ⟨w.heap.size, 5, none⟩ = some (.int .i64 o.at_.r) ∧ W.cell? ⟨w.heap.size, 6, none⟩ = some (.int .i64 o.ino.t) ∧ W.cell? ⟨w.heap.size, 7, none⟩ = some (.int .i64 o.ino.r) ∧ W.cell? ⟨w.heap.size, 8, none⟩ = some (.int .i64 o.to.t) ∧ W.cell? ⟨w.heap.size, 9, none⟩ = some (.int .i64 o.to.r) ∧ W.cell? ⟨w.heap.size, 10, none⟩ = some (.string o.name) ∧ W.cell? ⟨w.heap.size, 11, none⟩ = some (.string o.new) ∧ W.cell? ⟨w.heap.size, 12, none⟩ = some (.int .i64 o.off) ∧ W.cell? ⟨w.heap.size, 13, none⟩ = some (.string o.data)) W0 := jbox (by rw [hW0]; exact Below.refl _ _)
  have HJ : Hid (∀ W, Turn (Maps2 mI mE) W0 W → (fun W : World => W.cell? ⟨w.heap.size, 0, none⟩ = some (.pointer (some ⟨gb, 0, none⟩)) ∧ W.cell? ⟨w.heap.size, 1, none⟩ = some (.int .i64 o.stamp.t) ∧ W.cell? ⟨w.heap.size, 2, none⟩ = some (.int .i64 o.stamp.r) ∧ W.cell? ⟨w.heap.size, 3, none⟩ = some (.int .i64 o.kind) ∧ W.cell? ⟨w.heap.size, 4, none⟩ = some (.int .i64 o.at_.t) ∧ W.cell? ⟨w.heap.size, 5, none⟩ = some (.int .i64 o.at_.r) ∧ W.cell? ⟨w.heap.size, 6, none⟩ = some (.int .i64 o.ino.t) ∧ W.cell? ⟨w.heap.size, 7, none⟩ = some (.int .i64 o.ino.r) ∧ W.cell? ⟨w.heap.size, 8, none⟩ = some (.int .i64 o.to.t) ∧ W.cell? ⟨w.heap.size, 9, none⟩ = some (.int .i64 o.to.r) ∧ W.cell? ⟨w.heap.size, 10, none⟩ = some (.string o.name) ∧ W.cell? ⟨w.heap.size, 11, none⟩ = some (.string o.new) ∧ W.cell? ⟨w.heap.size, 12, none⟩ = some (.int .i64 o.off) ∧ W.cell? ⟨w.heap.size, 13, none⟩ = some (.string o.data)) W ∧ w.heap.size < W.heap.size) := Lib.hid fun W hW => jboxT hS0 hz hW
  have HTw := Lib.hid (hN.turn (Maps2 mI mE))
  have HG0 := Lib.hid (h.new hN)
  have HT0 : Hid (Turn (Maps2 mI mE) W0 W0) := Lib.hid (Turn.refl _ _)
  have HL := Lib.hid (fun W (hW : GrAt W gb mI mE g) => look_any gb mI mE g ⟨o.to, o.new⟩ W hW hok.se)
  have hnm : o.new.size ≤ maxLen := by have := hs.2.1; unfold reachBytes at this; unfold maxLen; omega
  have HGo := Lib.hid (fun W (hW : GrAt W gb mI mE g) => gone_any gb mI mE g o ⟨o.to, o.new⟩ W hW hok)
  have HUn := Lib.hid (fun (x : Gr) (hx : x.Ok) W (hW : GrAt W gb mI mE x) => untie_g gb mI mE x ⟨o.at_, o.name⟩ W hW hx)
  have HTi := Lib.hid (fun (x : Gr) (hx : x.Ok) W (hW : GrAt W gb mI mE x) => tie_g gb mI mE x ⟨o.to, o.new, o.ino⟩ W hW hx (by have := hx.few; omega) hnm)
  have HOK := Lib.hid hok
  clear h hok hs hN hS0 hnm
  unfold St.v at HL HUn
  unfold Ent.v at HTi
  cases hl : g.look ⟨o.to, o.new⟩ with
  | none =>
    have HR : Hid (g.rename o = (g.untie ⟨o.at_, o.name⟩).tie ⟨o.to, o.new, o.ino⟩) := Lib.hid (by unfold Gr.rename; rw [hl])
    have hlk := HL.out W0 HG0.out
    rw [hl] at hlk
    simp only [Option.getD_none, Option.isSome_none] at hlk
    clear hl
    obtain ⟨⟨_, _, _, _, _, _, _, _, _, _, _, _, _, _⟩, _⟩ := HJ.out W0 HT0.out
    go_enter Tryz.func120, Tryz.ntmps120
    go_wp2_with fail
    rw [← hW0]
    have HW0 := Lib.hid hW0
    clear hW0
    go_wp2_with fail
    refine hlk.mono ?_
    rintro e w1 ⟨rfl, hN1⟩
    have HT1 : Hid (Turn (Maps2 mI mE) W0 w1) := Lib.hid (hN1.turn _)
    have HG1 := Lib.hid (HG0.out.new hN1)
    obtain ⟨⟨_, _, _, _, _, _, _, _, _, _, _, _, _, _⟩, _⟩ := HJ.out w1 HT1.out
    clear hN1
    clear hlk
    have HGb := Lib.hid (HG1.out.new (New.alloc' w1 (.cells #[.int .i64 0, .int .i64 0] 26)))
    have HTb := Lib.hid (HT1.out.trans ((New.alloc' w1 (.cells #[.int .i64 0, .int .i64 0] 26)).turn (Maps2 mI mE)))
    go_wp2_with fail
    refine (HUn.out g HOK.out _ HGb.out).mono ?_
    rintro e w2 ⟨rfl, hG2, hT2⟩
    have HG2 := Lib.hid hG2
    have HT2 : Hid (Turn (Maps2 mI mE) W0 w2) := Lib.hid (HTb.out.trans hT2)
    obtain ⟨⟨_, _, _, _, _, _, _, _, _, _, _, _, _, _⟩, _⟩ := HJ.out w2 HT2.out
    clear hG2 hT2
    go_wp2_with fail
    refine (HTi.out (g.untie ⟨o.at_, o.name⟩) (HOK.out.untieD _) _ HG2.out).mono ?_
    rintro e w3 ⟨rfl, hG3, hT3⟩
    have HG3 := Lib.hid hG3
    have HT3 : Hid (Turn (Maps2 mI mE) W0 w3) := Lib.hid (HT2.out.trans hT3)
    obtain ⟨⟨_, _, _, _, _, _, _, _, _, _, _, _, _, _⟩, _⟩ := HJ.out w3 HT3.out
    clear hG3 hT3
    go_wp2
    go_end0
    exact ⟨rfl, by rw [HR.out]; exact HG3.out, HTw.out.trans HT3.out⟩
  | some t =>
    have hlk := HL.out W0 HG0.out
    rw [hl] at hlk
    simp only [Option.getD_some, Option.isSome_some] at hlk
    have he0 := fun w => eql_st t o.ino w
    by_cases hti : t = o.ino
    · have HR : Hid (g.rename o = g) := Lib.hid (by unfold Gr.rename; rw [hl]; simp [hti])
      rw [decide_eq_true hti] at he0
      clear hl hti
      obtain ⟨⟨_, _, _, _, _, _, _, _, _, _, _, _, _, _⟩, _⟩ := HJ.out W0 HT0.out
      go_enter Tryz.func120, Tryz.ntmps120
      go_wp2_with fail
      rw [← hW0]
      have HW0 := Lib.hid hW0
      clear hW0
      go_wp2_with fail
      refine hlk.mono ?_
      rintro e w1 ⟨rfl, hN1⟩
      have HT1 : Hid (Turn (Maps2 mI mE) W0 w1) := Lib.hid (hN1.turn _)
      have HG1 := Lib.hid (HG0.out.new hN1)
      obtain ⟨⟨_, _, _, _, _, _, _, _, _, _, _, _, _, _⟩, _⟩ := HJ.out w1 HT1.out
      clear hN1
      have HGb := Lib.hid (HG1.out.new (New.alloc' w1 (.cells #[.int .i64 t.t, .int .i64 t.r] 26)))
      have HTb := Lib.hid (HT1.out.trans ((New.alloc' w1 (.cells #[.int .i64 t.t, .int .i64 t.r] 26)).turn (Maps2 mI mE)))
      clear hlk
      go_wp2
      exact bodyPost_ret (v := .tuple #[]) (by simp [results, Tryz.results120, go_sem]) rfl ⟨rfl, by rw [HR.out]; exact HGb.out, HTw.out.trans HTb.out⟩
    · have HR : Hid (g.rename o = ((g.gone ⟨o.to, o.new⟩).untie ⟨o.at_, o.name⟩).tie ⟨o.to, o.new, o.ino⟩) := Lib.hid (by unfold Gr.rename; rw [hl]; simp only; rw [if_neg hti])
      rw [decide_eq_false hti] at he0
      clear hl hti
      obtain ⟨⟨_, _, _, _, _, _, _, _, _, _, _, _, _, _⟩, _⟩ := HJ.out W0 HT0.out
      go_enter Tryz.func120, Tryz.ntmps120
      go_wp2_with fail
      rw [← hW0]
      have HW0 := Lib.hid hW0
      clear hW0
      go_wp2_with fail
      refine hlk.mono ?_
      rintro e w1 ⟨rfl, hN1⟩
      have HT1 : Hid (Turn (Maps2 mI mE) W0 w1) := Lib.hid (hN1.turn _)
      have HG1 := Lib.hid (HG0.out.new hN1)
      obtain ⟨⟨_, _, _, _, _, _, _, _, _, _, _, _, _, _⟩, _⟩ := HJ.out w1 HT1.out
      clear hN1
      have HGb := Lib.hid (HG1.out.new (New.alloc' w1 (.cells #[.int .i64 t.t, .int .i64 t.r] 26)))
      have HTb := Lib.hid (HT1.out.trans ((New.alloc' w1 (.cells #[.int .i64 t.t, .int .i64 t.r] 26)).turn (Maps2 mI mE)))
      clear hlk
      go_wp2_with fail
      refine (HGo.out _ HGb.out).mono ?_
      rintro e w2 ⟨rfl, hG2, hT2⟩
      have HG2 := Lib.hid hG2
      have HT2 : Hid (Turn (Maps2 mI mE) W0 w2) := Lib.hid (HTb.out.trans hT2)
      obtain ⟨⟨_, _, _, _, _, _, _, _, _, _, _, _, _, _⟩, _⟩ := HJ.out w2 HT2.out
      clear hG2 hT2
      go_wp2_with fail
      refine (HUn.out (g.gone ⟨o.to, o.new⟩) (HOK.out.gone _) _ HG2.out).mono ?_
      rintro e w3 ⟨rfl, hG3, hT3⟩
      have HG3 := Lib.hid hG3
      have HT3 : Hid (Turn (Maps2 mI mE) W0 w3) := Lib.hid (HT2.out.trans hT3)
      obtain ⟨⟨_, _, _, _, _, _, _, _, _, _, _, _, _, _⟩, _⟩ := HJ.out w3 HT3.out
      clear hG3 hT3
      go_wp2_with fail
      refine (HTi.out ((g.gone ⟨o.to, o.new⟩).untie ⟨o.at_, o.name⟩) ((HOK.out.gone _).untieD _) _ HG3.out).mono ?_
      rintro e w4 ⟨rfl, hG4, hT4⟩
      have HG4 := Lib.hid hG4
      have HT4 : Hid (Turn (Maps2 mI mE) W0 w4) := Lib.hid (HT3.out.trans hT4)
      obtain ⟨⟨_, _, _, _, _, _, _, _, _, _, _, _, _, _⟩, _⟩ := HJ.out w4 HT4.out
      clear hG4 hT4
      go_wp2
      go_end0
      exact ⟨rfl, by rw [HR.out]; exact HG4.out, HTw.out.trans HT4.out⟩

set_option maxRecDepth 100000 in
set_option maxHeartbeats 16000000 in
theorem does_any (gb mI mE : Nat) (g : Gr) (o : Op) (w : World) (h : GrAt w gb mI mE g) (hok : g.Ok) (ht : g.Thin) (hs : o.Small) (hk1 : 1 ≤ o.kind) (hk2 : o.kind ≤ 10) :
    Calls Tryz.prog 76 #[(.agg #[.pointer (some ⟨gb, 0, none⟩), .int .i64 o.stamp.t, .int .i64 o.stamp.r, .int .i64 o.kind, .int .i64 o.at_.t, .int .i64 o.at_.r, .int .i64 o.ino.t, .int .i64 o.ino.r, .int .i64 o.to.t, .int .i64 o.to.r, .string o.name, .string o.new, .int .i64 o.off, .string o.data])] w fun e w' => e = .returned (.tuple #[]) ∧ GrAt w' gb mI mE (g.does o) ∧ Turn (Maps2 mI mE) w w' := by
  obtain ⟨W0, hW0⟩ : ∃ W0, W0 = w.alloc (.cells #[.pointer (some ⟨gb, 0, none⟩), .int .i64 o.stamp.t, .int .i64 o.stamp.r, .int .i64 o.kind, .int .i64 o.at_.t, .int .i64 o.at_.r, .int .i64 o.ino.t, .int .i64 o.ino.r, .int .i64 o.to.t, .int .i64 o.to.r, .string o.name, .string o.new, .int .i64 o.off, .string o.data] 129) := ⟨_, rfl⟩
  have hN : New w W0 := by rw [hW0]; exact New.alloc' w _
  have hz : w.heap.size < W0.heap.size := by rw [hW0]; simp only [World.size_alloc]; omega
  have hS0 : (fun W : World => W.cell? ⟨w.heap.size, 0, none⟩ = some (.pointer (some ⟨gb, 0, none⟩)) ∧ W.cell? ⟨w.heap.size, 1, none⟩ = some (.int .i64 o.stamp.t) ∧ W.cell? ⟨w.heap.size, 2, none⟩ = some (.int .i64 o.stamp.r) ∧ W.cell? ⟨w.heap.size, 3, none⟩ = some (.int .i64 o.kind) ∧ W.cell? ⟨w.heap.size, 4, none⟩ = some (.int .i64 o.at_.t) ∧ W.cell? ⟨w.heap.size, 5, none⟩ = some (.int .i64 o.at_.r) ∧ W.cell? ⟨w.heap.size, 6, none⟩ = some (.int .i64 o.ino.t) ∧ W.cell? ⟨w.heap.size, 7, none⟩ = some (.int .i64 o.ino.r) ∧ W.cell? ⟨w.heap.size, 8, none⟩ = some (.int .i64 o.to.t) ∧ W.cell? ⟨w.heap.size, 9, none⟩ = some (.int .i64 o.to.r) ∧ W.cell? ⟨w.heap.size, 10, none⟩ = some (.string o.name) ∧ W.cell? ⟨w.heap.size, 11, none⟩ = some (.string o.new) ∧ W.cell? ⟨w.heap.size, 12, none⟩ = some (.int .i64 o.off) ∧ W.cell? ⟨w.heap.size, 13, none⟩ = some (.string o.data)) W0 := jbox (by rw [hW0]; exact Below.refl _ _)
  have HJ : Hid (∀ W, Turn (Maps2 mI mE) W0 W → (fun W : World => W.cell? ⟨w.heap.size, 0, none⟩ = some (.pointer (some ⟨gb, 0, none⟩)) ∧ W.cell? ⟨w.heap.size, 1, none⟩ = some (.int .i64 o.stamp.t) ∧ W.cell? ⟨w.heap.size, 2, none⟩ = some (.int .i64 o.stamp.r) ∧ W.cell? ⟨w.heap.size, 3, none⟩ = some (.int .i64 o.kind) ∧ W.cell? ⟨w.heap.size, 4, none⟩ = some (.int .i64 o.at_.t) ∧ W.cell? ⟨w.heap.size, 5, none⟩ = some (.int .i64 o.at_.r) ∧ W.cell? ⟨w.heap.size, 6, none⟩ = some (.int .i64 o.ino.t) ∧ W.cell? ⟨w.heap.size, 7, none⟩ = some (.int .i64 o.ino.r) ∧ W.cell? ⟨w.heap.size, 8, none⟩ = some (.int .i64 o.to.t) ∧ W.cell? ⟨w.heap.size, 9, none⟩ = some (.int .i64 o.to.r) ∧ W.cell? ⟨w.heap.size, 10, none⟩ = some (.string o.name) ∧ W.cell? ⟨w.heap.size, 11, none⟩ = some (.string o.new) ∧ W.cell? ⟨w.heap.size, 12, none⟩ = some (.int .i64 o.off) ∧ W.cell? ⟨w.heap.size, 13, none⟩ = some (.string o.data)) W ∧ w.heap.size < W.heap.size) := Lib.hid fun W hW => jboxT hS0 hz hW
  have HTw := Lib.hid (hN.turn (Maps2 mI mE))
  have HG0 := Lib.hid (h.new hN)
  have HT0 : Hid (Turn (Maps2 mI mE) W0 W0) := Lib.hid (Turn.refl _ _)
  have HGe := Lib.hid (fun W (hW : GrAt W gb mI mE g) => get_any gb mI mE g o.ino W hW hok.sn)
  have hnm : o.name.size ≤ maxLen := by have := hs.1; unfold reachBytes at this; unfold maxLen; omega
  have hdm : o.data.size ≤ maxLen := by have := hs.2.2; unfold reachBytes at this; unfold maxLen; omega
  have hdi : (g.got o.ino).data.size ≤ maxLen := by have := ht.got o.ino; unfold maxLen; omega
  have HMk := Lib.hid (fun W (hW : GrAt W gb mI mE g) => make_g gb mI mE g o.stamp (makesOf o.kind) W hW hok)
  have HMo := Lib.hid (fun W => opMakes_any o W)
  have HGo := Lib.hid (fun W (hW : GrAt W gb mI mE g) => gone_any gb mI mE g o ⟨o.at_, o.name⟩ W hW hok)
  have HRe := Lib.hid (fun W (hW : GrAt W gb mI mE g) => rename_any gb mI mE g o W hW hok hs)
  have HSe := Lib.hid (fun (x : Gr) (hx : x.Ok) (id : St) (m : Int) (d : ByteArray) W (hW : GrAt W gb mI mE x) => set_g gb mI mE x id m d W hW hx)
  have HTi := Lib.hid (fun (x : Gr) (hx : x.Ok) (id : St) W (hW : GrAt W gb mI mE x) => tie_g gb mI mE x ⟨o.at_, o.name, id⟩ W hW hx (by have := hx.few; omega) hnm)
  have HWr := Lib.hid (fun W => write_any (g.got o.ino).data o.off o.data W hdi hdm)
  have HTr := Lib.hid (fun W => trunc_any (g.got o.ino).data o.off W hdi)
  have HOK := Lib.hid hok
  have hc : o.kind = 1 ∨ o.kind = 2 ∨ o.kind = 3 ∨ o.kind = 4 ∨ o.kind = 5 ∨ o.kind = 6 ∨ o.kind = 7 ∨ o.kind = 8 ∨ o.kind = 9 ∨ o.kind = 10 := by omega
  clear h hok ht hs hk1 hk2 hN hS0 hnm hdm hdi
  unfold St.v at HGe HMk HSe
  unfold Ino.v at HGe
  unfold Ent.v at HTi
  unfold Op.v at HMo
  rcases hc with hk | hk | hk | hk | hk | hk | hk | hk | hk | hk
  · have HR : Hid (g.does o = ((g.make o.stamp (makesOf o.kind)).setIf o.stamp 0 o.data).tie ⟨o.at_, o.name, o.stamp⟩) := Lib.hid (by unfold Gr.does; rw [if_pos (by omega)])
    have b1 : (o.kind == 1) = true := by rw [hk]; rfl
    clear hk
    obtain ⟨⟨_, _, _, _, _, _, _, _, _, _, _, _, _, _⟩, _⟩ := HJ.out W0 HT0.out
    go_enter Tryz.func76, Tryz.ntmps76
    go_wp2_with fail
    rw [← hW0]
    have HW0 := Lib.hid hW0
    clear hW0
    go_wp2_with fail
    refine (HGe.out W0 HG0.out).mono ?_
    rintro e w1 ⟨rfl, hN1⟩
    have HT1 : Hid (Turn (Maps2 mI mE) W0 w1) := Lib.hid (hN1.turn _)
    have HG1 := Lib.hid (HG0.out.new hN1)
    obtain ⟨⟨_, _, _, _, _, _, _, _, _, _, _, _, _, _⟩, _⟩ := HJ.out w1 HT1.out
    clear hN1
    have HGb := Lib.hid (HG1.out.new (New.alloc' w1 (.cells #[.int .i64 (g.got o.ino).id.t, .int .i64 (g.got o.ino).id.r, .int .i64 (g.got o.ino).kind, .int .i64 (g.got o.ino).links, .int .i64 (g.got o.ino).mode, .string (g.got o.ino).data] 28)))
    have HTb := Lib.hid (HT1.out.trans ((New.alloc' w1 (.cells #[.int .i64 (g.got o.ino).id.t, .int .i64 (g.got o.ino).id.r, .int .i64 (g.got o.ino).kind, .int .i64 (g.got o.ino).links, .int .i64 (g.got o.ino).mode, .string (g.got o.ino).data] 28)).turn (Maps2 mI mE)))
    go_wp2_with fail
    go_region_held3 (fun W : World => W.cell? ⟨w.heap.size, 0, none⟩ = some (.pointer (some ⟨gb, 0, none⟩)) ∧ W.cell? ⟨w.heap.size, 1, none⟩ = some (.int .i64 o.stamp.t) ∧ W.cell? ⟨w.heap.size, 2, none⟩ = some (.int .i64 o.stamp.r) ∧ W.cell? ⟨w.heap.size, 3, none⟩ = some (.int .i64 o.kind) ∧ W.cell? ⟨w.heap.size, 4, none⟩ = some (.int .i64 o.at_.t) ∧ W.cell? ⟨w.heap.size, 5, none⟩ = some (.int .i64 o.at_.r) ∧ W.cell? ⟨w.heap.size, 6, none⟩ = some (.int .i64 o.ino.t) ∧ W.cell? ⟨w.heap.size, 7, none⟩ = some (.int .i64 o.ino.r) ∧ W.cell? ⟨w.heap.size, 8, none⟩ = some (.int .i64 o.to.t) ∧ W.cell? ⟨w.heap.size, 9, none⟩ = some (.int .i64 o.to.r) ∧ W.cell? ⟨w.heap.size, 10, none⟩ = some (.string o.name) ∧ W.cell? ⟨w.heap.size, 11, none⟩ = some (.string o.new) ∧ W.cell? ⟨w.heap.size, 12, none⟩ = some (.int .i64 o.off) ∧ W.cell? ⟨w.heap.size, 13, none⟩ = some (.string o.data)) (first | go_keep | exact (HJ.out _ HT2.out).1 | exact (HJ.out _ HTm.out).1 | exact (HJ.out _ HTb.out).1) (first
      | (go_at_call 116; (with_reducible refine (HMo.out _).mono ?_); rintro e wm ⟨rfl, hbm⟩; have HGm := Lib.hid (HGb.out.kept (hbm.block _ HGb.out.lt.1) (hbm.block _ HGb.out.lt.2.1) (hbm.block _ HGb.out.lt.2.2)); have HTm : Hid (Turn (Maps2 mI mE) W0 wm) := Lib.hid (HTb.out.trans ⟨hbm.os, hbm.tape, hbm.output, hbm.size, fun k hk _ => hbm.block k hk, fun _ ha => hbm.cell ha, fun _ ha => hbm.frozen ha⟩); clear hbm)
      | (go_at_call 115; (with_reducible refine (HMk.out _ HGm.out).mono ?_); rintro e w2 ⟨rfl, hG2, hT2⟩; have HG2 := Lib.hid hG2; have HT2 : Hid (Turn (Maps2 mI mE) W0 w2) := Lib.hid (HTm.out.trans hT2); clear hG2 hT2))
    obtain ⟨⟨_, _, _, _, _, _, _, _, _, _, _, _, _, _⟩, _⟩ := HJ.out w2 HT2.out
    go_wp2_with fail
    refine (HSe.out (g.make o.stamp (makesOf o.kind)) (HOK.out.makeD _ _) o.stamp 0 o.data _ HG2.out).mono ?_
    rintro e w3 ⟨rfl, hG3, hT3⟩
    have HG3 := Lib.hid hG3
    have HT3 : Hid (Turn (Maps2 mI mE) W0 w3) := Lib.hid (HT2.out.trans hT3)
    obtain ⟨⟨_, _, _, _, _, _, _, _, _, _, _, _, _, _⟩, _⟩ := HJ.out w3 HT3.out
    clear hG3 hT3
    go_wp2_with fail
    refine (HTi.out ((g.make o.stamp (makesOf o.kind)).setIf o.stamp 0 o.data) ((HOK.out.makeD _ _).setIf _ _ _) o.stamp _ HG3.out).mono ?_
    rintro e w4 ⟨rfl, hG4, hT4⟩
    have HG4 := Lib.hid hG4
    have HT4 : Hid (Turn (Maps2 mI mE) W0 w4) := Lib.hid (HT3.out.trans hT4)
    obtain ⟨⟨_, _, _, _, _, _, _, _, _, _, _, _, _, _⟩, _⟩ := HJ.out w4 HT4.out
    clear hG4 hT4
    go_wp2
    go_end0
    exact ⟨rfl, by rw [HR.out]; exact HG4.out, HTw.out.trans HT4.out⟩
  · have HR : Hid (g.does o = ((g.make o.stamp (makesOf o.kind)).setIf o.stamp 0 o.data).tie ⟨o.at_, o.name, o.stamp⟩) := Lib.hid (by unfold Gr.does; rw [if_pos (by omega)])
    have b1 : (o.kind == 1) = false := by rw [hk]; rfl
    have b2 : (o.kind == 2) = true := by rw [hk]; rfl
    clear hk
    obtain ⟨⟨_, _, _, _, _, _, _, _, _, _, _, _, _, _⟩, _⟩ := HJ.out W0 HT0.out
    go_enter Tryz.func76, Tryz.ntmps76
    go_wp2_with fail
    rw [← hW0]
    have HW0 := Lib.hid hW0
    clear hW0
    go_wp2_with fail
    refine (HGe.out W0 HG0.out).mono ?_
    rintro e w1 ⟨rfl, hN1⟩
    have HT1 : Hid (Turn (Maps2 mI mE) W0 w1) := Lib.hid (hN1.turn _)
    have HG1 := Lib.hid (HG0.out.new hN1)
    obtain ⟨⟨_, _, _, _, _, _, _, _, _, _, _, _, _, _⟩, _⟩ := HJ.out w1 HT1.out
    clear hN1
    have HGb := Lib.hid (HG1.out.new (New.alloc' w1 (.cells #[.int .i64 (g.got o.ino).id.t, .int .i64 (g.got o.ino).id.r, .int .i64 (g.got o.ino).kind, .int .i64 (g.got o.ino).links, .int .i64 (g.got o.ino).mode, .string (g.got o.ino).data] 28)))
    have HTb := Lib.hid (HT1.out.trans ((New.alloc' w1 (.cells #[.int .i64 (g.got o.ino).id.t, .int .i64 (g.got o.ino).id.r, .int .i64 (g.got o.ino).kind, .int .i64 (g.got o.ino).links, .int .i64 (g.got o.ino).mode, .string (g.got o.ino).data] 28)).turn (Maps2 mI mE)))
    go_wp2_with fail
    go_region_held3 (fun W : World => W.cell? ⟨w.heap.size, 0, none⟩ = some (.pointer (some ⟨gb, 0, none⟩)) ∧ W.cell? ⟨w.heap.size, 1, none⟩ = some (.int .i64 o.stamp.t) ∧ W.cell? ⟨w.heap.size, 2, none⟩ = some (.int .i64 o.stamp.r) ∧ W.cell? ⟨w.heap.size, 3, none⟩ = some (.int .i64 o.kind) ∧ W.cell? ⟨w.heap.size, 4, none⟩ = some (.int .i64 o.at_.t) ∧ W.cell? ⟨w.heap.size, 5, none⟩ = some (.int .i64 o.at_.r) ∧ W.cell? ⟨w.heap.size, 6, none⟩ = some (.int .i64 o.ino.t) ∧ W.cell? ⟨w.heap.size, 7, none⟩ = some (.int .i64 o.ino.r) ∧ W.cell? ⟨w.heap.size, 8, none⟩ = some (.int .i64 o.to.t) ∧ W.cell? ⟨w.heap.size, 9, none⟩ = some (.int .i64 o.to.r) ∧ W.cell? ⟨w.heap.size, 10, none⟩ = some (.string o.name) ∧ W.cell? ⟨w.heap.size, 11, none⟩ = some (.string o.new) ∧ W.cell? ⟨w.heap.size, 12, none⟩ = some (.int .i64 o.off) ∧ W.cell? ⟨w.heap.size, 13, none⟩ = some (.string o.data)) (first | go_keep | exact (HJ.out _ HT2.out).1 | exact (HJ.out _ HTm.out).1 | exact (HJ.out _ HTb.out).1) (first
      | (go_at_call 116; (with_reducible refine (HMo.out _).mono ?_); rintro e wm ⟨rfl, hbm⟩; have HGm := Lib.hid (HGb.out.kept (hbm.block _ HGb.out.lt.1) (hbm.block _ HGb.out.lt.2.1) (hbm.block _ HGb.out.lt.2.2)); have HTm : Hid (Turn (Maps2 mI mE) W0 wm) := Lib.hid (HTb.out.trans ⟨hbm.os, hbm.tape, hbm.output, hbm.size, fun k hk _ => hbm.block k hk, fun _ ha => hbm.cell ha, fun _ ha => hbm.frozen ha⟩); clear hbm)
      | (go_at_call 115; (with_reducible refine (HMk.out _ HGm.out).mono ?_); rintro e w2 ⟨rfl, hG2, hT2⟩; have HG2 := Lib.hid hG2; have HT2 : Hid (Turn (Maps2 mI mE) W0 w2) := Lib.hid (HTm.out.trans hT2); clear hG2 hT2))
    obtain ⟨⟨_, _, _, _, _, _, _, _, _, _, _, _, _, _⟩, _⟩ := HJ.out w2 HT2.out
    go_wp2_with fail
    refine (HSe.out (g.make o.stamp (makesOf o.kind)) (HOK.out.makeD _ _) o.stamp 0 o.data _ HG2.out).mono ?_
    rintro e w3 ⟨rfl, hG3, hT3⟩
    have HG3 := Lib.hid hG3
    have HT3 : Hid (Turn (Maps2 mI mE) W0 w3) := Lib.hid (HT2.out.trans hT3)
    obtain ⟨⟨_, _, _, _, _, _, _, _, _, _, _, _, _, _⟩, _⟩ := HJ.out w3 HT3.out
    clear hG3 hT3
    go_wp2_with fail
    refine (HTi.out ((g.make o.stamp (makesOf o.kind)).setIf o.stamp 0 o.data) ((HOK.out.makeD _ _).setIf _ _ _) o.stamp _ HG3.out).mono ?_
    rintro e w4 ⟨rfl, hG4, hT4⟩
    have HG4 := Lib.hid hG4
    have HT4 : Hid (Turn (Maps2 mI mE) W0 w4) := Lib.hid (HT3.out.trans hT4)
    obtain ⟨⟨_, _, _, _, _, _, _, _, _, _, _, _, _, _⟩, _⟩ := HJ.out w4 HT4.out
    clear hG4 hT4
    go_wp2
    go_end0
    exact ⟨rfl, by rw [HR.out]; exact HG4.out, HTw.out.trans HT4.out⟩
  · have HR : Hid (g.does o = ((g.make o.stamp (makesOf o.kind)).setIf o.stamp 0 o.data).tie ⟨o.at_, o.name, o.stamp⟩) := Lib.hid (by unfold Gr.does; rw [if_pos (by omega)])
    have b1 : (o.kind == 1) = false := by rw [hk]; rfl
    have b2 : (o.kind == 2) = false := by rw [hk]; rfl
    have b3 : (o.kind == 3) = true := by rw [hk]; rfl
    clear hk
    obtain ⟨⟨_, _, _, _, _, _, _, _, _, _, _, _, _, _⟩, _⟩ := HJ.out W0 HT0.out
    go_enter Tryz.func76, Tryz.ntmps76
    go_wp2_with fail
    rw [← hW0]
    have HW0 := Lib.hid hW0
    clear hW0
    go_wp2_with fail
    refine (HGe.out W0 HG0.out).mono ?_
    rintro e w1 ⟨rfl, hN1⟩
    have HT1 : Hid (Turn (Maps2 mI mE) W0 w1) := Lib.hid (hN1.turn _)
    have HG1 := Lib.hid (HG0.out.new hN1)
    obtain ⟨⟨_, _, _, _, _, _, _, _, _, _, _, _, _, _⟩, _⟩ := HJ.out w1 HT1.out
    clear hN1
    have HGb := Lib.hid (HG1.out.new (New.alloc' w1 (.cells #[.int .i64 (g.got o.ino).id.t, .int .i64 (g.got o.ino).id.r, .int .i64 (g.got o.ino).kind, .int .i64 (g.got o.ino).links, .int .i64 (g.got o.ino).mode, .string (g.got o.ino).data] 28)))
    have HTb := Lib.hid (HT1.out.trans ((New.alloc' w1 (.cells #[.int .i64 (g.got o.ino).id.t, .int .i64 (g.got o.ino).id.r, .int .i64 (g.got o.ino).kind, .int .i64 (g.got o.ino).links, .int .i64 (g.got o.ino).mode, .string (g.got o.ino).data] 28)).turn (Maps2 mI mE)))
    go_wp2_with fail
    go_region_held3 (fun W : World => W.cell? ⟨w.heap.size, 0, none⟩ = some (.pointer (some ⟨gb, 0, none⟩)) ∧ W.cell? ⟨w.heap.size, 1, none⟩ = some (.int .i64 o.stamp.t) ∧ W.cell? ⟨w.heap.size, 2, none⟩ = some (.int .i64 o.stamp.r) ∧ W.cell? ⟨w.heap.size, 3, none⟩ = some (.int .i64 o.kind) ∧ W.cell? ⟨w.heap.size, 4, none⟩ = some (.int .i64 o.at_.t) ∧ W.cell? ⟨w.heap.size, 5, none⟩ = some (.int .i64 o.at_.r) ∧ W.cell? ⟨w.heap.size, 6, none⟩ = some (.int .i64 o.ino.t) ∧ W.cell? ⟨w.heap.size, 7, none⟩ = some (.int .i64 o.ino.r) ∧ W.cell? ⟨w.heap.size, 8, none⟩ = some (.int .i64 o.to.t) ∧ W.cell? ⟨w.heap.size, 9, none⟩ = some (.int .i64 o.to.r) ∧ W.cell? ⟨w.heap.size, 10, none⟩ = some (.string o.name) ∧ W.cell? ⟨w.heap.size, 11, none⟩ = some (.string o.new) ∧ W.cell? ⟨w.heap.size, 12, none⟩ = some (.int .i64 o.off) ∧ W.cell? ⟨w.heap.size, 13, none⟩ = some (.string o.data)) (first | go_keep | exact (HJ.out _ HT2.out).1 | exact (HJ.out _ HTm.out).1 | exact (HJ.out _ HTb.out).1) (first
      | (go_at_call 116; (with_reducible refine (HMo.out _).mono ?_); rintro e wm ⟨rfl, hbm⟩; have HGm := Lib.hid (HGb.out.kept (hbm.block _ HGb.out.lt.1) (hbm.block _ HGb.out.lt.2.1) (hbm.block _ HGb.out.lt.2.2)); have HTm : Hid (Turn (Maps2 mI mE) W0 wm) := Lib.hid (HTb.out.trans ⟨hbm.os, hbm.tape, hbm.output, hbm.size, fun k hk _ => hbm.block k hk, fun _ ha => hbm.cell ha, fun _ ha => hbm.frozen ha⟩); clear hbm)
      | (go_at_call 115; (with_reducible refine (HMk.out _ HGm.out).mono ?_); rintro e w2 ⟨rfl, hG2, hT2⟩; have HG2 := Lib.hid hG2; have HT2 : Hid (Turn (Maps2 mI mE) W0 w2) := Lib.hid (HTm.out.trans hT2); clear hG2 hT2))
    obtain ⟨⟨_, _, _, _, _, _, _, _, _, _, _, _, _, _⟩, _⟩ := HJ.out w2 HT2.out
    go_wp2_with fail
    refine (HSe.out (g.make o.stamp (makesOf o.kind)) (HOK.out.makeD _ _) o.stamp 0 o.data _ HG2.out).mono ?_
    rintro e w3 ⟨rfl, hG3, hT3⟩
    have HG3 := Lib.hid hG3
    have HT3 : Hid (Turn (Maps2 mI mE) W0 w3) := Lib.hid (HT2.out.trans hT3)
    obtain ⟨⟨_, _, _, _, _, _, _, _, _, _, _, _, _, _⟩, _⟩ := HJ.out w3 HT3.out
    clear hG3 hT3
    go_wp2_with fail
    refine (HTi.out ((g.make o.stamp (makesOf o.kind)).setIf o.stamp 0 o.data) ((HOK.out.makeD _ _).setIf _ _ _) o.stamp _ HG3.out).mono ?_
    rintro e w4 ⟨rfl, hG4, hT4⟩
    have HG4 := Lib.hid hG4
    have HT4 : Hid (Turn (Maps2 mI mE) W0 w4) := Lib.hid (HT3.out.trans hT4)
    obtain ⟨⟨_, _, _, _, _, _, _, _, _, _, _, _, _, _⟩, _⟩ := HJ.out w4 HT4.out
    clear hG4 hT4
    go_wp2
    go_end0
    exact ⟨rfl, by rw [HR.out]; exact HG4.out, HTw.out.trans HT4.out⟩
  · have HR : Hid (g.does o = g.tie ⟨o.at_, o.name, o.ino⟩) := Lib.hid (by unfold Gr.does; simp [hk])
    have b1 : (o.kind == 1) = false := by rw [hk]; rfl
    have b2 : (o.kind == 2) = false := by rw [hk]; rfl
    have b3 : (o.kind == 3) = false := by rw [hk]; rfl
    have b4 : (o.kind == 4) = true := by rw [hk]; rfl
    clear hk
    obtain ⟨⟨_, _, _, _, _, _, _, _, _, _, _, _, _, _⟩, _⟩ := HJ.out W0 HT0.out
    go_enter Tryz.func76, Tryz.ntmps76
    go_wp2_with fail
    rw [← hW0]
    have HW0 := Lib.hid hW0
    clear hW0
    go_wp2_with fail
    refine (HGe.out W0 HG0.out).mono ?_
    rintro e w1 ⟨rfl, hN1⟩
    have HT1 : Hid (Turn (Maps2 mI mE) W0 w1) := Lib.hid (hN1.turn _)
    have HG1 := Lib.hid (HG0.out.new hN1)
    obtain ⟨⟨_, _, _, _, _, _, _, _, _, _, _, _, _, _⟩, _⟩ := HJ.out w1 HT1.out
    clear hN1
    have HGb := Lib.hid (HG1.out.new (New.alloc' w1 (.cells #[.int .i64 (g.got o.ino).id.t, .int .i64 (g.got o.ino).id.r, .int .i64 (g.got o.ino).kind, .int .i64 (g.got o.ino).links, .int .i64 (g.got o.ino).mode, .string (g.got o.ino).data] 28)))
    have HTb := Lib.hid (HT1.out.trans ((New.alloc' w1 (.cells #[.int .i64 (g.got o.ino).id.t, .int .i64 (g.got o.ino).id.r, .int .i64 (g.got o.ino).kind, .int .i64 (g.got o.ino).links, .int .i64 (g.got o.ino).mode, .string (g.got o.ino).data] 28)).turn (Maps2 mI mE)))
    go_wp2_with fail
    refine (HTi.out g HOK.out o.ino _ HGb.out).mono ?_
    rintro e w2 ⟨rfl, hG2, hT2⟩
    have HG2 := Lib.hid hG2
    have HT2 : Hid (Turn (Maps2 mI mE) W0 w2) := Lib.hid (HTb.out.trans hT2)
    obtain ⟨⟨_, _, _, _, _, _, _, _, _, _, _, _, _, _⟩, _⟩ := HJ.out w2 HT2.out
    clear hG2 hT2
    go_wp2
    go_end0
    exact ⟨rfl, by rw [HR.out]; exact HG2.out, HTw.out.trans HT2.out⟩
  · have HR : Hid (g.does o = g.gone ⟨o.at_, o.name⟩) := Lib.hid (by unfold Gr.does; simp [hk])
    have b1 : (o.kind == 1) = false := by rw [hk]; rfl
    have b2 : (o.kind == 2) = false := by rw [hk]; rfl
    have b3 : (o.kind == 3) = false := by rw [hk]; rfl
    have b4 : (o.kind == 4) = false := by rw [hk]; rfl
    have b5 : (o.kind == 5) = true := by rw [hk]; rfl
    clear hk
    obtain ⟨⟨_, _, _, _, _, _, _, _, _, _, _, _, _, _⟩, _⟩ := HJ.out W0 HT0.out
    go_enter Tryz.func76, Tryz.ntmps76
    go_wp2_with fail
    rw [← hW0]
    have HW0 := Lib.hid hW0
    clear hW0
    go_wp2_with fail
    refine (HGe.out W0 HG0.out).mono ?_
    rintro e w1 ⟨rfl, hN1⟩
    have HT1 : Hid (Turn (Maps2 mI mE) W0 w1) := Lib.hid (hN1.turn _)
    have HG1 := Lib.hid (HG0.out.new hN1)
    obtain ⟨⟨_, _, _, _, _, _, _, _, _, _, _, _, _, _⟩, _⟩ := HJ.out w1 HT1.out
    clear hN1
    have HGb := Lib.hid (HG1.out.new (New.alloc' w1 (.cells #[.int .i64 (g.got o.ino).id.t, .int .i64 (g.got o.ino).id.r, .int .i64 (g.got o.ino).kind, .int .i64 (g.got o.ino).links, .int .i64 (g.got o.ino).mode, .string (g.got o.ino).data] 28)))
    have HTb := Lib.hid (HT1.out.trans ((New.alloc' w1 (.cells #[.int .i64 (g.got o.ino).id.t, .int .i64 (g.got o.ino).id.r, .int .i64 (g.got o.ino).kind, .int .i64 (g.got o.ino).links, .int .i64 (g.got o.ino).mode, .string (g.got o.ino).data] 28)).turn (Maps2 mI mE)))
    go_wp2_with fail
    refine (HGo.out _ HGb.out).mono ?_
    rintro e w2 ⟨rfl, hG2, hT2⟩
    have HG2 := Lib.hid hG2
    have HT2 : Hid (Turn (Maps2 mI mE) W0 w2) := Lib.hid (HTb.out.trans hT2)
    obtain ⟨⟨_, _, _, _, _, _, _, _, _, _, _, _, _, _⟩, _⟩ := HJ.out w2 HT2.out
    clear hG2 hT2
    go_wp2
    go_end0
    exact ⟨rfl, by rw [HR.out]; exact HG2.out, HTw.out.trans HT2.out⟩
  · have HR : Hid (g.does o = g.gone ⟨o.at_, o.name⟩) := Lib.hid (by unfold Gr.does; simp [hk])
    have b1 : (o.kind == 1) = false := by rw [hk]; rfl
    have b2 : (o.kind == 2) = false := by rw [hk]; rfl
    have b3 : (o.kind == 3) = false := by rw [hk]; rfl
    have b4 : (o.kind == 4) = false := by rw [hk]; rfl
    have b5 : (o.kind == 5) = false := by rw [hk]; rfl
    have b6 : (o.kind == 6) = true := by rw [hk]; rfl
    clear hk
    obtain ⟨⟨_, _, _, _, _, _, _, _, _, _, _, _, _, _⟩, _⟩ := HJ.out W0 HT0.out
    go_enter Tryz.func76, Tryz.ntmps76
    go_wp2_with fail
    rw [← hW0]
    have HW0 := Lib.hid hW0
    clear hW0
    go_wp2_with fail
    refine (HGe.out W0 HG0.out).mono ?_
    rintro e w1 ⟨rfl, hN1⟩
    have HT1 : Hid (Turn (Maps2 mI mE) W0 w1) := Lib.hid (hN1.turn _)
    have HG1 := Lib.hid (HG0.out.new hN1)
    obtain ⟨⟨_, _, _, _, _, _, _, _, _, _, _, _, _, _⟩, _⟩ := HJ.out w1 HT1.out
    clear hN1
    have HGb := Lib.hid (HG1.out.new (New.alloc' w1 (.cells #[.int .i64 (g.got o.ino).id.t, .int .i64 (g.got o.ino).id.r, .int .i64 (g.got o.ino).kind, .int .i64 (g.got o.ino).links, .int .i64 (g.got o.ino).mode, .string (g.got o.ino).data] 28)))
    have HTb := Lib.hid (HT1.out.trans ((New.alloc' w1 (.cells #[.int .i64 (g.got o.ino).id.t, .int .i64 (g.got o.ino).id.r, .int .i64 (g.got o.ino).kind, .int .i64 (g.got o.ino).links, .int .i64 (g.got o.ino).mode, .string (g.got o.ino).data] 28)).turn (Maps2 mI mE)))
    go_wp2_with fail
    refine (HGo.out _ HGb.out).mono ?_
    rintro e w2 ⟨rfl, hG2, hT2⟩
    have HG2 := Lib.hid hG2
    have HT2 : Hid (Turn (Maps2 mI mE) W0 w2) := Lib.hid (HTb.out.trans hT2)
    obtain ⟨⟨_, _, _, _, _, _, _, _, _, _, _, _, _, _⟩, _⟩ := HJ.out w2 HT2.out
    clear hG2 hT2
    go_wp2
    go_end0
    exact ⟨rfl, by rw [HR.out]; exact HG2.out, HTw.out.trans HT2.out⟩
  · have HR : Hid (g.does o = g.rename o) := Lib.hid (by unfold Gr.does; simp [hk])
    have b1 : (o.kind == 1) = false := by rw [hk]; rfl
    have b2 : (o.kind == 2) = false := by rw [hk]; rfl
    have b3 : (o.kind == 3) = false := by rw [hk]; rfl
    have b4 : (o.kind == 4) = false := by rw [hk]; rfl
    have b5 : (o.kind == 5) = false := by rw [hk]; rfl
    have b6 : (o.kind == 6) = false := by rw [hk]; rfl
    have b7 : (o.kind == 7) = true := by rw [hk]; rfl
    clear hk
    obtain ⟨⟨_, _, _, _, _, _, _, _, _, _, _, _, _, _⟩, _⟩ := HJ.out W0 HT0.out
    go_enter Tryz.func76, Tryz.ntmps76
    go_wp2_with fail
    rw [← hW0]
    have HW0 := Lib.hid hW0
    clear hW0
    go_wp2_with fail
    refine (HGe.out W0 HG0.out).mono ?_
    rintro e w1 ⟨rfl, hN1⟩
    have HT1 : Hid (Turn (Maps2 mI mE) W0 w1) := Lib.hid (hN1.turn _)
    have HG1 := Lib.hid (HG0.out.new hN1)
    obtain ⟨⟨_, _, _, _, _, _, _, _, _, _, _, _, _, _⟩, _⟩ := HJ.out w1 HT1.out
    clear hN1
    have HGb := Lib.hid (HG1.out.new (New.alloc' w1 (.cells #[.int .i64 (g.got o.ino).id.t, .int .i64 (g.got o.ino).id.r, .int .i64 (g.got o.ino).kind, .int .i64 (g.got o.ino).links, .int .i64 (g.got o.ino).mode, .string (g.got o.ino).data] 28)))
    have HTb := Lib.hid (HT1.out.trans ((New.alloc' w1 (.cells #[.int .i64 (g.got o.ino).id.t, .int .i64 (g.got o.ino).id.r, .int .i64 (g.got o.ino).kind, .int .i64 (g.got o.ino).links, .int .i64 (g.got o.ino).mode, .string (g.got o.ino).data] 28)).turn (Maps2 mI mE)))
    go_wp2_with fail
    refine (HRe.out _ HGb.out).mono ?_
    rintro e w2 ⟨rfl, hG2, hT2⟩
    have HG2 := Lib.hid hG2
    have HT2 : Hid (Turn (Maps2 mI mE) W0 w2) := Lib.hid (HTb.out.trans hT2)
    obtain ⟨⟨_, _, _, _, _, _, _, _, _, _, _, _, _, _⟩, _⟩ := HJ.out w2 HT2.out
    clear hG2 hT2
    go_wp2
    go_end0
    exact ⟨rfl, by rw [HR.out]; exact HG2.out, HTw.out.trans HT2.out⟩
  · have HR : Hid (g.does o = g.setIf o.ino (g.got o.ino).mode (writeF (g.got o.ino).data o.off o.data).1) := Lib.hid (by unfold Gr.does; simp [hk])
    have b1 : (o.kind == 1) = false := by rw [hk]; rfl
    have b2 : (o.kind == 2) = false := by rw [hk]; rfl
    have b3 : (o.kind == 3) = false := by rw [hk]; rfl
    have b4 : (o.kind == 4) = false := by rw [hk]; rfl
    have b5 : (o.kind == 5) = false := by rw [hk]; rfl
    have b6 : (o.kind == 6) = false := by rw [hk]; rfl
    have b7 : (o.kind == 7) = false := by rw [hk]; rfl
    have b8 : (o.kind == 8) = true := by rw [hk]; rfl
    clear hk
    obtain ⟨⟨_, _, _, _, _, _, _, _, _, _, _, _, _, _⟩, _⟩ := HJ.out W0 HT0.out
    go_enter Tryz.func76, Tryz.ntmps76
    go_wp2_with fail
    rw [← hW0]
    have HW0 := Lib.hid hW0
    clear hW0
    go_wp2_with fail
    refine (HGe.out W0 HG0.out).mono ?_
    rintro e w1 ⟨rfl, hN1⟩
    have HT1 : Hid (Turn (Maps2 mI mE) W0 w1) := Lib.hid (hN1.turn _)
    have HG1 := Lib.hid (HG0.out.new hN1)
    obtain ⟨⟨_, _, _, _, _, _, _, _, _, _, _, _, _, _⟩, _⟩ := HJ.out w1 HT1.out
    clear hN1
    have HGb := Lib.hid (HG1.out.new (New.alloc' w1 (.cells #[.int .i64 (g.got o.ino).id.t, .int .i64 (g.got o.ino).id.r, .int .i64 (g.got o.ino).kind, .int .i64 (g.got o.ino).links, .int .i64 (g.got o.ino).mode, .string (g.got o.ino).data] 28)))
    have HTb := Lib.hid (HT1.out.trans ((New.alloc' w1 (.cells #[.int .i64 (g.got o.ino).id.t, .int .i64 (g.got o.ino).id.r, .int .i64 (g.got o.ino).kind, .int .i64 (g.got o.ino).links, .int .i64 (g.got o.ino).mode, .string (g.got o.ino).data] 28)).turn (Maps2 mI mE)))
    go_wp2_with fail
    refine (HWr.out _).mono ?_
    rintro e wm ⟨rfl, hbm⟩
    have hbt : Turn (Maps2 mI mE) (w1.alloc (.cells #[.int .i64 (g.got o.ino).id.t, .int .i64 (g.got o.ino).id.r, .int .i64 (g.got o.ino).kind, .int .i64 (g.got o.ino).links, .int .i64 (g.got o.ino).mode, .string (g.got o.ino).data] 28)) wm := Below.turn hbm _
    have HGm := Lib.hid (HGb.out.below hbm)
    have HTm : Hid (Turn (Maps2 mI mE) W0 wm) := Lib.hid (HTb.out.trans hbt)
    obtain ⟨⟨_, _, _, _, _, _, _, _, _, _, _, _, _, _⟩, _⟩ := HJ.out wm HTm.out
    have hmode : wm.cell? ⟨w1.heap.size, 4, none⟩ = some (.int .i64 (g.got o.ino).mode) := (hbt.cell ⟨w1.heap.size, 4, none⟩ (by simp)).trans (cell_new w1 _ rfl _ _ 4 _ rfl)
    clear hbm hbt
    go_wp2_with fail
    refine (HSe.out g HOK.out o.ino (g.got o.ino).mode (writeF (g.got o.ino).data o.off o.data).1 _ HGm.out).mono ?_
    rintro e w2 ⟨rfl, hG2, hT2⟩
    have HG2 := Lib.hid hG2
    have HT2 : Hid (Turn (Maps2 mI mE) W0 w2) := Lib.hid (HTm.out.trans hT2)
    obtain ⟨⟨_, _, _, _, _, _, _, _, _, _, _, _, _, _⟩, _⟩ := HJ.out w2 HT2.out
    clear hG2 hT2
    go_wp2
    go_end0
    exact ⟨rfl, by rw [HR.out]; exact HG2.out, HTw.out.trans HT2.out⟩
  · have HR : Hid (g.does o = g.setIf o.ino (g.got o.ino).mode (truncF (g.got o.ino).data o.off).1) := Lib.hid (by unfold Gr.does; simp [hk])
    have b1 : (o.kind == 1) = false := by rw [hk]; rfl
    have b2 : (o.kind == 2) = false := by rw [hk]; rfl
    have b3 : (o.kind == 3) = false := by rw [hk]; rfl
    have b4 : (o.kind == 4) = false := by rw [hk]; rfl
    have b5 : (o.kind == 5) = false := by rw [hk]; rfl
    have b6 : (o.kind == 6) = false := by rw [hk]; rfl
    have b7 : (o.kind == 7) = false := by rw [hk]; rfl
    have b8 : (o.kind == 8) = false := by rw [hk]; rfl
    have b9 : (o.kind == 9) = true := by rw [hk]; rfl
    clear hk
    obtain ⟨⟨_, _, _, _, _, _, _, _, _, _, _, _, _, _⟩, _⟩ := HJ.out W0 HT0.out
    go_enter Tryz.func76, Tryz.ntmps76
    go_wp2_with fail
    rw [← hW0]
    have HW0 := Lib.hid hW0
    clear hW0
    go_wp2_with fail
    refine (HGe.out W0 HG0.out).mono ?_
    rintro e w1 ⟨rfl, hN1⟩
    have HT1 : Hid (Turn (Maps2 mI mE) W0 w1) := Lib.hid (hN1.turn _)
    have HG1 := Lib.hid (HG0.out.new hN1)
    obtain ⟨⟨_, _, _, _, _, _, _, _, _, _, _, _, _, _⟩, _⟩ := HJ.out w1 HT1.out
    clear hN1
    have HGb := Lib.hid (HG1.out.new (New.alloc' w1 (.cells #[.int .i64 (g.got o.ino).id.t, .int .i64 (g.got o.ino).id.r, .int .i64 (g.got o.ino).kind, .int .i64 (g.got o.ino).links, .int .i64 (g.got o.ino).mode, .string (g.got o.ino).data] 28)))
    have HTb := Lib.hid (HT1.out.trans ((New.alloc' w1 (.cells #[.int .i64 (g.got o.ino).id.t, .int .i64 (g.got o.ino).id.r, .int .i64 (g.got o.ino).kind, .int .i64 (g.got o.ino).links, .int .i64 (g.got o.ino).mode, .string (g.got o.ino).data] 28)).turn (Maps2 mI mE)))
    go_wp2_with fail
    refine (HTr.out _).mono ?_
    rintro e wm ⟨rfl, hbm⟩
    have hbt : Turn (Maps2 mI mE) (w1.alloc (.cells #[.int .i64 (g.got o.ino).id.t, .int .i64 (g.got o.ino).id.r, .int .i64 (g.got o.ino).kind, .int .i64 (g.got o.ino).links, .int .i64 (g.got o.ino).mode, .string (g.got o.ino).data] 28)) wm := Below.turn hbm _
    have HGm := Lib.hid (HGb.out.below hbm)
    have HTm : Hid (Turn (Maps2 mI mE) W0 wm) := Lib.hid (HTb.out.trans hbt)
    obtain ⟨⟨_, _, _, _, _, _, _, _, _, _, _, _, _, _⟩, _⟩ := HJ.out wm HTm.out
    have hmode : wm.cell? ⟨w1.heap.size, 4, none⟩ = some (.int .i64 (g.got o.ino).mode) := (hbt.cell ⟨w1.heap.size, 4, none⟩ (by simp)).trans (cell_new w1 _ rfl _ _ 4 _ rfl)
    clear hbm hbt
    go_wp2_with fail
    refine (HSe.out g HOK.out o.ino (g.got o.ino).mode (truncF (g.got o.ino).data o.off).1 _ HGm.out).mono ?_
    rintro e w2 ⟨rfl, hG2, hT2⟩
    have HG2 := Lib.hid hG2
    have HT2 : Hid (Turn (Maps2 mI mE) W0 w2) := Lib.hid (HTm.out.trans hT2)
    obtain ⟨⟨_, _, _, _, _, _, _, _, _, _, _, _, _, _⟩, _⟩ := HJ.out w2 HT2.out
    clear hG2 hT2
    go_wp2
    go_end0
    exact ⟨rfl, by rw [HR.out]; exact HG2.out, HTw.out.trans HT2.out⟩
  · have HR : Hid (g.does o = g.setIf o.ino o.off (g.got o.ino).data) := Lib.hid (by unfold Gr.does; simp [hk])
    have b1 : (o.kind == 1) = false := by rw [hk]; rfl
    have b2 : (o.kind == 2) = false := by rw [hk]; rfl
    have b3 : (o.kind == 3) = false := by rw [hk]; rfl
    have b4 : (o.kind == 4) = false := by rw [hk]; rfl
    have b5 : (o.kind == 5) = false := by rw [hk]; rfl
    have b6 : (o.kind == 6) = false := by rw [hk]; rfl
    have b7 : (o.kind == 7) = false := by rw [hk]; rfl
    have b8 : (o.kind == 8) = false := by rw [hk]; rfl
    have b9 : (o.kind == 9) = false := by rw [hk]; rfl
    have b10 : (o.kind == 10) = true := by rw [hk]; rfl
    clear hk
    obtain ⟨⟨_, _, _, _, _, _, _, _, _, _, _, _, _, _⟩, _⟩ := HJ.out W0 HT0.out
    go_enter Tryz.func76, Tryz.ntmps76
    go_wp2_with fail
    rw [← hW0]
    have HW0 := Lib.hid hW0
    clear hW0
    go_wp2_with fail
    refine (HGe.out W0 HG0.out).mono ?_
    rintro e w1 ⟨rfl, hN1⟩
    have HT1 : Hid (Turn (Maps2 mI mE) W0 w1) := Lib.hid (hN1.turn _)
    have HG1 := Lib.hid (HG0.out.new hN1)
    obtain ⟨⟨_, _, _, _, _, _, _, _, _, _, _, _, _, _⟩, _⟩ := HJ.out w1 HT1.out
    clear hN1
    have HGb := Lib.hid (HG1.out.new (New.alloc' w1 (.cells #[.int .i64 (g.got o.ino).id.t, .int .i64 (g.got o.ino).id.r, .int .i64 (g.got o.ino).kind, .int .i64 (g.got o.ino).links, .int .i64 (g.got o.ino).mode, .string (g.got o.ino).data] 28)))
    have HTb := Lib.hid (HT1.out.trans ((New.alloc' w1 (.cells #[.int .i64 (g.got o.ino).id.t, .int .i64 (g.got o.ino).id.r, .int .i64 (g.got o.ino).kind, .int .i64 (g.got o.ino).links, .int .i64 (g.got o.ino).mode, .string (g.got o.ino).data] 28)).turn (Maps2 mI mE)))
    go_wp2_with fail
    refine (HSe.out g HOK.out o.ino o.off (g.got o.ino).data _ HGb.out).mono ?_
    rintro e w2 ⟨rfl, hG2, hT2⟩
    have HG2 := Lib.hid hG2
    have HT2 : Hid (Turn (Maps2 mI mE) W0 w2) := Lib.hid (HTb.out.trans hT2)
    obtain ⟨⟨_, _, _, _, _, _, _, _, _, _, _, _, _, _⟩, _⟩ := HJ.out w2 HT2.out
    clear hG2 hT2
    go_wp2
    go_end0
    exact ⟨rfl, by rw [HR.out]; exact HG2.out, HTw.out.trans HT2.out⟩
end Go.Proofs.YtfbjiaedfmdcfaaGreatDoor
