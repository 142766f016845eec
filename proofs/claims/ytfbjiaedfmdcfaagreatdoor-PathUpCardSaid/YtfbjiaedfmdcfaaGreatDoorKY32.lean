/-
  op.May; condition: strings' lengths.
-/
import Derived.Test.YtfbjiaedfmdcfaaGreatDoorKY31
import Derived.Test.YtfbjiaedfmdcfaaGreatDoorKY26
import Derived.Deep.RegionHeld3
import Derived.Deep.CutRange
/-! ## OpM -/
namespace Go.Proofs.YtfbjiaedfmdcfaaGreatDoor
open Go.RowKit Go.Shelf Go.Proofs

theorem size_drew (w : World) : w.drew.heap.size = w.heap.size := rfl
theorem eql_st (p q : St) (w : World) : (binOp .eql 26 (.agg #[.int .i64 p.t, .int .i64 p.r]) (.agg #[.int .i64 q.t, .int .i64 q.r])).run Tryz.prog w = .ok (.bool (decide (p = q))) w := by
  simp only [binOp]
  simp only [Sem.run_bind]
  rw [eq_st, eqSt]
  rfl
theorem neq_st (p q : St) (w : World) : (binOp .neq 26 (.agg #[.int .i64 p.t, .int .i64 p.r]) (.agg #[.int .i64 q.t, .int .i64 q.r])).run Tryz.prog w = .ok (.bool (!decide (p = q))) w := by
  simp only [binOp]
  simp only [Sem.run_bind]
  rw [eq_st, eqSt]
  rfl
/-- a box that holds an operation, in all worlds behind -/
theorem obox {w W : World} {o : Op} (hb : Below (w.alloc (.cells #[.int .i64 o.stamp.t, .int .i64 o.stamp.r, .int .i64 o.kind, .int .i64 o.at_.t, .int .i64 o.at_.r, .int .i64 o.ino.t, .int .i64 o.ino.r, .int .i64 o.to.t, .int .i64 o.to.r, .string o.name, .string o.new, .int .i64 o.off, .string o.data] 42)).heap.size (w.alloc (.cells #[.int .i64 o.stamp.t, .int .i64 o.stamp.r, .int .i64 o.kind, .int .i64 o.at_.t, .int .i64 o.at_.r, .int .i64 o.ino.t, .int .i64 o.ino.r, .int .i64 o.to.t, .int .i64 o.to.r, .string o.name, .string o.new, .int .i64 o.off, .string o.data] 42)) W) : (fun W : World => W.cell? ⟨w.heap.size, 0, none⟩ = some (.int .i64 o.stamp.t) ∧ W.cell? ⟨w.heap.size, 1, none⟩ = some (.int .i64 o.stamp.r) ∧ W.cell? ⟨w.heap.size, 2, none⟩ = some (.int .i64 o.kind) ∧ W.cell? ⟨w.heap.size, 3, none⟩ = some (.int .i64 o.at_.t) ∧ W.cell? ⟨w.heap.size, 4, none⟩ = some (.int .i64 o.at_.r) ∧ W.cell? ⟨w.heap.size, 5, none⟩ = some (.int .i64 o.ino.t) ∧ W.cell? ⟨w.heap.size, 6, none⟩ = some (.int .i64 o.ino.r) ∧ W.cell? ⟨w.heap.size, 7, none⟩ = some (.int .i64 o.to.t) ∧ W.cell? ⟨w.heap.size, 8, none⟩ = some (.int .i64 o.to.r) ∧ W.cell? ⟨w.heap.size, 9, none⟩ = some (.string o.name) ∧ W.cell? ⟨w.heap.size, 10, none⟩ = some (.string o.new) ∧ W.cell? ⟨w.heap.size, 11, none⟩ = some (.int .i64 o.off) ∧ W.cell? ⟨w.heap.size, 12, none⟩ = some (.string o.data)) W := by
  have e : ∀ i v, (o.cells.toArray : Array Value)[i]? = some v → W.cell? ⟨w.heap.size, i, none⟩ = some v :=
    fun i v h => (hb.cell (p := ⟨w.heap.size, i, none⟩) (by simp)).trans (cell_new _ _ rfl _ _ i v h)
  exact ⟨e 0 _ rfl, e 1 _ rfl, e 2 _ rfl, e 3 _ rfl, e 4 _ rfl, e 5 _ rfl, e 6 _ rfl, e 7 _ rfl, e 8 _ rfl, e 9 _ rfl, e 10 _ rfl, e 11 _ rfl, e 12 _ rfl⟩

theorem bit_of (k : Int) (b : Nat) (hb : b = 1 ∨ b = 2 ∨ b = 4 ∨ b = 8 ∨ b = 16 ∨ b = 32 ∨ b = 64) : (bits BinOp.and IntKind.i64 (fieldsOf k : Nat) (b : Nat) != 0) = decide (fieldsOf k &&& b ≠ 0) ∧ (bits BinOp.and IntKind.i64 (fieldsOf k : Nat) (b : Nat) == 0) = !decide (fieldsOf k &&& b ≠ 0) := by
  have hf : fieldsOf k = 0 ∨ fieldsOf k = 9 ∨ fieldsOf k = 73 ∨ fieldsOf k = 11 ∨ fieldsOf k = 31 ∨ fieldsOf k = 98 ∨ fieldsOf k = 34 := by
    unfold fieldsOf
    repeat' split
    all_goals decide
  rcases hf with h | h | h | h | h | h | h <;> rw [h] <;> rcases hb with rfl | rfl | rfl | rfl | rfl | rfl | rfl <;> decide

theorem empty_is (s : ByteArray) : s.toList.isEmpty = (s.size == 0) := by
  rw [Bool.eq_iff_iff]
  simp only [List.isEmpty_iff, beq_iff_eq]
  exact empty_size

/-- the seven rows -/
def rowAt (o : Op) (k : Nat) : Nat × Bool × Bool :=
  if k = 0 then (1, o.at_.mayB, o.at_.isZ) else if k = 1 then (2, o.ino.mayB, o.ino.isZ) else if k = 2 then (4, o.to.mayB, o.to.isZ) else if k = 3 then (8, nameOk o.name, o.name.toList.isEmpty)
  else if k = 4 then (16, nameOk o.new, o.new.toList.isEmpty) else if k = 5 then (32, true, o.off == 0) else (64, true, o.data.toList.isEmpty)
def rowOk (o : Op) (k : Nat) : Bool := bitOk (fieldsOf o.kind) (rowAt o k).1 (rowAt o k).2.1 (rowAt o k).2.2
theorem rowsOk_iff (o : Op) : rowsOk o = true ↔ ∀ k, k < 7 → rowOk o k = true := by
  unfold rowsOk
  rw [← empty_is, ← empty_is, ← empty_is]
  simp only [Bool.and_eq_true]
  constructor
  · rintro ⟨a, b, c, d, e, f, g⟩ k hk
    have hc : k = 0 ∨ k = 1 ∨ k = 2 ∨ k = 3 ∨ k = 4 ∨ k = 5 ∨ k = 6 := by omega
    rcases hc with rfl | rfl | rfl | rfl | rfl | rfl | rfl
    · exact a
    · exact b
    · exact c
    · exact d
    · exact e
    · exact f
    · exact g
  · intro h
    exact ⟨h 0 (by omega), h 1 (by omega), h 2 (by omega), h 3 (by omega), h 4 (by omega), h 5 (by omega), h 6 (by omega)⟩

set_option maxRecDepth 100000 in
set_option maxHeartbeats 4000000 in
theorem opMay_any (o : Op) (w : World) (hs : o.Small) : Calls Tryz.prog 42 #[o.v] w fun x w' => x = .returned (.bool (opMay o)) ∧ Below w.heap.size w w' := by
  obtain ⟨W0, hW0⟩ : ∃ W0, W0 = w.alloc (.cells #[.int .i64 o.stamp.t, .int .i64 o.stamp.r, .int .i64 o.kind, .int .i64 o.at_.t, .int .i64 o.at_.r, .int .i64 o.ino.t, .int .i64 o.ino.r, .int .i64 o.to.t, .int .i64 o.to.r, .string o.name, .string o.new, .int .i64 o.off, .string o.data] 42) := ⟨_, rfl⟩
  have HW : Hid (Below w.heap.size w W0) := Lib.hid (by rw [hW0]; exact (Below.refl _ _).alloc (Nat.le_refl _) _)
  have hz : w.heap.size < W0.heap.size := by rw [hW0]; simp
  have HJ : Hid (∀ W, Below W0.heap.size W0 W → (fun W : World => W.cell? ⟨w.heap.size, 0, none⟩ = some (.int .i64 o.stamp.t) ∧ W.cell? ⟨w.heap.size, 1, none⟩ = some (.int .i64 o.stamp.r) ∧ W.cell? ⟨w.heap.size, 2, none⟩ = some (.int .i64 o.kind) ∧ W.cell? ⟨w.heap.size, 3, none⟩ = some (.int .i64 o.at_.t) ∧ W.cell? ⟨w.heap.size, 4, none⟩ = some (.int .i64 o.at_.r) ∧ W.cell? ⟨w.heap.size, 5, none⟩ = some (.int .i64 o.ino.t) ∧ W.cell? ⟨w.heap.size, 6, none⟩ = some (.int .i64 o.ino.r) ∧ W.cell? ⟨w.heap.size, 7, none⟩ = some (.int .i64 o.to.t) ∧ W.cell? ⟨w.heap.size, 8, none⟩ = some (.int .i64 o.to.r) ∧ W.cell? ⟨w.heap.size, 9, none⟩ = some (.string o.name) ∧ W.cell? ⟨w.heap.size, 10, none⟩ = some (.string o.new) ∧ W.cell? ⟨w.heap.size, 11, none⟩ = some (.int .i64 o.off) ∧ W.cell? ⟨w.heap.size, 12, none⟩ = some (.string o.data)) W ∧ w.heap.size < W.heap.size) := Lib.hid (by rw [hW0]; exact fun W hW => ⟨obox hW, by have := hW.size; simp at this; omega⟩)
  have HB0 : Hid (Below W0.heap.size W0 W0) := Lib.hid (Below.refl _ _)
  have HM : Hid (∀ t r W, Calls Tryz.prog 82 #[.agg #[.int .i64 t, .int .i64 r]] W fun e w' => e = .returned (.bool (mayB t r)) ∧ Below W.heap.size W w') := Lib.hid fun t r W => (may_any t r W).mono fun e w' ⟨a, b⟩ => ⟨a, b.below⟩
  have HNA : Hid (∀ W, Calls Tryz.prog 83 #[.string o.name] W fun e w' => e = .returned (.bool (nameOk o.name)) ∧ Below W.heap.size W w') := Lib.hid fun W => name_any o.name W (by have := hs.1; unfold reachBytes at this; unfold maxLen; omega)
  have HNB : Hid (∀ W, Calls Tryz.prog 83 #[.string o.new] W fun e w' => e = .returned (.bool (nameOk o.new)) ∧ Below W.heap.size W w') := Lib.hid fun W => name_any o.new W (by have := hs.2.1; unfold reachBytes at this; unfold maxLen; omega)
  have HF : Hid (∀ W, Calls Tryz.prog 81 #[.int .i64 o.kind] W fun e w' => e = .returned (.int .i64 (fieldsOf o.kind : Nat)) ∧ Below W.heap.size W w') := Lib.hid fun W => fields_any o.kind W
  have HD : Hid (∀ W, Calls Tryz.prog 84 #[(.agg #[.int .i64 o.stamp.t, .int .i64 o.stamp.r, .int .i64 o.kind, .int .i64 o.at_.t, .int .i64 o.at_.r, .int .i64 o.ino.t, .int .i64 o.ino.r, .int .i64 o.to.t, .int .i64 o.to.r, .string o.name, .string o.new, .int .i64 o.off, .string o.data])] W fun e w' => e = .returned (.bool (dataOk o)) ∧ Below W.heap.size W w') := Lib.hid fun W => opData_any o W hs.2.2
  have z1 : ∀ w, (binOp .eql 26 (.agg #[.int .i64 o.at_.t, .int .i64 o.at_.r]) (.agg #[.int .i64 0, .int .i64 0])).run Tryz.prog w = .ok (.bool o.at_.isZ) w := fun w => eql_st o.at_ ⟨0, 0⟩ w
  have z2 : ∀ w, (binOp .eql 26 (.agg #[.int .i64 o.ino.t, .int .i64 o.ino.r]) (.agg #[.int .i64 0, .int .i64 0])).run Tryz.prog w = .ok (.bool o.ino.isZ) w := fun w => eql_st o.ino ⟨0, 0⟩ w
  have z3 : ∀ w, (binOp .eql 26 (.agg #[.int .i64 o.to.t, .int .i64 o.to.r]) (.agg #[.int .i64 0, .int .i64 0])).run Tryz.prog w = .ok (.bool o.to.isZ) w := fun w => eql_st o.to ⟨0, 0⟩ w
  clear hs
  unfold Op.v
  go_enter Tryz.func42, Tryz.ntmps42
  go_wp2_with fail
  rw [← hW0]
  have HW0 := Lib.hid hW0
  clear hW0
  obtain ⟨⟨_, _, _, _, _, _, _, _, _, _, _, _, _⟩, _⟩ := HJ.out W0 HB0.out
  go_wp2_with fail
  refine (HF.out _).mono ?_
  rintro e w1 ⟨rfl, hb1⟩
  obtain ⟨hc1, hf1⟩ := bcell hb1
  have hs1 := hb1.size
  try simp only [size_drew] at hs1
  try simp only [World.size_alloc] at hs1
  try simp only [size_setCell'] at hs1
  try have le1_0 : W0.heap.size ≤ w1.heap.size := (by omega)
  try have lt1_0 : W0.heap.size < w1.heap.size := (by omega)
  have HB1 : Hid (Below W0.heap.size W0 w1) := Lib.hid (Below.trans (by first | exact HB0.out | exact HB0.out.alloc HB0.out.size _ | exact (HB0.out.alloc HB0.out.size _).alloc (le_al HB0.out.size) _ | exact ((HB0.out.alloc HB0.out.size _).alloc (le_al HB0.out.size) _).alloc (le_al (le_al HB0.out.size)) _ | exact HB0.out.drew | exact (HB0.out.alloc HB0.out.size _).drew | exact ((HB0.out.alloc HB0.out.size _).alloc (le_al HB0.out.size) _).drew) (hb1.mono (by (try simp only [size_drew]); (try simp only [World.size_alloc]); (try simp only [size_setCell']); omega)))
  have HN1 := Lib.hid hb1
  clear hb1 hs1
  obtain ⟨⟨_, _, _, _, _, _, _, _, _, _, _, _, _⟩, _⟩ := HJ.out w1 HB1.out
  go_wp2
  go_cut [55, 56, 57] from 4 to 57 (fun s55 s56 s57 wx => ∃ B : Nat, s55 = .slice (some ⟨B, 0, none⟩) 7 7 ∧ s56 = .int .i64 7 ∧ s57 = .int .i64 0 ∧ Aside (∃ T, wx.heap[B]? = some (.cells #[.int .i64 1, .bool (mayB o.at_.t o.at_.r), .bool o.at_.isZ, .int .i64 2, .bool (mayB o.ino.t o.ino.r), .bool o.ino.isZ, .int .i64 4, .bool (mayB o.to.t o.to.r), .bool o.to.isZ, .int .i64 8, .bool (nameOk o.name), .bool o.name.toList.isEmpty, .int .i64 16, .bool (nameOk o.new), .bool o.new.toList.isEmpty, .int .i64 32, .bool true, .bool (o.off == 0), .int .i64 64, .bool true, .bool o.data.toList.isEmpty] T (0, 0))) ∧ Aside (Below W0.heap.size W0 wx))
  case first =>
    have tok1 : True := trivial
    have tok2 : True := trivial
    go_region_held3 (fun W : World => W.cell? ⟨w.heap.size, 0, none⟩ = some (.int .i64 o.stamp.t) ∧ W.cell? ⟨w.heap.size, 1, none⟩ = some (.int .i64 o.stamp.r) ∧ W.cell? ⟨w.heap.size, 2, none⟩ = some (.int .i64 o.kind) ∧ W.cell? ⟨w.heap.size, 3, none⟩ = some (.int .i64 o.at_.t) ∧ W.cell? ⟨w.heap.size, 4, none⟩ = some (.int .i64 o.at_.r) ∧ W.cell? ⟨w.heap.size, 5, none⟩ = some (.int .i64 o.ino.t) ∧ W.cell? ⟨w.heap.size, 6, none⟩ = some (.int .i64 o.ino.r) ∧ W.cell? ⟨w.heap.size, 7, none⟩ = some (.int .i64 o.to.t) ∧ W.cell? ⟨w.heap.size, 8, none⟩ = some (.int .i64 o.to.r) ∧ W.cell? ⟨w.heap.size, 9, none⟩ = some (.string o.name) ∧ W.cell? ⟨w.heap.size, 10, none⟩ = some (.string o.new) ∧ W.cell? ⟨w.heap.size, 11, none⟩ = some (.int .i64 o.off) ∧ W.cell? ⟨w.heap.size, 12, none⟩ = some (.string o.data)) (first | exact (HJ.out _ (by first | exact HB6.out | exact HB6.out.alloc HB6.out.size _ | exact (HB6.out.alloc HB6.out.size _).alloc (le_al HB6.out.size) _ | exact ((HB6.out.alloc HB6.out.size _).alloc (le_al HB6.out.size) _).alloc (le_al (le_al HB6.out.size)) _ | exact HB6.out.drew | exact (HB6.out.alloc HB6.out.size _).drew | exact ((HB6.out.alloc HB6.out.size _).alloc (le_al HB6.out.size) _).drew | exact HB5.out | exact HB5.out.alloc HB5.out.size _ | exact (HB5.out.alloc HB5.out.size _).alloc (le_al HB5.out.size) _ | exact ((HB5.out.alloc HB5.out.size _).alloc (le_al HB5.out.size) _).alloc (le_al (le_al HB5.out.size)) _ | exact HB5.out.drew | exact (HB5.out.alloc HB5.out.size _).drew | exact ((HB5.out.alloc HB5.out.size _).alloc (le_al HB5.out.size) _).drew | exact HB4.out | exact HB4.out.alloc HB4.out.size _ | exact (HB4.out.alloc HB4.out.size _).alloc (le_al HB4.out.size) _ | exact ((HB4.out.alloc HB4.out.size _).alloc (le_al HB4.out.size) _).alloc (le_al (le_al HB4.out.size)) _ | exact HB4.out.drew | exact (HB4.out.alloc HB4.out.size _).drew | exact ((HB4.out.alloc HB4.out.size _).alloc (le_al HB4.out.size) _).drew | exact HB3.out | exact HB3.out.alloc HB3.out.size _ | exact (HB3.out.alloc HB3.out.size _).alloc (le_al HB3.out.size) _ | exact ((HB3.out.alloc HB3.out.size _).alloc (le_al HB3.out.size) _).alloc (le_al (le_al HB3.out.size)) _ | exact HB3.out.drew | exact (HB3.out.alloc HB3.out.size _).drew | exact ((HB3.out.alloc HB3.out.size _).alloc (le_al HB3.out.size) _).drew | exact HB2.out | exact HB2.out.alloc HB2.out.size _ | exact (HB2.out.alloc HB2.out.size _).alloc (le_al HB2.out.size) _ | exact ((HB2.out.alloc HB2.out.size _).alloc (le_al HB2.out.size) _).alloc (le_al (le_al HB2.out.size)) _ | exact HB2.out.drew | exact (HB2.out.alloc HB2.out.size _).drew | exact ((HB2.out.alloc HB2.out.size _).alloc (le_al HB2.out.size) _).drew | exact HB1.out | exact HB1.out.alloc HB1.out.size _ | exact (HB1.out.alloc HB1.out.size _).alloc (le_al HB1.out.size) _ | exact ((HB1.out.alloc HB1.out.size _).alloc (le_al HB1.out.size) _).alloc (le_al (le_al HB1.out.size)) _ | exact HB1.out.drew | exact (HB1.out.alloc HB1.out.size _).drew | exact ((HB1.out.alloc HB1.out.size _).alloc (le_al HB1.out.size) _).drew | exact HB0.out | exact HB0.out.alloc HB0.out.size _ | exact (HB0.out.alloc HB0.out.size _).alloc (le_al HB0.out.size) _ | exact ((HB0.out.alloc HB0.out.size _).alloc (le_al HB0.out.size) _).alloc (le_al (le_al HB0.out.size)) _ | exact HB0.out.drew | exact (HB0.out.alloc HB0.out.size _).drew | exact ((HB0.out.alloc HB0.out.size _).alloc (le_al HB0.out.size) _).drew)).1 | go_keep) (first
      | (go_at_call 83; (with_reducible refine (HNA.out _).mono ?_); rintro e w5 ⟨rfl, hb5⟩; have HB5 : Hid (Below W0.heap.size W0 w5) := Lib.hid (HB4.out.trans (hb5.mono HB4.out.size)); clear hb5)
      | (go_at_call 83; (with_reducible refine (HNB.out _).mono ?_); rintro e w6 ⟨rfl, hb6⟩; have HB6 : Hid (Below W0.heap.size W0 w6) := Lib.hid (HB5.out.trans (hb6.mono HB5.out.size)); clear hb6)
      | (have _t := tok1; clear tok1; (go_at_call 82; (with_reducible refine (HM.out _ _ _).mono ?_); rintro e w2 ⟨rfl, hb2⟩; obtain ⟨hc2, hf2⟩ := bcell hb2; have hs2 := hb2.size; (try simp only [size_drew] at hs2); (try simp only [World.size_alloc] at hs2); (try simp only [size_setCell'] at hs2); (try have le2_0 : W0.heap.size ≤ w2.heap.size := (by omega)); (try have lt2_0 : W0.heap.size < w2.heap.size := (by omega)); (try have le2_1 : w1.heap.size ≤ w2.heap.size := (by omega)); (try have lt2_1 : w1.heap.size < w2.heap.size := (by omega)); have HB2 : Hid (Below W0.heap.size W0 w2) := Lib.hid (Below.trans (by first | exact HB1.out | exact HB1.out.alloc HB1.out.size _ | exact (HB1.out.alloc HB1.out.size _).alloc (le_al HB1.out.size) _ | exact ((HB1.out.alloc HB1.out.size _).alloc (le_al HB1.out.size) _).alloc (le_al (le_al HB1.out.size)) _ | exact HB1.out.drew | exact (HB1.out.alloc HB1.out.size _).drew | exact ((HB1.out.alloc HB1.out.size _).alloc (le_al HB1.out.size) _).drew | exact HB0.out | exact HB0.out.alloc HB0.out.size _ | exact (HB0.out.alloc HB0.out.size _).alloc (le_al HB0.out.size) _ | exact ((HB0.out.alloc HB0.out.size _).alloc (le_al HB0.out.size) _).alloc (le_al (le_al HB0.out.size)) _ | exact HB0.out.drew | exact (HB0.out.alloc HB0.out.size _).drew | exact ((HB0.out.alloc HB0.out.size _).alloc (le_al HB0.out.size) _).drew) (hb2.mono (by (try simp only [size_drew]); (try simp only [World.size_alloc]); (try simp only [size_setCell']); omega))); have HN2 := Lib.hid hb2; clear hb2 hs2))
      | (have _t := tok2; clear tok2; (go_at_call 82; (with_reducible refine (HM.out _ _ _).mono ?_); rintro e w3 ⟨rfl, hb3⟩; obtain ⟨hc3, hf3⟩ := bcell hb3; have hs3 := hb3.size; (try simp only [size_drew] at hs3); (try simp only [World.size_alloc] at hs3); (try simp only [size_setCell'] at hs3); (try have le3_0 : W0.heap.size ≤ w3.heap.size := (by omega)); (try have lt3_0 : W0.heap.size < w3.heap.size := (by omega)); (try have le3_1 : w1.heap.size ≤ w3.heap.size := (by omega)); (try have lt3_1 : w1.heap.size < w3.heap.size := (by omega)); (try have le3_2 : w2.heap.size ≤ w3.heap.size := (by omega)); (try have lt3_2 : w2.heap.size < w3.heap.size := (by omega)); have HB3 : Hid (Below W0.heap.size W0 w3) := Lib.hid (Below.trans (by first | exact HB2.out | exact HB2.out.alloc HB2.out.size _ | exact (HB2.out.alloc HB2.out.size _).alloc (le_al HB2.out.size) _ | exact ((HB2.out.alloc HB2.out.size _).alloc (le_al HB2.out.size) _).alloc (le_al (le_al HB2.out.size)) _ | exact HB2.out.drew | exact (HB2.out.alloc HB2.out.size _).drew | exact ((HB2.out.alloc HB2.out.size _).alloc (le_al HB2.out.size) _).drew | exact HB1.out | exact HB1.out.alloc HB1.out.size _ | exact (HB1.out.alloc HB1.out.size _).alloc (le_al HB1.out.size) _ | exact ((HB1.out.alloc HB1.out.size _).alloc (le_al HB1.out.size) _).alloc (le_al (le_al HB1.out.size)) _ | exact HB1.out.drew | exact (HB1.out.alloc HB1.out.size _).drew | exact ((HB1.out.alloc HB1.out.size _).alloc (le_al HB1.out.size) _).drew | exact HB0.out | exact HB0.out.alloc HB0.out.size _ | exact (HB0.out.alloc HB0.out.size _).alloc (le_al HB0.out.size) _ | exact ((HB0.out.alloc HB0.out.size _).alloc (le_al HB0.out.size) _).alloc (le_al (le_al HB0.out.size)) _ | exact HB0.out.drew | exact (HB0.out.alloc HB0.out.size _).drew | exact ((HB0.out.alloc HB0.out.size _).alloc (le_al HB0.out.size) _).drew) (hb3.mono (by (try simp only [size_drew]); (try simp only [World.size_alloc]); (try simp only [size_setCell']); omega))); have HN3 := Lib.hid hb3; clear hb3 hs3))
      | (go_at_call 82; (with_reducible refine (HM.out _ _ _).mono ?_); rintro e w4 ⟨rfl, hb4⟩; obtain ⟨hc4, hf4⟩ := bcell hb4; have hs4 := hb4.size; (try simp only [size_drew] at hs4); (try simp only [World.size_alloc] at hs4); (try simp only [size_setCell'] at hs4); (try have le4_0 : W0.heap.size ≤ w4.heap.size := (by omega)); (try have lt4_0 : W0.heap.size < w4.heap.size := (by omega)); (try have le4_1 : w1.heap.size ≤ w4.heap.size := (by omega)); (try have lt4_1 : w1.heap.size < w4.heap.size := (by omega)); (try have le4_2 : w2.heap.size ≤ w4.heap.size := (by omega)); (try have lt4_2 : w2.heap.size < w4.heap.size := (by omega)); (try have le4_3 : w3.heap.size ≤ w4.heap.size := (by omega)); (try have lt4_3 : w3.heap.size < w4.heap.size := (by omega)); have HB4 : Hid (Below W0.heap.size W0 w4) := Lib.hid (Below.trans (by first | exact HB3.out | exact HB3.out.alloc HB3.out.size _ | exact (HB3.out.alloc HB3.out.size _).alloc (le_al HB3.out.size) _ | exact ((HB3.out.alloc HB3.out.size _).alloc (le_al HB3.out.size) _).alloc (le_al (le_al HB3.out.size)) _ | exact HB3.out.drew | exact (HB3.out.alloc HB3.out.size _).drew | exact ((HB3.out.alloc HB3.out.size _).alloc (le_al HB3.out.size) _).drew | exact HB2.out | exact HB2.out.alloc HB2.out.size _ | exact (HB2.out.alloc HB2.out.size _).alloc (le_al HB2.out.size) _ | exact ((HB2.out.alloc HB2.out.size _).alloc (le_al HB2.out.size) _).alloc (le_al (le_al HB2.out.size)) _ | exact HB2.out.drew | exact (HB2.out.alloc HB2.out.size _).drew | exact ((HB2.out.alloc HB2.out.size _).alloc (le_al HB2.out.size) _).drew | exact HB1.out | exact HB1.out.alloc HB1.out.size _ | exact (HB1.out.alloc HB1.out.size _).alloc (le_al HB1.out.size) _ | exact ((HB1.out.alloc HB1.out.size _).alloc (le_al HB1.out.size) _).alloc (le_al (le_al HB1.out.size)) _ | exact HB1.out.drew | exact (HB1.out.alloc HB1.out.size _).drew | exact ((HB1.out.alloc HB1.out.size _).alloc (le_al HB1.out.size) _).drew | exact HB0.out | exact HB0.out.alloc HB0.out.size _ | exact (HB0.out.alloc HB0.out.size _).alloc (le_al HB0.out.size) _ | exact ((HB0.out.alloc HB0.out.size _).alloc (le_al HB0.out.size) _).alloc (le_al (le_al HB0.out.size)) _ | exact HB0.out.drew | exact (HB0.out.alloc HB0.out.size _).drew | exact ((HB0.out.alloc HB0.out.size _).alloc (le_al HB0.out.size) _).drew) (hb4.mono (by (try simp only [size_drew]); (try simp only [World.size_alloc]); (try simp only [size_setCell']); omega))); have HN4 := Lib.hid hb4; clear hb4 hs4))
    go_wp2_with fail
    go_meet
    case rel => exact ⟨_, rfl, rfl, rfl, (show Aside _ from ⟨_, World.alloc_heap_new _ _⟩), (show Aside _ from HB6.out.alloc HB6.out.size _)⟩
  case rest =>
    obtain ⟨B, rfl, rfl, rfl, hheap, hbel⟩ := hcut
    clear hc1 hf1
    go_wp2_with fail
    go_loopg [57] 7 (fun gg s57 wr => ∃ k : Nat, k ≤ 7 ∧ 7 - k ≤ gg ∧ s57 = .int .i64 k ∧ Aside (∀ j, j < k → rowOk o j = true) ∧ Aside (Below W0.heap.size W0 wr ∧ Below wc.heap.size wc wr))
    case atStart => exact ⟨0, by omega, by omega, rfl, (show Aside _ from fun j hj => absurd hj (Nat.not_lt_zero _)), (show Aside _ from ⟨hbel.out, Below.refl _ _⟩)⟩
    case round =>
      obtain ⟨k, hk, hgg, rfl, hA, hB⟩ := hrel
      by_cases h7 : k < 7
      · have hlti : (k : Int) < 7 := by omega
        have hk0 : (0 : Int) ≤ (k : Int) := by omega
        have hwk : IntKind.i64.wrap ((k : Int) + 1) = (k : Int) + 1 := wrapNat (k + 1) (by omega)
        obtain ⟨T, hh⟩ := hheap.out
        have hh' := ((hB.out.2.block B (Array.getElem?_eq_some_iff.1 hh).1)).trans hh
        have hc : k = 0 ∨ k = 1 ∨ k = 2 ∨ k = 3 ∨ k = 4 ∨ k = 5 ∨ k = 6 := by omega
        have x0 : wr.cell? ⟨B, k * 3, none⟩ = some (.int .i64 ((rowAt o k).1 : Nat)) := by rcases hc with rfl | rfl | rfl | rfl | rfl | rfl | rfl <;> exact cell_at hh' _ _ rfl
        have x1 : wr.cell? ⟨B, k * 3 + 1, none⟩ = some (.bool (rowAt o k).2.1) := by rcases hc with rfl | rfl | rfl | rfl | rfl | rfl | rfl <;> exact cell_at hh' _ _ rfl
        have x2 : wr.cell? ⟨B, k * 3 + 2, none⟩ = some (.bool (rowAt o k).2.2) := by rcases hc with rfl | rfl | rfl | rfl | rfl | rfl | rfl <;> exact cell_at hh' _ _ rfl
        obtain ⟨hb1, hb2⟩ := bit_of o.kind (rowAt o k).1 (by rcases hc with rfl | rfl | rfl | rfl | rfl | rfl | rfl <;> simp [rowAt])
        have hrow : rowOk o k = if decide (fieldsOf o.kind &&& (rowAt o k).1 ≠ 0) = true then (rowAt o k).2.1 else (rowAt o k).2.2 := by
          unfold rowOk bitOk; simp
        have HROW : Hid (rowOk o k = false → opMay o = false) := Lib.hid fun h => by
          unfold opMay
          have : rowsOk o = false := by
            rw [Bool.eq_false_iff]
            intro hr
            have := (rowsOk_iff o).1 hr k h7
            rw [h] at this; cases this
          rw [this, Bool.false_and]
        clear hh hh' hc
        generalize decide (fieldsOf o.kind &&& (rowAt o k).1 ≠ 0) = b at hb1 hb2 hrow
        generalize (rowAt o k).1 = bit at x0 hb1 hb2
        generalize (rowAt o k).2.1 = m at x1 hrow
        generalize (rowAt o k).2.2 = n at x2 hrow
        have HR := Lib.hid hrow
        clear hrow
        have hcs : (b = true ∧ m = true) ∨ (b = true ∧ m = false) ∨ (b = false ∧ n = true) ∨ (b = false ∧ n = false) := by cases b <;> cases m <;> cases n <;> simp
        rcases hcs with ⟨rfl, rfl⟩ | ⟨rfl, rfl⟩ | ⟨rfl, rfl⟩ | ⟨rfl, rfl⟩
        · go_wp2
          go_roundg (7 - (k + 1))
          case measure => omega
          case rel => exact ⟨k + 1, by omega, by omega, by first | rfl | go_num, (show Aside _ from fun j hj => by
            by_cases e : j = k
            · subst e; rw [HR.out]; rfl
            · exact hA.out j (by omega)), (show Aside _ from ⟨hB.out.1.alloc hB.out.1.size _, hB.out.2.alloc hB.out.2.size _⟩)⟩
        · go_wp2
          go_ret
          exact ⟨by rw [HROW.out (by rw [HR.out]; rfl)]; rfl, HW.out.trans ((hB.out.1.alloc hB.out.1.size _).mono HW.out.size)⟩
        · go_wp2
          go_roundg (7 - (k + 1))
          case measure => omega
          case rel => exact ⟨k + 1, by omega, by omega, by first | rfl | go_num, (show Aside _ from fun j hj => by
            by_cases e : j = k
            · subst e; rw [HR.out]; rfl
            · exact hA.out j (by omega)), (show Aside _ from ⟨hB.out.1.alloc hB.out.1.size _, hB.out.2.alloc hB.out.2.size _⟩)⟩
        · go_wp2
          go_ret
          exact ⟨by rw [HROW.out (by rw [HR.out]; rfl)]; rfl, HW.out.trans ((hB.out.1.alloc hB.out.1.size _).mono HW.out.size)⟩
      · have hlti : ¬ (k : Int) < 7 := by omega
        have HROWS : Hid (rowsOk o = true) := Lib.hid ((rowsOk_iff o).2 fun j hj => hA.out j (by omega))
        have hfb : ((fieldsOf o.kind : Nat) : Int) = 0 ↔ fieldsOf o.kind = 0 := by omega
        have z7 : ∀ w, (binOp .neq 26 (.agg #[.int .i64 o.stamp.t, .int .i64 o.stamp.r]) (.agg #[.int .i64 0, .int .i64 0])).run Tryz.prog w = .ok (.bool (!o.stamp.isZ)) w := fun w => neq_st o.stamp ⟨0, 0⟩ w
        have HBr := Lib.hid hB.out.1
        obtain ⟨⟨_, _, _, _, _, _, _, _, _, _, _, _, _⟩, _⟩ := HJ.out wr HBr.out
        by_cases hf : fieldsOf o.kind = 0
        · have hE : Hid (opMay o = false) := Lib.hid (by unfold opMay; rw [hf]; simp)
          rw [hf]
          clear hf hfb
          go_wp2
          go_ret
          exact ⟨by rw [hE.out]; rfl, HW.out.trans (HBr.out.mono HW.out.size)⟩
        · have hfi : ((fieldsOf o.kind : Nat) : Int) ≠ 0 := fun h => hf (hfb.1 h)
          have hfz : (((fieldsOf o.kind : Nat) : Int) != 0) = true := by simpa using hf
          have HFZ := Lib.hid hf
          have hmm : ∀ W, Calls Tryz.prog 82 #[(.agg #[.int .i64 o.stamp.t, .int .i64 o.stamp.r])] W fun e w' => e = .returned (.bool o.stamp.mayB) ∧ Below W.heap.size W w' := fun W => HM.out o.stamp.t o.stamp.r W
          have HMM := Lib.hid hmm
          clear hmm hf hfb
          cases hms : o.stamp.mayB with
          | false =>
            have hE : Hid (opMay o = false) := Lib.hid (by unfold opMay; rw [hms]; simp)
            rw [hms] at HMM
            clear hms
            go_wp2_with (go_at_call 82; refine (HMM.out _).mono ?_; rintro e w8 ⟨rfl, hb8⟩; have HB8 : Hid (Below W0.heap.size W0 w8) := Lib.hid (HBr.out.trans (hb8.mono HBr.out.size)); clear hb8)
            go_ret
            exact ⟨by rw [hE.out]; rfl, HW.out.trans (HB8.out.mono HW.out.size)⟩
          | true =>
            rw [hms] at HMM
            cases hzs : o.stamp.isZ with
            | true =>
              have hE : Hid (opMay o = false) := Lib.hid (by unfold opMay; rw [hzs]; simp)
              rw [hzs] at z7
              clear hms hzs
              go_wp2_with (go_at_call 82; refine (HMM.out _).mono ?_; rintro e w8 ⟨rfl, hb8⟩; have HB8 : Hid (Below W0.heap.size W0 w8) := Lib.hid (HBr.out.trans (hb8.mono HBr.out.size)); clear hb8; obtain ⟨⟨_, _, _, _, _, _, _, _, _, _, _, _, _⟩, _⟩ := HJ.out w8 HB8.out)
              go_ret
              exact ⟨by rw [hE.out]; rfl, HW.out.trans (HB8.out.mono HW.out.size)⟩
            | false =>
              have hE : Hid (opMay o = dataOk o) := Lib.hid (by
                unfold opMay; rw [HROWS.out, hms, hzs, show (fieldsOf o.kind == 0) = false by simpa using HFZ.out]; rfl)
              rw [hzs] at z7
              clear hms hzs
              go_wp2_with (first
                | (go_at_call 82; refine (HMM.out _).mono ?_; rintro e w8 ⟨rfl, hb8⟩; have HB8 : Hid (Below W0.heap.size W0 w8) := Lib.hid (HBr.out.trans (hb8.mono HBr.out.size)); clear hb8; obtain ⟨⟨_, _, _, _, _, _, _, _, _, _, _, _, _⟩, _⟩ := HJ.out w8 HB8.out)
                | (go_at_call 84; refine (HD.out _).mono ?_; rintro e w9 ⟨rfl, hb9⟩; have HB9 : Hid (Below W0.heap.size W0 w9) := Lib.hid (HB8.out.trans (hb9.mono HB8.out.size)); clear hb9))
              go_ret
              exact ⟨by rw [hE.out]; rfl, HW.out.trans (HB9.out.mono HW.out.size)⟩
end Go.Proofs.YtfbjiaedfmdcfaaGreatDoor
