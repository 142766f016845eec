/-
  Words and laws that all walks of this seat share: worlds that only grow, maps with struct keys as lists, slices of structs as lists; no condition.
-/
import Derived.Test.YtmnkaohhjhjciaaRows
import Derived.WalkKit
import Derived.WalkSpells
import Derived.WalkLawsBesides
import Derived.Lib.Hide
import Derived.Lib.Bytealg
import Derived.Lib.MinMax
import Derived.Deep.QuietTactic
import Derived.BigQuiet
import Derived.RangeFuncRecord
import Derived.Sort.Grow
import Derived.StillTailTactics
namespace Go.Proofs.Ytmnkaohhjhjciaa
open Go.RowKit

/-! ### worlds that only grow, and draw -/

/-- everything that was there is as it was; new blocks, draws -/
structure New (w w' : World) : Prop where
  os : w'.os = w.os
  tape : w'.tape = w.tape
  output : w'.output = w.output
  size : w.heap.size ≤ w'.heap.size
  block : ∀ k, k < w.heap.size → w'.heap[k]? = w.heap[k]?
  drawn : w.drawn ≤ w'.drawn

theorem New.refl (w : World) : New w w := ⟨rfl, rfl, rfl, Nat.le_refl _, fun _ _ => rfl, Nat.le_refl _⟩
theorem New.trans {a b c : World} (h : New a b) (k : New b c) : New a c :=
  ⟨k.os.trans h.os, k.tape.trans h.tape, k.output.trans h.output, Nat.le_trans h.size k.size, fun i hi => (k.block i (Nat.lt_of_lt_of_le hi h.size)).trans (h.block i hi), Nat.le_trans h.drawn k.drawn⟩
theorem New.below {w w' : World} (h : New w w') : Below w.heap.size w w' := ⟨h.os, h.tape, h.output, h.size, h.block⟩
theorem New.alloc' (w : World) (o : Obj) : New w (w.alloc o) := ⟨rfl, rfl, rfl, by simp, fun k hk => Below.heap_alloc w o k hk, Nat.le_refl _⟩
theorem New.drew' (w : World) : New w w.drew := ⟨rfl, rfl, rfl, Nat.le_refl _, fun _ _ => rfl, Nat.le_succ _⟩
theorem New.drewN' (w : World) (n : Nat) : New w (w.drewN n) := ⟨rfl, rfl, rfl, Nat.le_refl _, fun _ _ => rfl, Nat.le_add_right _ _⟩
theorem New.alloc {w w' : World} (h : New w w') (o : Obj) : New w (w'.alloc o) := h.trans (New.alloc' w' o)
theorem New.drew {w w' : World} (h : New w w') : New w w'.drew := h.trans (New.drew' w')
theorem New.drewN {w w' : World} (h : New w w') (n : Nat) : New w (w'.drewN n) := h.trans (New.drewN' w' n)
/-- a store into a block that is new -/
theorem New.setCell {w w' : World} (h : New w w') (a : Addr) (v : Value) (ha : w.heap.size ≤ a.block) : New w (w'.setCell a v) :=
  ⟨h.os, h.tape, h.output, by simpa using h.size, fun k hk => (heap_setCell_other w' a k v (by omega)).trans (h.block k hk), h.drawn⟩
theorem New.cell {w w' : World} (h : New w w') {a : Addr} {v : Value} (hc : w.cell? a = some v) : w'.cell? a = some v := by
  have hlt := block_lt_of_cell hc
  unfold World.cell? at hc ⊢
  rw [h.block _ hlt]; exact hc
theorem New.heap {w w' : World} (h : New w w') {b : Nat} {o : Obj} (hc : w.heap[b]? = some o) : w'.heap[b]? = some o :=
  (h.block b (Array.getElem?_eq_some_iff.1 hc).1).trans hc
theorem New.of_grown {w w' : World} {row : Option Nat} {w0 : World} (h : New w0 w) (hg : w.grownBy w' row) (hd : w.drawn ≤ w'.drawn) (hr : ∀ k, row = some k → w0.heap.size ≤ k) : New w0 w' :=
  ⟨hg.os.trans h.os, hg.tape.trans h.tape, hg.output.trans h.output, Nat.le_trans h.size hg.size,
    fun k hk => (hg.block k (Nat.lt_of_lt_of_le hk h.size) (fun e => by have := hr k e.symm; omega)).trans (h.block k hk), Nat.le_trans h.drawn hd⟩

/-- what the sort asks of a comparison -/
theorem New.grow {w w' : World} (h : New w w') : ∃ q os, w' = Sort.grow (w.drewN q) os := by
  refine ⟨w'.drawn - w.drawn, w'.heap.extract w.heap.size w'.heap.size, ?_⟩
  have e : w'.heap = w.heap ++ w'.heap.extract w.heap.size w'.heap.size := by
    apply Array.ext_getElem?
    intro i
    by_cases hi : i < w.heap.size
    · rw [h.block i hi, Array.getElem?_append_left hi]
    · rw [Array.getElem?_append_right (by omega), Array.getElem?_extract]
      have := h.size
      by_cases hj : i < w'.heap.size
      · rw [if_pos (by omega)]; congr 1; omega
      · rw [if_neg (by omega), Array.getElem?_eq_none (by omega)]
  cases w' with
  | mk heap tape drawn os output =>
    have h1 := h.os; have h2 := h.tape; have h3 := h.output; have h4 := h.drawn
    simp only at h1 h2 h3 h4 e
    unfold Sort.grow World.drewN
    simp only [World.mk.injEq]
    exact ⟨e, h2, by omega, h1, h3⟩

theorem New.of_growN (w : World) (q : Nat) (os : Array Obj) : New w (Sort.grow (w.drewN q) os) :=
  ⟨rfl, rfl, rfl, by simp [Sort.grow], fun k hk => by
    show (w.heap ++ os)[k]? = _
    rw [Array.getElem?_append_left hk], Nat.le_add_right _ _⟩

/-! ### a block that is put anew -/
theorem putObj_cell {w : World} {b : Nat} {o o' : Obj} (hb : w.heap[b]? = some o) (h : ∀ c e f, o ≠ .cells c e f) (h' : ∀ c e f, o' ≠ .cells c e f) (a : Addr) : (w.putObj b o').cell? a = w.cell? a := by
  have hlt := (Array.getElem?_eq_some_iff.1 hb).1
  unfold World.cell?
  by_cases e : a.block = b
  · rw [e, World.putObj_heap_same hlt, hb]
    cases o <;> cases o' <;> first | rfl | exact absurd rfl (h _ _ _) | exact absurd rfl (h' _ _ _)
  · rw [World.putObj_heap_other e]
theorem putObj_frozen {w : World} {b : Nat} {o o' : Obj} (hb : w.heap[b]? = some o) (h : ∀ c e f, o ≠ .cells c e f) (h' : ∀ c e f, o' ≠ .cells c e f) (a : Addr) : (w.putObj b o').frozen? a = w.frozen? a := by
  have hlt := (Array.getElem?_eq_some_iff.1 hb).1
  unfold World.frozen?
  by_cases e : a.block = b
  · rw [e, World.putObj_heap_same hlt, hb]
    cases o <;> cases o' <;> first | rfl | exact absurd rfl (h _ _ _) | exact absurd rfl (h' _ _ _)
  · rw [World.putObj_heap_other e]
theorem New.putObj {w w' : World} (h : New w w') (b : Nat) (o : Obj) (hb : w.heap.size ≤ b) : New w (w'.putObj b o) :=
  ⟨h.os, h.tape, h.output, by simpa using h.size, fun k hk => (World.putObj_heap_other (by omega)).trans (h.block k hk), h.drawn⟩

/-! ### a region that draws its order: reads and quiet calls, then a tail in one forced order -/
theorem region_tail {P : Program} {id : Nat} {Q : Exit → Act → World → Prop} {a : Act} {w : World} {l : List Oper} (n : Nat) (hm : P.follows .mixedOrders = true) (hB : Region.lexTailB .any l.toArray n = true)
    (h : ∀ W, (∀ a, W.cell? a = w.cell? a) → W.heap = w.heap → New w W → wpStill P l.toArray W (fun a' => wpList P l.toArray Q (l.drop n) a' W) (l.take n) a) : (Code.region id l.toArray true).wp P Q a w :=
  wp_region_still_tail n hm hB (h w.drew (fun _ => rfl) rfl (New.drew' w))

/-! ### ranging over a string -/
theorem run_next_str {P : Program} (w : World) (r : Nat) (s : ByteArray) (pos : Nat) (ty : TypeId) (hw : w.heap[r]? = some (.stringIter s pos)) (h : pos < s.size) :
    (Instr.next (.pointer (some ⟨r, 0, none⟩)) true ty).run P w =
      .ok (.tuple #[.bool true, .int .i64 pos, .int .i32 (Utf8.decode s pos).1]) (w.putObj r (.stringIter s (pos + (Utf8.decode s pos).2))) := by
  simp only [Instr.next, getObj, setObj, Sem.run_bind, Sem.run, hw, Result.andThen, h, if_true]
  simp [goInt, World.putObj]
theorem run_next_strEnd {P : Program} (w : World) (r : Nat) (s : ByteArray) (pos : Nat) (ty : TypeId) (hw : w.heap[r]? = some (.stringIter s pos)) (h : ¬ pos < s.size) :
    (Instr.next (.pointer (some ⟨r, 0, none⟩)) true ty).run P w = .ok (.tuple #[.bool false]) w := by
  simp [Instr.next, getObj, Sem.run, hw, h]
end Go.Proofs.Ytmnkaohhjhjciaa
