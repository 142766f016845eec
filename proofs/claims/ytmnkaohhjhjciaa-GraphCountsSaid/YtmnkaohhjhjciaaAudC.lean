/-
  The audit's predicates, further; no condition.
-/
import Derived.Test.YtmnkaohhjhjciaaAudB
namespace Go.Proofs.Ytmnkaohhjhjciaa
open Go.RowKit Go.Shelf


def boolV (b : Bool) : Value := .bool b
theorem getD_lookB (o : Option Bool) : lookV boolV (.bool false) o = .bool (o.getD false) := by cases o <;> rfl

set_option maxRecDepth 100000 in
set_option maxHeartbeats 400000 in
theorem apart1_any (B sb : Nat) (kv : List (St × Bool)) (x : Ino) (w : World) (hs : MapAt w sb St.v boolV kv) (hsl : sb < w.heap.size) (hB : w.cell? ⟨B, 0, none⟩ = some (.map (some sb))) (hBl : B < w.heap.size) :
    Calls Try.prog 110 #[x.v, .pointer (some ⟨B, 0, none⟩)] w fun y w' => y = .returned (.bool (!(getKV x.id kv).getD false)) ∧ Below w.heap.size w w' := by
  have hb0 : Below w.heap.size w (w.alloc (.cells #[.int .i64 x.id.t, .int .i64 x.id.r, .int .i64 x.kind, .int .i64 x.links, .int .i64 x.mode, .string x.data] 31)) := (Below.refl _ w).alloc (Nat.le_refl _) _
  have c := (hb0.cell (p := ⟨B, 0, none⟩) hBl).trans hB
  have hl : (Instr.lookup 80 (.map (some sb)) (.agg #[.int .i64 x.id.t, .int .i64 x.id.r]) false).run Try.prog (w.alloc (.cells #[.int .i64 x.id.t, .int .i64 x.id.r, .int .i64 x.kind, .int .i64 x.links, .int .i64 x.mode, .string x.data] 31)) = .ok (.bool ((getKV x.id kv).getD false)) (w.alloc (.cells #[.int .i64 x.id.t, .int .i64 x.id.r, .int .i64 x.kind, .int .i64 x.links, .int .i64 x.mode, .string x.data] 31)) := by
    have := (run_lookup_kv (w := w.alloc (.cells #[.int .i64 x.id.t, .int .i64 x.id.r, .int .i64 x.kind, .int .i64 x.links, .int .i64 x.mode, .string x.data] 31)) keySt Try.underlying80 Try.zeroValue4 (hs.below hb0 hsl) x.id).2
    rw [getD_lookB] at this
    exact this
  have HB := Lib.hid hb0
  clear hb0 hs hB
  unfold Ino.v
  generalize (getKV x.id kv).getD false = z at hl
  go_enter Try.func110, Try.ntmps110
  go_wp2
  go_ret
  exact ⟨by first | rfl | simp, HB.out⟩

def sizeB (x : Ino) : Bool := if x.kind = 1 then (x.data.size : Int) == 0 else if x.kind = 2 then decide ((x.data.size : Int) ≤ 64) else if x.kind = 3 then decide (1 ≤ (x.data.size : Int)) && decide ((x.data.size : Int) ≤ 32) else true

set_option maxRecDepth 100000 in
set_option maxHeartbeats 400000 in
theorem size_any (x : Ino) (w : World) : Calls Try.prog 112 #[x.v] w fun y w' => y = .returned (.bool (sizeB x)) ∧ Below w.heap.size w w' := by
  have hb0 : Below w.heap.size w (w.alloc (.cells #[.int .i64 x.id.t, .int .i64 x.id.r, .int .i64 x.kind, .int .i64 x.links, .int .i64 x.mode, .string x.data] 31)) := (Below.refl _ w).alloc (Nat.le_refl _) _
  have HB := Lib.hid hb0
  clear hb0
  obtain ⟨⟨t, r⟩, kind, links, mode, data⟩ := x
  unfold Ino.v sizeB
  by_cases h1 : kind = 1
  · subst h1
    rw [if_pos rfl]
    go_enter Try.func112, Try.ntmps112
    go_wp2
    go_ret
    exact ⟨by first | rfl | simp, HB.out⟩
  · rw [if_neg h1]
    have e1 : (kind == 1) = false := beq_eq_false_iff_ne.2 h1
    clear h1
    by_cases h2 : kind = 2
    · subst h2
      rw [if_pos rfl]
      clear e1
      go_enter Try.func112, Try.ntmps112
      go_wp2
      go_ret
      exact ⟨by first | rfl | simp, HB.out⟩
    · rw [if_neg h2]
      have e2 : (kind == 2) = false := beq_eq_false_iff_ne.2 h2
      clear h2
      by_cases h3 : kind = 3
      · subst h3
        rw [if_pos rfl]
        clear e1 e2
        by_cases h4 : 1 ≤ (data.size : Int)
        · rw [decide_eq_true h4, Bool.true_and]
          go_enter Try.func112, Try.ntmps112
          go_wp2
          go_ret
          exact ⟨by first | rfl | simp, HB.out⟩
        · rw [decide_eq_false h4, Bool.false_and]
          go_enter Try.func112, Try.ntmps112
          go_wp2
          go_ret
          exact ⟨by first | rfl | simp, HB.out⟩
      · rw [if_neg h3]
        have e3 : (kind == 3) = false := beq_eq_false_iff_ne.2 h3
        clear h3
        go_enter Try.func112, Try.ntmps112
        go_wp2
        go_ret
        exact ⟨by first | rfl | simp, HB.out⟩

def boundsB (x : Ino) : Bool := decide (x.mode < 0) || (decide (4095 < x.mode) || !sizeB x)

set_option maxRecDepth 100000 in
set_option maxHeartbeats 400000 in
theorem bounds1_any (x : Ino) (w : World) : Calls Try.prog 111 #[x.v] w fun y w' => y = .returned (.bool (boundsB x)) ∧ Below w.heap.size w w' := by
  have hb0 : Below w.heap.size w (w.alloc (.cells #[.int .i64 x.id.t, .int .i64 x.id.r, .int .i64 x.kind, .int .i64 x.links, .int .i64 x.mode, .string x.data] 31)) := (Below.refl _ w).alloc (Nat.le_refl _) _
  have hs := size_any x (w.alloc (.cells #[.int .i64 x.id.t, .int .i64 x.id.r, .int .i64 x.kind, .int .i64 x.links, .int .i64 x.mode, .string x.data] 31))
  have HB := Lib.hid hb0
  clear hb0
  unfold boundsB
  generalize sizeB x = z at hs
  unfold Ino.v at hs ⊢
  by_cases h1 : x.mode < 0
  · rw [decide_eq_true h1, Bool.true_or]
    go_enter Try.func111, Try.ntmps111
    go_wp2
    go_ret
    exact ⟨by first | rfl | simp, HB.out⟩
  · rw [decide_eq_false h1, Bool.false_or]
    by_cases h2 : 4095 < x.mode
    · rw [decide_eq_true h2, Bool.true_or]
      go_enter Try.func111, Try.ntmps111
      go_wp2
      go_ret
      exact ⟨by first | rfl | simp, HB.out⟩
    · rw [decide_eq_false h2, Bool.false_or]
      go_enter Try.func111, Try.ntmps111
      go_wp2_with (go_at_call 112; refine hs.mono ?_; rintro e w' ⟨rfl, hN⟩; have HB2 := Lib.hid (after1 hN).2; clear hN)
      go_ret
      exact ⟨by first | rfl | simp, HB2.out⟩
end Go.Proofs.Ytmnkaohhjhjciaa
