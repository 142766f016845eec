/-
  The contracts of cmp.Compare, cmp.Or and stamp.Compare, stamp.May; no condition.
-/
import Derived.Test.YtlokljaeknmdpaaGreatKMap
namespace Go.Proofs.YtlokljaeknmdpaaGreat
open Go.RowKit

def cmpI (a b : Int) : Int := if a < b then -1 else if b < a then 1 else 0
def orI (a b : Int) : Int := if a = 0 then b else a

set_option maxRecDepth 100000 in
set_option maxHeartbeats 400000 in
theorem isNaN64_any (a : Int) (w : World) : Calls Tryz.prog 156 #[.int .i64 a] w fun e w' => e = .returned (.bool false) ∧ w' = w := by
  have e : (a != a) = false := by simp
  go_enter Tryz.func156, Tryz.ntmps156
  go_wp2
  go_ret
  exact ⟨rfl, rfl⟩

set_option maxRecDepth 100000 in
set_option maxHeartbeats 400000 in
theorem isNaNi_any (a : Int) (w : World) : Calls Tryz.prog 157 #[.int .i64 a] w fun e w' => e = .returned (.bool false) ∧ w' = w := by
  have e : (a != a) = false := by simp
  go_enter Tryz.func157, Tryz.ntmps157
  go_wp2
  go_ret
  exact ⟨rfl, rfl⟩

set_option maxRecDepth 100000 in
set_option maxHeartbeats 400000 in
theorem isNaNs_any (a : ByteArray) (w : World) : Calls Tryz.prog 133 #[.string a] w fun e w' => e = .returned (.bool false) ∧ w' = w := by
  have e : (a.toList != a.toList) = false := by simp
  go_enter Tryz.func133, Tryz.ntmps133
  go_wp2
  go_ret
  exact ⟨rfl, rfl⟩

set_option maxRecDepth 100000 in
set_option maxHeartbeats 400000 in
theorem cmp64_any (a b : Int) (w : World) : Calls Tryz.prog 104 #[.int .i64 a, .int .i64 b] w fun e w' => e = .returned (.int .i64 (cmpI a b)) ∧ w' = w := by
  by_cases h1 : a < b
  · have hr : cmpI a b = -1 := by simp [cmpI, h1]
    rw [hr]; clear hr
    go_enter Tryz.func104, Tryz.ntmps104
    go_wp2_with (go_at_call 156; refine (isNaN64_any _ _).mono ?_; rintro e w' ⟨rfl, rfl⟩)
    go_ret
    exact ⟨rfl, rfl⟩
  by_cases h2 : b < a
  · have hr : cmpI a b = 1 := by simp [cmpI, h1, h2]
    rw [hr]; clear hr
    go_enter Tryz.func104, Tryz.ntmps104
    go_wp2_with (go_at_call 156; refine (isNaN64_any _ _).mono ?_; rintro e w' ⟨rfl, rfl⟩)
    go_ret
    exact ⟨rfl, rfl⟩
  have hr : cmpI a b = 0 := by simp [cmpI, h1, h2]
  rw [hr]; clear hr
  go_enter Tryz.func104, Tryz.ntmps104
  go_wp2_with (go_at_call 156; refine (isNaN64_any _ _).mono ?_; rintro e w' ⟨rfl, rfl⟩)
  go_ret
  exact ⟨rfl, rfl⟩

set_option maxRecDepth 100000 in
set_option maxHeartbeats 400000 in
theorem cmpi_any (a b : Int) (w : World) : Calls Tryz.prog 105 #[.int .i64 a, .int .i64 b] w fun e w' => e = .returned (.int .i64 (cmpI a b)) ∧ w' = w := by
  by_cases h1 : a < b
  · have hr : cmpI a b = -1 := by simp [cmpI, h1]
    rw [hr]; clear hr
    go_enter Tryz.func105, Tryz.ntmps105
    go_wp2_with (go_at_call 157; refine (isNaNi_any _ _).mono ?_; rintro e w' ⟨rfl, rfl⟩)
    go_ret
    exact ⟨rfl, rfl⟩
  by_cases h2 : b < a
  · have hr : cmpI a b = 1 := by simp [cmpI, h1, h2]
    rw [hr]; clear hr
    go_enter Tryz.func105, Tryz.ntmps105
    go_wp2_with (go_at_call 157; refine (isNaNi_any _ _).mono ?_; rintro e w' ⟨rfl, rfl⟩)
    go_ret
    exact ⟨rfl, rfl⟩
  have hr : cmpI a b = 0 := by simp [cmpI, h1, h2]
  rw [hr]; clear hr
  go_enter Tryz.func105, Tryz.ntmps105
  go_wp2_with (go_at_call 157; refine (isNaNi_any _ _).mono ?_; rintro e w' ⟨rfl, rfl⟩)
  go_ret
  exact ⟨rfl, rfl⟩

/-- texts, byte by byte -/
def lessB (a b : ByteArray) : Bool := Op.bytesLess a.toList b.toList
def cmpB (a b : ByteArray) : Int := if lessB a b then -1 else if !lessB a b && !(a.toList == b.toList) then 1 else 0

set_option maxRecDepth 100000 in
set_option maxHeartbeats 400000 in
theorem cmps_any (a b : ByteArray) (w : World) : Calls Tryz.prog 79 #[.string a, .string b] w fun e w' => e = .returned (.int .i64 (cmpB a b)) ∧ w' = w := by
  have key : ∀ c d : Bool, Op.bytesLess a.toList b.toList = c → (a.toList == b.toList) = d → Calls Tryz.prog 79 #[.string a, .string b] w fun e w' => e = .returned (.int .i64 (if c then -1 else if !c && !d then 1 else 0)) ∧ w' = w := by
    intro c d hc hd
    cases c
    all_goals
      cases d
      all_goals
        go_enter Tryz.func79, Tryz.ntmps79
        go_wp2_with (go_at_call 133; refine (isNaNs_any _ _).mono ?_; rintro e w' ⟨rfl, rfl⟩)
        go_ret
        exact ⟨rfl, rfl⟩
  exact key _ _ rfl rfl

set_option maxRecDepth 100000 in
set_option maxHeartbeats 400000 in
theorem or2_any (b : Nat) (x y : Int) (c : Nat) (w : World) (h0 : w.cell? ⟨b, 0, none⟩ = some (.int .i64 x)) (h1 : w.cell? ⟨b, 1, none⟩ = some (.int .i64 y)) :
    Calls Tryz.prog 78 #[.slice (some ⟨b, 0, none⟩) 2 c] w fun e w' => e = .returned (.int .i64 (orI x y)) ∧ w' = w := by
  by_cases hx : x = 0
  · subst hx
    by_cases hy : y = 0
    · subst hy
      have hr : orI 0 0 = 0 := rfl
      rw [hr]; clear hr
      go_enter Tryz.func78, Tryz.ntmps78
      go_wp2
      refine wp_loop_rounds 3 ?_
      rw [rounds_succ]
      go_wp2
      rw [rounds_succ]
      go_wp2
      rw [rounds_succ]
      go_wp2
      go_ret
      exact ⟨rfl, rfl⟩
    · have hr : orI 0 y = y := rfl
      have hy' : (y != 0) = true := by rw [bne_iff_ne]; exact hy
      rw [hr]; clear hr
      go_enter Tryz.func78, Tryz.ntmps78
      go_wp2
      refine wp_loop_rounds 2 ?_
      rw [rounds_succ]
      go_wp2
      rw [rounds_succ]
      go_wp2
      go_ret
      exact ⟨rfl, rfl⟩
  · have hr : orI x y = x := by simp [orI, hx]
    have hx' : (x != 0) = true := by rw [bne_iff_ne]; exact hx
    rw [hr]; clear hr
    go_enter Tryz.func78, Tryz.ntmps78
    go_wp2
    refine wp_loop_rounds 1 ?_
    rw [rounds_succ]
    go_wp2
    go_ret
    exact ⟨rfl, rfl⟩

def cmpSt (a b c d : Int) : Int := orI (cmpI a c) (cmpI b d)

set_option maxRecDepth 100000 in
set_option maxHeartbeats 800000 in
theorem stCompare_any (a b c d : Int) (w : World) :
    Calls Tryz.prog 59 #[.agg #[.int .i64 a, .int .i64 b], .agg #[.int .i64 c, .int .i64 d]] w fun e w' => e = .returned (.int .i64 (cmpSt a b c d)) ∧ New w w' := by
  go_enter Tryz.func59, Tryz.ntmps59
  go_wp2_with fail
  refine region_tail 10 (by kernel_rfl) (by kernel_rfl) ?_
  simp only [List.take_succ_cons, List.take_zero, List.drop_succ_cons, List.drop_zero]
  intro W hc hh hN
  have c0 : W.cell? ⟨w.heap.size, 0, none⟩ = some (.int .i64 a) := by rw [hc]; go_simp
  have c1 : W.cell? ⟨w.heap.size, 1, none⟩ = some (.int .i64 b) := by rw [hc]; go_simp
  have c2 : W.cell? ⟨w.heap.size + 1, 0, none⟩ = some (.int .i64 c) := by rw [hc]; go_simp
  have c3 : W.cell? ⟨w.heap.size + 1, 1, none⟩ = some (.int .i64 d) := by rw [hc]; go_simp
  have hN' : New w W := ((New.alloc' w _).alloc _).trans hN
  clear hc hh hN
  still_step
  still_step
  still_step
  still_step
  still_call (cmp64_any _ _ _)
  still_step
  still_step
  still_step
  still_step
  still_call (cmpi_any _ _ _)
  refine wpStill_nil ?_
  go_wp2_with fail
  refine (or2_any _ (cmpI a c) (cmpI b d) _ _ ?_ ?_).mono ?_
  · go_simp
  · go_simp
  rintro e w' ⟨rfl, rfl⟩
  go_wp2
  go_ret
  exact ⟨rfl, hN'.alloc _⟩

/-- may a stamp be? as stamp.May tells it -/
def mayB (t r : Int) : Bool := (decide (t = 0) && decide (r = 0)) || (decide (1 ≤ t) && (decide (t ≤ 1073741824) && (decide (0 ≤ r) && decide (r < 8))))

set_option maxRecDepth 100000 in
set_option maxHeartbeats 400000 in
theorem rep_any (r : Int) (w : World) : Calls Tryz.prog 106 #[.int .i64 r] w fun e w' => e = .returned (.bool (decide (0 ≤ r) && decide (r < 8))) ∧ w' = w := by
  by_cases h : 0 ≤ r
  · rw [decide_eq_true h]
    go_enter Tryz.func106, Tryz.ntmps106
    go_wp2
    go_ret
    exact ⟨by simp, rfl⟩
  · rw [decide_eq_false h]
    go_enter Tryz.func106, Tryz.ntmps106
    go_wp2
    go_ret
    exact ⟨rfl, rfl⟩

set_option maxRecDepth 100000 in
set_option maxHeartbeats 800000 in
theorem may_any (t r : Int) (w : World) : Calls Tryz.prog 62 #[.agg #[.int .i64 t, .int .i64 r]] w fun e w' => e = .returned (.bool (mayB t r)) ∧ New w w' := by
  by_cases h0 : t = 0 ∧ r = 0
  · obtain ⟨rfl, rfl⟩ := h0
    have hr : mayB 0 0 = true := rfl
    rw [hr]; clear hr
    go_enter Tryz.func62, Tryz.ntmps62
    go_wp2
    go_ret
    exact ⟨rfl, New.alloc' _ _⟩
  have e0 : (t == 0 && r == 0) = false := by
    rw [Bool.and_eq_false_iff]
    by_cases ht : t = 0
    · exact .inr (beq_eq_false_iff_ne.2 (fun hr => h0 ⟨ht, hr⟩))
    · exact .inl (beq_eq_false_iff_ne.2 ht)
  have hm : mayB t r = (decide (1 ≤ t) && (decide (t ≤ 1073741824) && (decide (0 ≤ r) && decide (r < 8)))) := by
    unfold mayB
    have : (decide (t = 0) && decide (r = 0)) = false := by
      rw [Bool.and_eq_false_iff, decide_eq_false_iff_not, decide_eq_false_iff_not]
      by_cases ht : t = 0
      · exact .inr (fun hr => h0 ⟨ht, hr⟩)
      · exact .inl ht
    rw [this]; rfl
  rw [hm]
  clear hm
  have HH := Lib.hid h0
  clear h0
  by_cases h1 : 1 ≤ t
  · by_cases h2 : t ≤ 1073741824
    · rw [decide_eq_true h1, decide_eq_true h2]
      go_enter Tryz.func62, Tryz.ntmps62
      go_wp2_with (go_at_call 106; refine (rep_any _ _).mono ?_; rintro e w' ⟨rfl, rfl⟩)
      go_ret
      exact ⟨by simp, New.alloc' _ _⟩
    · rw [decide_eq_true h1, decide_eq_false h2]
      go_enter Tryz.func62, Tryz.ntmps62
      go_wp2_with (go_at_call 106; refine (rep_any _ _).mono ?_; rintro e w' ⟨rfl, rfl⟩)
      go_ret
      exact ⟨by simp, New.alloc' _ _⟩
  · rw [decide_eq_false h1]
    by_cases ht : t = 0
    · subst ht
      have hr : (r == 0) = false := beq_eq_false_iff_ne.2 (fun h => HH.out ⟨rfl, h⟩)
      clear e0
      go_enter Tryz.func62, Tryz.ntmps62
      go_wp2_with (go_at_call 106; refine (rep_any _ _).mono ?_; rintro e w' ⟨rfl, rfl⟩)
      go_ret
      exact ⟨by simp, New.alloc' _ _⟩
    · have hr : (t == 0) = false := beq_eq_false_iff_ne.2 ht
      clear e0 ht
      go_enter Tryz.func62, Tryz.ntmps62
      go_wp2_with (go_at_call 106; refine (rep_any _ _).mono ?_; rintro e w' ⟨rfl, rfl⟩)
      go_ret
      exact ⟨by simp, New.alloc' _ _⟩
end Go.Proofs.YtlokljaeknmdpaaGreat
