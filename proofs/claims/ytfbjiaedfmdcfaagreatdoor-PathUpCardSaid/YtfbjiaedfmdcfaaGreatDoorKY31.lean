/-
  A deed, plainly; a graph in order has few entries; no condition. · thimbleref09.Nodes, Entries: are two lists the same; condition: at most 100000 elements. · op.fields, op.data, op.Makes, and strings.Contains at a zero byte; no condition but strings' lengths. · op.data; condition: strings' lengths.
-/
import Derived.Test.YtfbjiaedfmdcfaaGreatDoorKY26
import Derived.Test.YtfbjiaedfmdcfaaGreatDoorKY3
import Derived.Test.YtfbjiaedfmdcfaaGreatDoorKY9
import Derived.Test.YtfbjiaedfmdcfaaGreatDoorKY11
/-! ## DeedPl -/
namespace Go.Proofs.YtfbjiaedfmdcfaaGreatDoor
open Go.RowKit Go.Shelf Go.Proofs

/-- the entries of a graph in order are few -/
theorem sumTo_le {e : List Ent} {m : Nat} : ∀ (l : List St), (∀ d ∈ l, linksTo e d ≤ m) → sumTo e l ≤ m * l.length
  | [], _ => by simp [sumTo]
  | d :: l, h => by
    have h1 := sumTo_le l fun x hx => h x (List.mem_cons_of_mem _ hx)
    have h2 := h d List.mem_cons_self
    simp only [sumTo, List.length_cons, Nat.mul_succ]
    omega
theorem Gr.Ok.few {g : Gr} (h : g.Ok) : g.e.length ≤ 240 := by
  have h1 := sumTo_all (g.n.map (·.id)) (h.sn.nodup strictSt) g.e fun x hx => by
    obtain ⟨i, hi, he⟩ := Gr.isSome_iff.1 (h.ends x hx).2.1
    exact List.mem_map.2 ⟨i, hi, he⟩
  have h2 := sumTo_le (e := g.e) (m := 6) (g.n.map (·.id)) fun d hd => by
    obtain ⟨i, hi, rfl⟩ := List.mem_map.1 hd
    have h3 := h.links i hi
    have h4 := h.most i hi
    have : linksTo g.e i.id = g.count i.id := rfl
    omega
  have h3 := h.len
  rw [h1, List.length_map] at h2
  omega

theorem own_below {mI mE : Nat} {w0 a b : World} (h : Turn (Maps2 mI mE) a b) (h1 : w0.heap.size ≤ mI) (h2 : w0.heap.size ≤ mE) (hs : w0.heap.size ≤ a.heap.size) : Below w0.heap.size a b :=
  h.below hs fun k hk hm => by rcases hm with h | h <;> omega

end Go.Proofs.YtfbjiaedfmdcfaaGreatDoor

/-! ## Same -/
namespace Go.Proofs.YtfbjiaedfmdcfaaGreatDoor
open Go.RowKit Go.Shelf Go.Proofs

theorem slAt_at {α : Type} [Inhabited α] {w : World} {k : Nat} {enc : α → List Value} {a : Option Addr} {c n : Nat} {zs : List α} (h : SlAt w k enc (.slice a n c) zs) {i : Nat} (hi : i < zs.length) : ∃ b off, a = some ⟨b, off, none⟩ ∧ b < w.heap.size ∧ ∀ j, j < zs.length → ∀ i u, (enc zs[j]!)[i]? = some u → w.cell? ⟨b, off + j * k + i, none⟩ = some u := by
  rcases h with ⟨_, _, _, h0⟩ | ⟨b, off, c', h0, _, _, h3, h4⟩
  · rw [h0] at hi; exact absurd hi (Nat.not_lt_zero _)
  · simp at h0; exact ⟨b, off, h0.1, h3, h4⟩

end Go.Proofs.YtfbjiaedfmdcfaaGreatDoor

/-! ## OpA -/
namespace Go.Proofs.YtfbjiaedfmdcfaaGreatDoor
open Go.RowKit Go.Shelf Go.Proofs

set_option maxRecDepth 100000 in
set_option maxHeartbeats 1000000 in
theorem fields_any (k : Int) (w : World) : Calls Tryz.prog 81 #[.int .i64 k] w fun x w' => x = .returned (.int .i64 (fieldsOf k : Nat)) ∧ Below w.heap.size w w' := by
  have hc : k = 0 ∨ k = 1 ∨ k = 2 ∨ k = 3 ∨ k = 4 ∨ k = 5 ∨ k = 6 ∨ k = 7 ∨ k = 8 ∨ k = 9 ∨ k = 10 ∨ (k < 0 ∨ 11 ≤ k) := by omega
  rcases hc with rfl | rfl | rfl | rfl | rfl | rfl | rfl | rfl | rfl | rfl | rfl | hc
  all_goals try
    go_enter Tryz.func81, Tryz.ntmps81
    go_wp2
    go_ret
    exact ⟨rfl, (Below.refl _ _).alloc (Nat.le_refl _) _⟩
  have hf : fieldsOf k = 0 := by
    unfold fieldsOf
    repeat rw [if_neg (by omega)]
  rw [hf]
  clear hf
  rcases hc with hc | hc
  · go_enter Tryz.func81, Tryz.ntmps81
    go_wp2
    go_ret
    exact ⟨rfl, (Below.refl _ _).alloc (Nat.le_refl _) _⟩
  · have hn : ¬ k < 0 := by omega
    go_enter Tryz.func81, Tryz.ntmps81
    go_wp2
    go_ret
    exact ⟨rfl, (Below.refl _ _).alloc (Nat.le_refl _) _⟩

/-- where a byte is -/
theorem indexByte_has (c : UInt8) : ∀ l : List UInt8, decide (Lib.indexByte l c ≥ 0) = l.contains c
  | [] => by simp [Lib.indexByte]
  | b :: l => by
    have ih := indexByte_has c l
    have hge := Lib.indexByte_ge l c
    unfold Lib.indexByte
    rw [List.contains_cons]
    by_cases h : b = c
    · subst h; simp
    · have h1 : (b == c) = false := beq_eq_false_iff_ne.2 h
      have h2 : (c == b) = false := beq_eq_false_iff_ne.2 fun e => h e.symm
      rw [h1, h2, Bool.false_or, ← ih]
      simp only [Bool.false_eq_true, if_false]
      by_cases h3 : Lib.indexByte l c = -1
      · rw [h3]; decide
      · have h4 : (Lib.indexByte l c == -1) = false := beq_eq_false_iff_ne.2 h3
        rw [h4]
        simp only [Bool.false_eq_true, if_false]
        rw [decide_eq_decide]; omega

set_option maxRecDepth 100000 in
set_option maxHeartbeats 1000000 in
theorem index_nul (s : ByteArray) (w : World) : Calls Tryz.prog 145 #[.string s, .string ⟨#[0]⟩] w fun x w' => (∃ k : Int, x = .returned (.int .i64 k) ∧ decide (k ≥ 0) = hasNul s) ∧ w = w' := by
  by_cases hs : s = ⟨#[0]⟩
  · subst hs
    go_enter Tryz.func145, Tryz.ntmps145
    go_wp2
    go_ret
    exact ⟨⟨0, rfl, by decide⟩, rfl⟩
  · have he : (([0] : List UInt8) == s.toList) = false := by
      have e : (⟨#[0]⟩ : ByteArray).toList = [0] := by rw [ByteArray.toList_eq]
      rw [← e, toList_inj]; exact decide_eq_false fun h => hs h.symm
    go_enter Tryz.func145, Tryz.ntmps145
    go_wp2_with (go_at_call 181; refine (indexByteLite_any _ _ _).mono ?_; rintro x w' ⟨rfl, rfl⟩)
    go_ret
    exact ⟨⟨Lib.indexByte s.data.toList 0, rfl, indexByte_has 0 _⟩, rfl⟩

set_option maxRecDepth 100000 in
set_option maxHeartbeats 1000000 in
theorem contains_nul (s : ByteArray) (w : World) : Calls Tryz.prog 66 #[.string s, .string ⟨#[0]⟩] w fun x w' => x = .returned (.bool (hasNul s)) ∧ w = w' := by
  have HI : Hid (Calls Tryz.prog 104 #[.string s, .string ⟨#[0]⟩] w fun x w' => (∃ k : Int, x = .returned (.int .i64 k) ∧ decide (k ≥ 0) = hasNul s) ∧ w = w') := Lib.hid (by
    go_enter Tryz.func104, Tryz.ntmps104
    go_wp2_with (go_at_call 145; refine (index_nul _ _).mono ?_; rintro x w' ⟨⟨k, rfl, hk⟩, rfl⟩; have HK := Lib.hid hk; clear hk)
    go_ret
    exact ⟨⟨k, rfl, HK.out⟩, rfl⟩)
  go_enter Tryz.func66, Tryz.ntmps66
  go_wp2_with (go_at_call 104; refine HI.out.mono ?_; rintro x w' ⟨⟨k, rfl, hk⟩, rfl⟩; have HK := Lib.hid hk; clear hk)
  go_ret
  exact ⟨by rw [← HK.out]; rfl, rfl⟩

set_option maxRecDepth 100000 in
set_option maxHeartbeats 1000000 in
theorem opMakes_any (o : Op) (w : World) : Calls Tryz.prog 116 #[o.v] w fun x w' => x = .returned (.int .i64 (makesOf o.kind)) ∧ Below w.heap.size w w' := by
  have hb : Below w.heap.size w (w.alloc (.cells #[.int .i64 o.stamp.t, .int .i64 o.stamp.r, .int .i64 o.kind, .int .i64 o.at_.t, .int .i64 o.at_.r, .int .i64 o.ino.t, .int .i64 o.ino.r, .int .i64 o.to.t, .int .i64 o.to.r, .string o.name, .string o.new, .int .i64 o.off, .string o.data] 42)) := (Below.refl _ _).alloc (Nat.le_refl _) _
  have HB := Lib.hid hb
  clear hb
  obtain ⟨st, kind, at_, ino, to, name, new, off, data⟩ := o
  unfold Op.v
  have hc : kind = 1 ∨ kind = 2 ∨ kind = 3 ∨ (kind ≠ 1 ∧ kind ≠ 2 ∧ kind ≠ 3) := by omega
  rcases hc with rfl | rfl | rfl | ⟨h1, h2, h3⟩
  all_goals try
    go_enter Tryz.func116, Tryz.ntmps116
    go_wp2
    go_ret
    exact ⟨rfl, HB.out⟩
  have hm : makesOf kind = 0 := by unfold makesOf; rw [if_neg h1, if_neg h2, if_neg h3]
  have e1 : (kind == 1) = false := beq_eq_false_iff_ne.2 h1
  have e2 : (kind == 2) = false := beq_eq_false_iff_ne.2 h2
  have e3 : (kind == 3) = false := beq_eq_false_iff_ne.2 h3
  simp only
  rw [hm]
  clear hm h1 h2 h3
  go_enter Tryz.func116, Tryz.ntmps116
  go_wp2
  go_ret
  exact ⟨rfl, HB.out⟩
end Go.Proofs.YtfbjiaedfmdcfaaGreatDoor

/-! ## OpB -/
namespace Go.Proofs.YtfbjiaedfmdcfaaGreatDoor
open Go.RowKit Go.Shelf Go.Proofs

theorem empty_size {s : ByteArray} : s.toList = [] ↔ s.size = 0 := by
  rw [ByteArray.toList_eq]
  constructor
  · intro h
    have := congrArg List.length h
    rw [Array.length_toList] at this
    exact this
  · intro h
    exact List.eq_nil_of_length_eq_zero (by rw [Array.length_toList]; exact h)

theorem wrapIn (x : Int) (h0 : 0 ≤ x) (h1 : x < 9223372036854775808) : IntKind.i64.wrap x = x := by
  obtain ⟨n, rfl⟩ := Int.eq_ofNat_of_zero_le h0
  exact wrapNat n (by omega)

set_option maxRecDepth 100000 in
set_option maxHeartbeats 1000000 in
theorem opData_any (o : Op) (w : World) (hs : o.data.size ≤ reachBytes) : Calls Tryz.prog 84 #[o.v] w fun x w' => x = .returned (.bool (dataOk o)) ∧ Below w.heap.size w w' := by
  have hb : Below w.heap.size w (w.alloc (.cells #[.int .i64 o.stamp.t, .int .i64 o.stamp.r, .int .i64 o.kind, .int .i64 o.at_.t, .int .i64 o.at_.r, .int .i64 o.ino.t, .int .i64 o.ino.r, .int .i64 o.to.t, .int .i64 o.to.r, .string o.name, .string o.new, .int .i64 o.off, .string o.data] 42)) := (Below.refl _ _).alloc (Nat.le_refl _) _
  have HB := Lib.hid hb
  clear hb
  unfold reachBytes at hs
  obtain ⟨st, kind, at_, ino, to, name, new, off, data⟩ := o
  unfold Op.v dataOk
  simp only at *
  by_cases k3 : kind = 3
  · subst k3
    by_cases h1 : data.size = 0
    · have e1 := empty_size.2 h1
      have hr : (!(data.size == 0) && (decide (data.size ≤ 32) && !hasNul data)) = false := by simp [h1]
      rw [if_pos rfl, hr]
      clear hr h1
      go_enter Tryz.func84, Tryz.ntmps84
      go_wp2
      go_ret
      exact ⟨rfl, HB.out⟩
    · have e1 : data.toList.isEmpty = false := by
        cases h : data.toList.isEmpty with
        | false => rfl
        | true => exact absurd (empty_size.1 (by simpa using h)) h1
      have e2 : ¬ data.toList = [] := fun h => h1 (empty_size.1 h)
      by_cases h2 : (data.size : Int) ≤ 32
      · have hr : (!(data.size == 0) && (decide (data.size ≤ 32) && !hasNul data)) = !hasNul data := by
          have : data.size ≤ 32 := by omega
          simp [h1, this]
        rw [if_pos rfl, hr]
        clear hr h1
        go_enter Tryz.func84, Tryz.ntmps84
        go_wp2_with (go_at_call 66; refine (contains_nul _ _).mono ?_; rintro x w' ⟨rfl, rfl⟩)
        go_ret
        exact ⟨rfl, HB.out⟩
      · have hr : (!(data.size == 0) && (decide (data.size ≤ 32) && !hasNul data)) = false := by
          have : ¬ data.size ≤ 32 := by omega
          simp [this]
        rw [if_pos rfl, hr]
        clear hr h1
        go_enter Tryz.func84, Tryz.ntmps84
        go_wp2
        go_ret
        exact ⟨rfl, HB.out⟩
  · rw [if_neg k3]
    have b3 : (kind == 3) = false := beq_eq_false_iff_ne.2 k3
    by_cases k8 : kind = 8
    · subst k8
      rw [if_pos rfl]
      clear k3 b3
      by_cases h1 : 0 ≤ off
      · by_cases h2 : off ≤ 64
        · by_cases h3 : data.size = 0
          · have e1 := empty_size.2 h3
            have hr : (decide (0 ≤ off) && (decide (off ≤ 64) && (!(data.size == 0) && decide (off + (data.size : Int) ≤ 64)))) = false := by simp [h3]
            rw [hr]
            clear hr h3
            go_enter Tryz.func84, Tryz.ntmps84
            go_wp2
            go_ret
            exact ⟨rfl, HB.out⟩
          · have e1 : data.toList.isEmpty = false := by
              cases h : data.toList.isEmpty with
              | false => rfl
              | true => exact absurd (empty_size.1 (by simpa using h)) h3
            have e2 : ¬ data.toList = [] := fun h => h3 (empty_size.1 h)
            have hr : (decide (0 ≤ off) && (decide (off ≤ 64) && (!(data.size == 0) && decide (off + (data.size : Int) ≤ 64)))) = decide (off + (data.size : Int) ≤ 64) := by simp [h3, h1, h2]
            rw [hr]
            clear hr h3
            have hw : IntKind.i64.wrap (off + (data.size : Int)) = off + (data.size : Int) := wrapIn _ (by omega) (by omega)
            go_enter Tryz.func84, Tryz.ntmps84
            go_wp2
            go_ret
            exact ⟨rfl, HB.out⟩
        · have hr : (decide (0 ≤ off) && (decide (off ≤ 64) && (!(data.size == 0) && decide (off + (data.size : Int) ≤ 64)))) = false := by simp [h2]
          rw [hr]
          clear hr
          go_enter Tryz.func84, Tryz.ntmps84
          go_wp2
          go_ret
          exact ⟨rfl, HB.out⟩
      · have hr : (decide (0 ≤ off) && (decide (off ≤ 64) && (!(data.size == 0) && decide (off + (data.size : Int) ≤ 64)))) = false := by simp [h1]
        rw [hr]
        clear hr
        go_enter Tryz.func84, Tryz.ntmps84
        go_wp2
        go_ret
        exact ⟨rfl, HB.out⟩
    · rw [if_neg k8]
      have b8 : (kind == 8) = false := beq_eq_false_iff_ne.2 k8
      by_cases k9 : kind = 9
      · subst k9
        rw [if_pos rfl]
        clear k3 b3 k8 b8 hs
        by_cases h1 : 0 ≤ off
        · rw [decide_eq_true h1, Bool.true_and]
          go_enter Tryz.func84, Tryz.ntmps84
          go_wp2
          go_ret
          exact ⟨rfl, HB.out⟩
        · rw [decide_eq_false h1, Bool.false_and]
          go_enter Tryz.func84, Tryz.ntmps84
          go_wp2
          go_ret
          exact ⟨rfl, HB.out⟩
      · rw [if_neg k9]
        have b9 : (kind == 9) = false := beq_eq_false_iff_ne.2 k9
        by_cases k10 : kind = 10
        · subst k10
          rw [if_pos rfl]
          clear k3 b3 k8 b8 k9 b9 hs
          by_cases h1 : 0 ≤ off
          · rw [decide_eq_true h1, Bool.true_and]
            go_enter Tryz.func84, Tryz.ntmps84
            go_wp2
            go_ret
            exact ⟨rfl, HB.out⟩
          · rw [decide_eq_false h1, Bool.false_and]
            go_enter Tryz.func84, Tryz.ntmps84
            go_wp2
            go_ret
            exact ⟨rfl, HB.out⟩
        · rw [if_neg k10]
          have b10 : (kind == 10) = false := beq_eq_false_iff_ne.2 k10
          clear k3 k8 k9 k10 hs
          go_enter Tryz.func84, Tryz.ntmps84
          go_wp2
          go_ret
          exact ⟨rfl, HB.out⟩
end Go.Proofs.YtfbjiaedfmdcfaaGreatDoor
