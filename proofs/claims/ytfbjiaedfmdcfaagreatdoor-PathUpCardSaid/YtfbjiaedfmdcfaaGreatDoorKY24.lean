/-
  slices.DeleteFunc at entries that lie in a row of the call's own; condition: at most 1000 of them. · graph.List, Parent, Under; condition: the graph is in order. · graph.count, tie, Tie, Untie, Drop, Set, Make; condition: the graph is in order.
-/
import Derived.Test.YtfbjiaedfmdcfaaGreatDoorKY20
import Derived.Test.YtfbjiaedfmdcfaaGreatDoorKY23
import Derived.Laws.CopyRow
import Derived.Laws.CopyOwn
/-! ## Del -/
namespace Go.Proofs.YtfbjiaedfmdcfaaGreatDoor
open Go.RowKit Go.Shelf Go.Proofs

def set5 (cur : Array Value) (a : Nat) (v0 v1 v2 v3 v4 : Value) : Array Value := ((((cur.setIfInBounds a v0).setIfInBounds (a + 1) v1).setIfInBounds (a + 2) v2).setIfInBounds (a + 3) v3).setIfInBounds (a + 4) v4
theorem set5_size (cur : Array Value) (a : Nat) (v0 v1 v2 v3 v4 : Value) : (set5 cur a v0 v1 v2 v3 v4).size = cur.size := by simp [set5]
theorem set5_get (cur : Array Value) (a : Nat) (v0 v1 v2 v3 v4 : Value) (h : a + 5 ≤ cur.size) (q : Nat) : (set5 cur a v0 v1 v2 v3 v4)[q]? = if q = a then some v0 else if q = a + 1 then some v1 else if q = a + 2 then some v2 else if q = a + 3 then some v3 else if q = a + 4 then some v4 else cur[q]? := by
  unfold set5
  simp only [Array.getElem?_setIfInBounds, Array.size_setIfInBounds]
  by_cases h0 : q = a
  · subst h0; simp; omega
  by_cases h1 : q = a + 1
  · subst h1; simp; omega
  by_cases h2 : q = a + 2
  · subst h2; simp; omega
  by_cases h3 : q = a + 3
  · subst h3; simp; omega
  by_cases h4 : q = a + 4
  · subst h4; simp; omega
  simp [h0, h1, h2, h3, h4, Ne.symm h0, Ne.symm h1, Ne.symm h2, Ne.symm h3, Ne.symm h4]

/-- what lies in the row while it is thinned: k are kept of the first j -/
structure DelAt (W : World) (B g cap : Nat) (zs : List Ent) (keep : Ent → Bool) (k j : Nat) (W' : World) : Prop where
  row : ∃ cur, W'.heap[g]? = some (.cells cur 125 (0, 0)) ∧ cur.size = cap * 5 ∧ (∀ q, q < k * 5 → cur[q]? = (((zs.take j).filter keep).flatMap Ent.cells)[q]?) ∧ (∀ q, j * 5 ≤ q → q < zs.length * 5 → cur[q]? = (zs.flatMap Ent.cells)[q]?)
  below : Below B W W'
  many : k = ((zs.take j).filter keep).length
  lt : k < j
  le : j ≤ zs.length

theorem ent_at (zs : List Ent) (j : Nat) (hj : j < zs.length) (i : Nat) (hi : i < 5) : (zs.flatMap Ent.cells)[j * 5 + i]? = (Ent.cells zs[j]!)[i]? := flatMap_at Ent.cells 5 (fun _ => rfl) zs j i hj hi

theorem DelAt.skip {W : World} {B g cap : Nat} {zs : List Ent} {keep : Ent → Bool} {k j : Nat} {W1 W2 : World} (h : DelAt W B g cap zs keep k j W1) (hj : j < zs.length) (hk : keep zs[j]! = false) (hb : Below W1.heap.size W1 W2) (hB : B ≤ W1.heap.size) : DelAt W B g cap zs keep k (j + 1) W2 := by
  obtain ⟨cur, h1, h2, h3, h4⟩ := h.row
  have e : (zs.take (j + 1)).filter keep = (zs.take j).filter keep := by
    rw [List.take_succ_eq_append_getElem hj, List.filter_append]
    rw [getElem!_pos zs j hj] at hk
    simp [hk]
  exact ⟨⟨cur, (hb.block _ (Array.getElem?_eq_some_iff.1 h1).1).trans h1, h2, by rw [e]; exact h3, fun q hq => h4 q (by omega)⟩, h.below.trans (hb.mono hB), by rw [e]; exact h.many, by have := h.lt; omega, hj⟩

theorem set5_heap {W : World} {g a : Nat} {cur : Array Value} {t : TypeId} (h : W.heap[g]? = some (.cells cur t (0, 0))) (v0 v1 v2 v3 v4 : Value) :
    (((((W.setCell ⟨g, a, none⟩ v0).setCell ⟨g, a + 1, none⟩ v1).setCell ⟨g, a + 2, none⟩ v2).setCell ⟨g, a + 3, none⟩ v3).setCell ⟨g, a + 4, none⟩ v4).heap[g]? = some (.cells (set5 cur a v0 v1 v2 v3 v4) t (0, 0)) :=
  heap_setCell_at (heap_setCell_at (heap_setCell_at (heap_setCell_at (heap_setCell_at h _ _) _ _) _ _) _ _) _ _
theorem set5_below {W W' : World} {B g a : Nat} (h : Below B W W') (hg : B ≤ g) (v0 v1 v2 v3 v4 : Value) :
    Below B W (((((W'.setCell ⟨g, a, none⟩ v0).setCell ⟨g, a + 1, none⟩ v1).setCell ⟨g, a + 2, none⟩ v2).setCell ⟨g, a + 3, none⟩ v3).setCell ⟨g, a + 4, none⟩ v4) :=
  ((((h.setCell hg _).setCell hg _).setCell hg _).setCell hg _).setCell hg _

theorem DelAt.take {W : World} {B g cap : Nat} {zs : List Ent} {keep : Ent → Bool} {k j : Nat} {W1 W2 : World} (h : DelAt W B g cap zs keep k j W1) (hj : j < zs.length) (hk : keep zs[j]! = true) (hb : Below W1.heap.size W1 W2) (hB : B ≤ W1.heap.size) (hg : B ≤ g) (hc : zs.length ≤ cap) (x : Ent) (hx : zs[j]! = x) :
    DelAt W B g cap zs keep (k + 1) (j + 1) (((((W2.setCell ⟨g, k * 5, none⟩ (.int .i64 x.at_.t)).setCell ⟨g, k * 5 + 1, none⟩ (.int .i64 x.at_.r)).setCell ⟨g, k * 5 + 2, none⟩ (.string x.name)).setCell ⟨g, k * 5 + 3, none⟩ (.int .i64 x.ino.t)).setCell ⟨g, k * 5 + 4, none⟩ (.int .i64 x.ino.r)) := by
  obtain ⟨cur, h1, h2, h3, h4⟩ := h.row
  have hlt := h.lt
  have hcap : zs.length * 5 ≤ cap * 5 := Nat.mul_le_mul_right 5 hc
  have hkc : k * 5 + 5 ≤ cur.size := by omega
  have e : (zs.take (j + 1)).filter keep = (zs.take j).filter keep ++ [x] := by
    rw [List.take_succ_eq_append_getElem hj, List.filter_append]
    rw [getElem!_pos zs j hj] at hk hx
    rw [hx] at hk ⊢
    simp [hk]
  have hfl : (((zs.take j).filter keep).flatMap Ent.cells).length = k * 5 := by rw [flatMap_len Ent.cells 5 (fun _ => rfl), ← h.many]
  refine ⟨⟨_, set5_heap ((hb.block _ (Array.getElem?_eq_some_iff.1 h1).1).trans h1) _ _ _ _ _, by rw [set5_size]; exact h2, ?_, ?_⟩, set5_below (h.below.trans (hb.mono hB)) hg _ _ _ _ _, by rw [e, List.length_append, ← h.many]; rfl, by omega, hj⟩
  · intro q hq
    rw [set5_get _ _ _ _ _ _ _ hkc, e, List.flatMap_append]
    by_cases hq5 : q < k * 5
    · rw [List.getElem?_append_left (by rw [hfl]; exact hq5), if_neg (by omega), if_neg (by omega), if_neg (by omega), if_neg (by omega), if_neg (by omega)]
      exact h3 q hq5
    · rw [List.getElem?_append_right (by rw [hfl]; omega), hfl]
      rcases (by omega : q = k * 5 ∨ q = k * 5 + 1 ∨ q = k * 5 + 2 ∨ q = k * 5 + 3 ∨ q = k * 5 + 4) with rfl | rfl | rfl | rfl | rfl
      · rw [if_pos rfl, Nat.sub_self]; rfl
      · rw [if_neg (by omega), if_pos rfl, Nat.add_sub_cancel_left]; rfl
      · rw [if_neg (by omega), if_neg (by omega), if_pos rfl, Nat.add_sub_cancel_left]; rfl
      · rw [if_neg (by omega), if_neg (by omega), if_neg (by omega), if_pos rfl, Nat.add_sub_cancel_left]; rfl
      · rw [if_neg (by omega), if_neg (by omega), if_neg (by omega), if_neg (by omega), if_pos rfl, Nat.add_sub_cancel_left]; rfl
  · intro q hq1 hq2
    rw [set5_get _ _ _ _ _ _ _ hkc, if_neg (by omega), if_neg (by omega), if_neg (by omega), if_neg (by omega), if_neg (by omega)]
    exact h4 q (by omega) hq2

/-- the rest of the row is cleared -/
theorem DelAt.clear {W : World} {B g cap : Nat} {zs : List Ent} {keep : Ent → Bool} {k : Nat} {W1 : World} (h : DelAt W B g cap zs keep k zs.length W1) (hg : B ≤ g) (hc : zs.length ≤ cap) (hm : cap ≤ maxLen) (ty : TypeId) (m : Nat) (hmk : m = zs.length - k) (c : Nat) :
    ∃ W2, (Builtin.clear_ #[86] ty #[.slice (some ⟨g, k * 5, none⟩) m c]).run Tryz.prog W1 = .ok (.tuple #[]) W2 ∧ Below B W W2 ∧ W2.ownsRow B 125 5 (.slice (some ⟨g, 0, none⟩) k cap) k ((zs.filter keep).flatMap Ent.cells) := by
  obtain ⟨cur, h1, h2, h3, _⟩ := h.row
  have hlt := h.lt
  have hcap : zs.length * 5 ≤ cap * 5 := Nat.mul_le_mul_right 5 hc
  subst hmk
  have hst := run_storeCells_at Tryz.prog g (k * 5) 125 (Builtin.zeroCells (Value.cells (.agg #[.int .i64 0, .int .i64 0, .string ⟨#[]⟩, .int .i64 0, .int .i64 0])) (zs.length - k)).toList 0 cur W1 h1 (by simp [Builtin.zeroCells, Value.cells]; omega) (by
    intro v hv
    simp only [Builtin.zeroCells, Array.toList_map, Array.toList_range, List.mem_map, List.mem_range] at hv
    obtain ⟨i, _, rfl⟩ := hv
    have h5 : i % (Value.cells (.agg #[.int .i64 0, .int .i64 0, .string ⟨#[]⟩, .int .i64 0, .int .i64 0])).size < 5 := Nat.mod_lt _ (by decide)
    generalize i % (Value.cells (.agg #[.int .i64 0, .int .i64 0, .string ⟨#[]⟩, .int .i64 0, .int .i64 0])).size = r at h5
    match r, h5 with
    | 0, _ => rfl
    | 1, _ => rfl
    | 2, _ => rfl
    | 3, _ => rfl
    | 4, _ => rfl)
  generalize hV : (Builtin.zeroCells (Value.cells (.agg #[.int .i64 0, .int .i64 0, .string ⟨#[]⟩, .int .i64 0, .int .i64 0])) (zs.length - k)).toList = vs at hst
  have hvl : vs.length = (zs.length - k) * 5 := by rw [← hV]; simp [Builtin.zeroCells, Value.cells]
  refine ⟨W1.setRow g (cur.toList.take (k * 5 + 0) ++ vs ++ cur.toList.drop (k * 5 + 0 + vs.length)).toArray, ?_, ?_, ?_⟩
  rotate_left 2
  · have hmany := h.many
    rw [List.take_length] at hmany h3
    refine ⟨by rw [flatMap_len Ent.cells 5 (fun _ => rfl), ← hmany], .inr ⟨g, cap, _, rfl, hg, setRow_heap W1 g cur _ _ _ h1, by omega, hm, ?_, ?_⟩⟩
    · simp [hvl]; omega
    · apply List.ext_getElem?
      intro q
      rw [List.getElem?_take]
      by_cases hq : q < k * 5
      · rw [if_pos hq, ← h3 q hq]
        simp only [Nat.add_zero]
        rw [List.append_assoc, List.getElem?_append_left (by simp; omega), List.getElem?_take, if_pos hq]
        simp
      · rw [if_neg hq, List.getElem?_eq_none]
        rw [flatMap_len Ent.cells 5 (fun _ => rfl), ← hmany]; omega
  · have hz := Tryz.zeroValue125
    have hne : zs.length - k ≠ 0 := by omega
    obtain ⟨d, hd⟩ : ∃ d, zs.length - k = d + 1 := ⟨zs.length - k - 1, by omega⟩
    rw [hd] at hV ⊢
    simp [Builtin.clear_, run_underlying Tryz.underlying86, hz, Result.andThen, hV, hst]
  · exact below_setRow h.below hg _

theorem first_hit {α : Type} [Inhabited α] (p : α → Bool) (zs : List α) : (∀ j, j < zs.length → p zs[j]! = false) ∨ ∃ k, k < zs.length ∧ p zs[k]! = true ∧ ∀ j, j < k → p zs[j]! = false := by
  have key : ∀ n : Nat, (∀ j, j < n → p zs[j]! = false) ∨ ∃ k, k < n ∧ p zs[k]! = true ∧ ∀ j, j < k → p zs[j]! = false := by
    intro n
    induction n with
    | zero => exact .inl fun j hj => absurd hj (Nat.not_lt_zero _)
    | succ n ih =>
      rcases ih with ih | ⟨k, hk, h⟩
      · cases hp : p zs[n]! with
        | true => exact .inr ⟨n, Nat.lt_succ_self _, hp, ih⟩
        | false =>
          left
          intro j hj
          rcases Nat.lt_succ_iff_lt_or_eq.1 hj with h | h
          · exact ih j h
          · rw [h]; exact hp
      · exact .inr ⟨k, by omega, h⟩
  exact key _
theorem filter_all_at {α : Type} [Inhabited α] {p : α → Bool} {zs : List α} (n : Nat) (hn : n ≤ zs.length) (h : ∀ j, j < n → p zs[j]! = false) : (zs.take n).filter (fun x => !p x) = zs.take n := by
  rw [List.filter_eq_self]
  intro a ha
  obtain ⟨j, hj, rfl⟩ := List.getElem_of_mem ha
  have hj' : j < n := by simp at hj; omega
  have := h j hj'
  rw [getElem!_pos zs j (by omega)] at this
  simp [this]

set_option maxRecDepth 100000 in
set_option maxHeartbeats 4000000 in
/-- p: what goes -/
theorem deleteFunc_any (p : Ent → Bool) (f : Nat) (lb : Array Value) (eg : ∀ args w, (callFunc f args).run Tryz.prog w = .ok (.enter f args) w) (B : Nat) (v : Value) (zs : List Ent) (w : World) (hB : B ≤ w.heap.size) (h : w.ownsRow B 125 5 v zs.length (zs.flatMap Ent.cells)) (hz : zs.length ≤ 1000)
    (hp : ∀ (W : World) (x : Ent), Below B w W → Calls Tryz.prog f (#[x.v] ++ lb) W fun e w' => e = .returned (.bool (p x)) ∧ Below W.heap.size W w') :
    Calls Tryz.prog 110 #[v, .func (.func f) #[] lb] w fun e w' => ∃ v' : Value, e = .returned v' ∧ w'.ownsRow B 125 5 v' (zs.filter fun x => !p x).length ((zs.filter fun x => !p x).flatMap Ent.cells) ∧ Below B w w' := by
  rcases h.2 with ⟨rfl, h0⟩ | ⟨g, cap, cur, rfl, hg, hh, h1, h2, h3, h4⟩
  · have hzs := List.eq_nil_of_length_eq_zero h0
    subst hzs
    have hI : Calls Tryz.prog 150 #[.slice none 0 0, .func (.func f) #[] lb] w fun e w' => e = .returned (.int .i64 (-1)) ∧ w' = w := by
      clear hp h h0
      go_enter Tryz.func150, Tryz.ntmps150
      go_wp2
      refine wp_loop_rounds 1 ?_
      rw [rounds_succ]
      go_wp2
      go_ret
      exact ⟨rfl, rfl⟩
    clear hp h h0
    go_enter Tryz.func110, Tryz.ntmps110
    go_wp2_with (go_at_call 150; refine hI.mono ?_; rintro e w' ⟨rfl, rfl⟩)
    go_ret
    exact ⟨_, rfl, World.ownsRow_nil _ _ _ _, Below.refl _ _⟩
  · have hgl := (Array.getElem?_eq_some_iff.1 hh).1
    have hrow := h
    have hcells : ∀ j, j < zs.length → ∀ i u, (Ent.cells zs[j]!)[i]? = some u → w.cell? ⟨g, 0 + j * 5 + i, none⟩ = some u := by
      intro j hj i u hu
      have hi : i < 5 := (List.getElem?_eq_some_iff.1 hu).1
      have hb : j * 5 + i < zs.length * 5 := by omega
      have e := ent_at zs j hj i hi
      rw [← h4, List.getElem?_take, if_pos hb, hu] at e
      unfold World.cell?
      simp only [hh]
      rw [Nat.zero_add]
      simpa using e
    have hI := AnyQ.slices_IndexFunc lIdxEnt 5 Tryz.isAgg125 Tryz.sizeOf125 Ent.cells (fun _ => rfl) p f lb eg g 0 zs.length cap zs w (fun W x hb => (hp W x (hb.mono hB)).mono fun e w' ⟨a, b⟩ => ⟨a, hb.trans (b.mono hb.size)⟩) (Nat.le_refl _) (by omega) hgl hcells
    rw [List.take_length] at hI
    replace hI : Calls Tryz.prog 150 #[.slice (some ⟨g, 0, none⟩) zs.length cap, .func (.func f) #[] lb] w fun e w' => e = .returned (.int .i64 (Lib.idxBy (fun _ y => p y) zs default)) ∧ Below w.heap.size w w' := hI
    rcases first_hit p zs with hall | ⟨k0, hk0, hpk, hbef⟩
    · have e1 : Lib.idxBy (fun _ y => p y) zs default = -1 := by
        have := Lib.idxBy_miss (fun _ y => p y) zs zs.length (default : Ent) hall
        rw [List.take_length] at this
        exact this
      have e2 : zs.filter (fun x => !p x) = zs := by
        have := filter_all_at zs.length (Nat.le_refl _) hall
        rw [List.take_length] at this
        exact this
      rw [e1] at hI
      rw [e2]
      have HR := Lib.hid hrow
      clear hp h hrow hcells hall e1 e2 hh h3 h4
      go_enter Tryz.func110, Tryz.ntmps110
      go_wp2_with (go_at_call 150; refine hI.mono ?_; rintro e w' ⟨rfl, hb⟩)
      go_ret
      exact ⟨_, rfl, ownsRow_below HR.out hb, hb.mono hB⟩
    · have e1 : Lib.idxBy (fun _ y => p y) zs default = (k0 : Int) := by
        have := Lib.idxBy_hit (fun _ y => p y) zs zs.length k0 (default : Ent) hk0 (Nat.le_refl _) hpk hbef
        rw [List.take_length] at this
        exact this
      rw [e1] at hI
      have hD0 : ∀ w', Below w.heap.size w w' → DelAt w B g cap zs (fun x => !p x) k0 (k0 + 1) w' := by
        intro w' hb
        have e : (zs.take (k0 + 1)).filter (fun x => !p x) = zs.take k0 := by
          rw [List.take_succ_eq_append_getElem hk0, List.filter_append, filter_all_at k0 (by omega) hbef]
          rw [getElem!_pos zs k0 hk0] at hpk
          simp [hpk]
        refine ⟨⟨cur, (hb.block _ hgl).trans hh, h3, fun q hq => ?_, fun q hq1 hq2 => ?_⟩, hb.mono hB, by rw [e]; simp; omega, by omega, hk0⟩
        · rw [e]
          have hq' : q < zs.length * 5 := by omega
          have e5 : (zs.flatMap Ent.cells)[q]? = ((zs.take k0).flatMap Ent.cells)[q]? := by
            conv => lhs; rw [← List.take_append_drop k0 zs]
            rw [List.flatMap_append, List.getElem?_append_left]
            rw [flatMap_len Ent.cells 5 (fun _ => rfl)]; simp; omega
          rw [← e5, ← h4, List.getElem?_take, if_pos hq']; simp
        · rw [← h4, List.getElem?_take, if_pos hq2]; simp
      have HD0 := Lib.hid hD0
      have HP := Lib.hid hp
      have HZ := Lib.hid hz
      have HC := Lib.hid h1
      have HM := Lib.hid h2
      have HG := Lib.hid hg
      have HB := Lib.hid hB
      have HK := Lib.hid hk0
      have hw0 : IntKind.i64.wrap ((k0 : Int) + 1) = (k0 : Int) + 1 := wrapNat (k0 + 1) (by omega)
      have hk00 : ((k0 : Int) == -1) = false := by rw [beq_eq_false_iff_ne]; omega
      clear hD0 hp h hrow hcells e1 hh h3 h4 hz hpk hbef h1 h2 hg hB hk0
      go_enter Tryz.func110, Tryz.ntmps110
      go_wp2_with (go_at_call 150; refine hI.mono ?_; rintro e w' ⟨rfl, hb⟩; have HD := Lib.hid (HD0.out w' hb); clear hb)
      clear hI
      go_loopg [5, 6] zs.length (fun gg s5 s6 wr => ∃ k j : Nat, s5 = .int .i64 k ∧ s6 = .int .i64 j ∧ zs.length - j ≤ gg ∧ Aside (DelAt w B g cap zs (fun x => !p x) k j wr))
      case atStart => exact ⟨k0, k0 + 1, rfl, by first | rfl | go_num, by omega, HD.out⟩
      case round =>
        obtain ⟨k, j, rfl, rfl, hgg, hD⟩ := hrel
        have hkj := hD.out.lt
        have hj0 : (0 : Int) ≤ (j : Int) := by omega
        have hki0 : (0 : Int) ≤ (k : Int) := by omega
        have hwj : IntKind.i64.wrap ((j : Int) + 1) = (j : Int) + 1 := wrapNat (j + 1) (by have := hD.out.le; have := HZ.out; omega)
        have hwk : IntKind.i64.wrap ((k : Int) + 1) = (k : Int) + 1 := wrapNat (k + 1) (by have := hD.out.le; have := HZ.out; omega)
        by_cases hlt : j < zs.length
        · have hlti : (j : Int) < (zs.length : Int) := by omega
          have hkn : (k : Int) < (zs.length : Int) := by omega
          have hgl' : g < wr.heap.size := by obtain ⟨_, h, _⟩ := hD.out.row; exact (Array.getElem?_eq_some_iff.1 h).1
          have hBr : B ≤ wr.heap.size := Nat.le_trans HB.out hD.out.below.size
          have hx : ∀ i, i < 5 → wr.cell? ⟨g, j * 5 + i, none⟩ = (Ent.cells zs[j]!)[i]? := by
            intro i hi
            obtain ⟨c, h1, h2, h3, h4⟩ := hD.out.row
            rw [← ent_at zs j hlt i hi, ← h4 (j * 5 + i) (by omega) (by omega)]
            unfold World.cell?
            simp only [h1]
            rfl
          obtain ⟨x, hX⟩ : ∃ x, zs[j]! = x := ⟨_, rfl⟩
          rw [hX] at hx
          have x0 : wr.cell? ⟨g, j * 5, none⟩ = some (.int .i64 x.at_.t) := hx 0 (by omega)
          have x1 : wr.cell? ⟨g, j * 5 + 1, none⟩ = some (.int .i64 x.at_.r) := hx 1 (by omega)
          have x2 : wr.cell? ⟨g, j * 5 + 2, none⟩ = some (.string x.name) := hx 2 (by omega)
          have x3 : wr.cell? ⟨g, j * 5 + 3, none⟩ = some (.int .i64 x.ino.t) := hx 3 (by omega)
          have x4 : wr.cell? ⟨g, j * 5 + 4, none⟩ = some (.int .i64 x.ino.r) := hx 4 (by omega)
          have hbx : Below wr.heap.size wr (wr.alloc (.cells #[.int .i64 x.at_.t, .int .i64 x.at_.r, .string x.name, .int .i64 x.ino.t, .int .i64 x.ino.r] 125)) := (Below.refl _ wr).alloc (Nat.le_refl _) _
          have hcall := HP.out (wr.alloc (.cells #[.int .i64 x.at_.t, .int .i64 x.at_.r, .string x.name, .int .i64 x.ino.t, .int .i64 x.ino.r] 125)) x (hD.out.below.trans (hbx.mono hBr))
          unfold Ent.v at hcall
          have HW : Hid (∀ w1, Below (wr.alloc (.cells #[.int .i64 x.at_.t, .int .i64 x.at_.r, .string x.name, .int .i64 x.ino.t, .int .i64 x.ino.r] 125)).heap.size (wr.alloc (.cells #[.int .i64 x.at_.t, .int .i64 x.at_.r, .string x.name, .int .i64 x.ino.t, .int .i64 x.ino.r] 125)) w1 → w1.cell? ⟨wr.heap.size, 0, none⟩ = some (.int .i64 x.at_.t) ∧ w1.cell? ⟨wr.heap.size, 1, none⟩ = some (.int .i64 x.at_.r) ∧ w1.cell? ⟨wr.heap.size, 2, none⟩ = some (.string x.name) ∧ w1.cell? ⟨wr.heap.size, 3, none⟩ = some (.int .i64 x.ino.t) ∧ w1.cell? ⟨wr.heap.size, 4, none⟩ = some (.int .i64 x.ino.r) ∧ Below wr.heap.size wr w1) := Lib.hid fun w1 hb => by
            have h1 := after1 hb
            exact ⟨h1.1 0 _ rfl, h1.1 1 _ rfl, h1.1 2 _ rfl, h1.1 3 _ rfl, h1.1 4 _ rfl, h1.2⟩
          have HX := Lib.hid hX
          clear hX hx hbx
          cases hq : p x with
          | true =>
            rw [hq] at hcall
            go_wp2_with (go_at_fn f; refine hcall.mono ?_; rintro e w1 ⟨rfl, hb'⟩; have HW1 := Lib.hid (HW.out w1 hb').2.2.2.2.2; clear hb')
            go_roundg (zs.length - (j + 1))
            case measure => omega
            case rel => exact ⟨k, j + 1, rfl, by first | rfl | go_num, by omega, (show Aside _ from hD.out.skip hlt (by rw [HX.out, hq]; rfl) HW1.out hBr)⟩
          | false =>
            rw [hq] at hcall
            have HY : Hid (∀ w1, Below wr.heap.size wr w1 → ∀ i, i < 5 → (∃ v, w1.cell? ⟨g, k * 5 + i, none⟩ = some v) ∧ w1.frozen? ⟨g, k * 5 + i, none⟩ = false) := Lib.hid fun w1 hb i hi => by
              obtain ⟨c, h1, h2, h3, h4⟩ := hD.out.row
              have h5 := (hb.block _ hgl').trans h1
              have hcap : zs.length * 5 ≤ cap * 5 := Nat.mul_le_mul_right 5 HC.out
              have hlt5 : k * 5 + i < c.size := by omega
              exact ⟨⟨c[k * 5 + i], cell_at h5 _ _ (Array.getElem?_eq_getElem hlt5)⟩, frozen_at h5 _⟩
            go_wp2_with (go_at_fn f; refine hcall.mono ?_; rintro e w1 ⟨rfl, hb'⟩; obtain ⟨d0, d1, d2, d3, d4, hb1⟩ := HW.out w1 hb'; obtain ⟨⟨v0, y0⟩, f0⟩ := HY.out w1 hb1 0 (by omega); obtain ⟨⟨v1, y1⟩, f1⟩ := HY.out w1 hb1 1 (by omega); obtain ⟨⟨v2, y2⟩, f2⟩ := HY.out w1 hb1 2 (by omega); obtain ⟨⟨v3, y3⟩, f3⟩ := HY.out w1 hb1 3 (by omega); obtain ⟨⟨v4, y4⟩, f4⟩ := HY.out w1 hb1 4 (by omega); rw [Nat.add_zero] at y0 f0; have HW1 := Lib.hid hb1; clear hb' hb1)
            go_roundg (zs.length - (j + 1))
            case measure => omega
            case rel => exact ⟨k + 1, j + 1, by first | rfl | go_num, by first | rfl | go_num, by omega, (show Aside _ from hD.out.take hlt (by rw [HX.out, hq]; rfl) HW1.out hBr HG.out HC.out x HX.out)⟩
        · have hlti : ¬ (j : Int) < (zs.length : Int) := by omega
          have hje : j = zs.length := by have := hD.out.le; omega
          subst hje
          have hkc : (k : Int) ≤ (cap : Int) := by have := HC.out; omega
          have hkn : (k : Int) ≤ (zs.length : Int) := by omega
          have hnc : (zs.length : Int) ≤ (cap : Int) := by have := HC.out; omega
          have hne : ¬ cap = k := by have := HC.out; omega
          obtain ⟨w2, hrun, hb2, hr2⟩ := hD.out.clear HG.out HC.out HM.out 0 (zs.length - k) rfl (cap - k)
          have HR2 := Lib.hid hr2
          have HB2 := Lib.hid hb2
          have HKK := Lib.hid hD.out.many
          clear hr2 hb2
          go_wp2
          go_ret
          have e := HKK.out
          rw [List.take_length] at e
          rw [← e]
          exact ⟨_, rfl, HR2.out, HB2.out⟩
end Go.Proofs.YtfbjiaedfmdcfaaGreatDoor

/-! ## GrOps -/
namespace Go.Proofs.YtfbjiaedfmdcfaaGreatDoor
open Go.RowKit Go.Shelf

theorem eqSt (a b : St) : (a.t == b.t && a.r == b.r) = decide (a = b) := by
  obtain ⟨a1, a2⟩ := a
  obtain ⟨b1, b2⟩ := b
  rw [Bool.eq_iff_iff]
  simp

set_option maxRecDepth 100000 in
set_option maxHeartbeats 400000 in
theorem list1_any (x : Ent) (id : St) (Ba : Nat) (w : World) (hB : Ba < w.heap.size) (h0 : w.cell? ⟨Ba, 0, none⟩ = some (.int .i64 id.t)) (h1 : w.cell? ⟨Ba, 1, none⟩ = some (.int .i64 id.r)) :
    Calls Tryz.prog 111 #[x.v, .pointer (some ⟨Ba, 0, none⟩)] w fun e w' => e = .returned (.bool (!decide (x.at_ = id))) ∧ Below w.heap.size w w' := by
  rw [← eqSt]
  unfold Ent.v
  go_enter Tryz.func111, Tryz.ntmps111
  go_wp2
  all_goals
    go_ret
    exact ⟨by simp [*], (Below.refl _ _).alloc (Nat.le_refl _) _⟩

set_option maxRecDepth 100000 in
set_option maxHeartbeats 400000 in
theorem list_any (gb mI mE : Nat) (g : Gr) (id : St) (w : World) (h : GrAt w gb mI mE g) (hs : RisesE g.e) (hl : g.e.length ≤ 1000) :
    Calls Tryz.prog 72 #[.pointer (some ⟨gb, 0, none⟩), id.v] w fun e w' => ∃ v : Value, e = .returned v ∧ w'.ownsRow w.heap.size 125 5 v (g.list id).length ((g.list id).flatMap Ent.cells) ∧ Below w.heap.size w w' := by
  have HE := Lib.hid (entries_any gb mI mE g (w.alloc (.cells #[.int .i64 id.t, .int .i64 id.r] 26)) (h.new (New.alloc' w _)) hs hl)
  have HD : Hid (∀ (v : Value) (W : World), Below (w.alloc (.cells #[.int .i64 id.t, .int .i64 id.r] 26)).heap.size (w.alloc (.cells #[.int .i64 id.t, .int .i64 id.r] 26)) W → W.ownsRow (w.alloc (.cells #[.int .i64 id.t, .int .i64 id.r] 26)).heap.size 125 5 v g.e.length (g.e.flatMap Ent.cells) →
      Calls Tryz.prog 110 #[v, .func (.func 111) #[] #[.pointer (some ⟨w.heap.size, 0, none⟩)]] W fun e w' => ∃ v' : Value, e = .returned v' ∧ w'.ownsRow (w.alloc (.cells #[.int .i64 id.t, .int .i64 id.r] 26)).heap.size 125 5 v' (g.list id).length ((g.list id).flatMap Ent.cells) ∧ Below (w.alloc (.cells #[.int .i64 id.t, .int .i64 id.r] 26)).heap.size W w') := Lib.hid fun v W hW hr => by
    have := deleteFunc_any (fun x => !decide (x.at_ = id)) 111 #[.pointer (some ⟨w.heap.size, 0, none⟩)] (enters_of Tryz.func111 (by kernel_rfl) rfl) _ v g.e W hW.size hr hl (fun W' x hb => by
      have hb2 := hW.trans hb
      have a := after1 hb2
      exact list1_any x id w.heap.size W' (by have := hb2.size; simp at this; omega) (a.1 0 _ rfl) (a.1 1 _ rfl))
    have e : (g.e.filter fun x => !(!decide (x.at_ = id))) = g.list id := by
      unfold Gr.list
      congr 1
      funext x
      simp
    rw [e] at this
    exact this
  clear h
  unfold St.v
  go_enter Tryz.func72, Tryz.ntmps72
  go_wp2_with (first
    | (go_at_call 110; refine HD2.out.mono ?_; rintro e w2 ⟨v', rfl, h1, h2⟩; have H1 := Lib.hid h1; have H2 := Lib.hid h2; clear h1 h2)
    | (go_at_call 46; refine HE.out.mono ?_; rintro e w1 ⟨v, rfl, h1, h2⟩; have HB := Lib.hid h2; have HD2 := Lib.hid (HD.out v w1 h2 h1); clear h1 h2))
  go_ret
  exact ⟨v', rfl, ownsRow_mono H1.out (by simp), (((Below.refl _ w).alloc (Nat.le_refl _) _).trans (HB.out.mono (by simp))).trans (H2.out.mono (by simp))⟩

theorem slAt_own {w : World} {B : Nat} {v : Value} {zs : List Ent} (h : w.ownsRow B 125 5 v zs.length (zs.flatMap Ent.cells)) : SlAt w 5 Ent.cells v zs := SlAt.of_row (fun _ => rfl) h
theorem slAt_ownI {w : World} {B : Nat} {v : Value} {zs : List Ino} (h : w.ownsRow B 28 6 v zs.length (zs.flatMap Ino.cells)) : SlAt w 6 Ino.cells v zs := SlAt.of_row (fun _ => rfl) h

theorem below_set2 {B k : Nat} {w W : World} (h : Below B w W) (hk : B ≤ k) (v0 v1 : Value) : Below B w ((W.setCell ⟨k, 0, none⟩ v0).setCell ⟨k, 1, none⟩ v1) :=
  (h.setCell (p := ⟨k, 0, none⟩) hk v0).setCell (p := ⟨k, 1, none⟩) hk v1
theorem heap_set2 {W : World} {k : Nat} {a b : Value} {t : TypeId} {fz : Nat × Nat} (h : W.heap[k]? = some (.cells #[a, b] t fz)) (v0 v1 : Value) : ((W.setCell ⟨k, 0, none⟩ v0).setCell ⟨k, 1, none⟩ v1).heap[k]? = some (.cells #[v0, v1] t fz) :=
  heap_setCell_at (heap_setCell_at h 0 v0) 1 v1
theorem heap_set2_other {W : World} {k j : Nat} (h : j ≠ k) (v0 v1 : Value) : ((W.setCell ⟨k, 0, none⟩ v0).setCell ⟨k, 1, none⟩ v1).heap[j]? = W.heap[j]? :=
  (heap_setCell_other _ ⟨k, 1, none⟩ j _ h).trans (heap_setCell_other _ ⟨k, 0, none⟩ j _ h)
theorem St.three (x d : St) : x = d ∨ (x ≠ d ∧ (x.t == d.t) = false) ∨ ∃ r, x = ⟨d.t, r⟩ ∧ (⟨d.t, r⟩ : St) ≠ d ∧ (r == d.r) = false := by
  obtain ⟨a, b⟩ := x
  obtain ⟨c, e⟩ := d
  simp only [St.mk.injEq, beq_eq_false_iff_ne, ne_eq]
  by_cases h1 : a = c
  · by_cases h2 : b = e
    · exact .inl ⟨h1, h2⟩
    · exact .inr (.inr ⟨b, ⟨h1, rfl⟩, by simp [h2], h2⟩)
  · exact .inr (.inl ⟨by simp [h1], h1⟩)
theorem find_first {α : Type} [Inhabited α] (p : α → Bool) : ∀ (l : List α) (k : Nat), k < l.length → p l[k]! = true → (∀ j, j < k → p l[j]! = false) → l.find? p = some l[k]!
  | [], _, h, _, _ => absurd h (Nat.not_lt_zero _)
  | a :: l, 0, _, h, _ => by
    have : p a = true := by simpa using h
    rw [List.find?_cons, this]; simp
  | a :: l, k + 1, hk, h, hb => by
    have h0 : p a = false := by simpa using hb 0 (Nat.succ_pos _)
    rw [List.find?_cons, h0]
    have := find_first p l k (by simpa using hk) (by simpa using h) (fun j hj => by simpa using hb (j + 1) (by omega))
    simpa using this
theorem find_never {α : Type} [Inhabited α] (p : α → Bool) (l : List α) (h : ∀ j, j < l.length → p l[j]! = false) : l.find? p = none := by
  rw [List.find?_eq_none]
  intro x hx
  obtain ⟨j, hj, rfl⟩ := List.getElem_of_mem hx
  have := h j hj
  rw [getElem!_pos l j hj] at this
  simp [this]

set_option maxRecDepth 100000 in
set_option maxHeartbeats 2000000 in
theorem parent_any (gb mI mE : Nat) (g : Gr) (id : St) (w : World) (h : GrAt w gb mI mE g) (hn : RisesN g.n) (hs : RisesE g.e) (hl : g.e.length ≤ 1000) :
    Calls Tryz.prog 38 #[.pointer (some ⟨gb, 0, none⟩), id.v] w fun e w' => e = .returned (.tuple #[((g.parent id).getD ⟨0, 0⟩).v, .bool (g.parent id).isSome]) ∧ Below w.heap.size w w' := by
  have hN2 : New w ((w.alloc (.cells #[.int .i64 id.t, .int .i64 id.r] 26)).alloc (.cells #[.int .i64 0, .int .i64 0] 26)) := (New.alloc' w _).alloc _
  have HDr := Lib.hid (directory_g gb mI mE g id _ (h.new hN2) hn)
  have HE : Hid (∀ W, New ((w.alloc (.cells #[.int .i64 id.t, .int .i64 id.r] 26)).alloc (.cells #[.int .i64 0, .int .i64 0] 26)) W → Calls Tryz.prog 46 #[.pointer (some ⟨gb, 0, none⟩)] W fun e w' => ∃ v : Value, e = .returned v ∧ SlAt w' 5 Ent.cells v g.e ∧ Below W.heap.size W w') := Lib.hid fun W hW => (entries_any gb mI mE g W (h.new (hN2.trans hW)) hs hl).mono fun e w' ⟨v, h1, h2, h3⟩ => ⟨v, h1, slAt_own h2, h3⟩
  have HB0 := Lib.hid hN2.below
  have hlen : (g.e.length : Int) ≤ 1000 := by omega
  clear hN2 h
  unfold Gr.parent
  unfold St.v at HDr ⊢
  cases hd : g.isDir id with
  | false =>
    rw [hd] at HDr
    clear hd
    go_enter Tryz.func38, Tryz.ntmps38
    go_wp2_with (go_at_call 75; refine HDr.out.mono ?_; rintro e w1 ⟨rfl, hN⟩; obtain ⟨hc, hf⟩ := bnew hN; have HN := Lib.hid hN.below; clear hN)
    refine bodyPost_ret (v := .tuple #[(.agg #[.int .i64 0, .int .i64 0]), .bool false]) (by simp [results, Tryz.results38, go_sem, hc]) rfl ⟨rfl, ?_⟩
    exact below_set2 (HB0.out.trans (HN.out.mono HB0.out.size)) (Nat.le_succ _) _ _
  | true =>
    rw [hd] at HDr
    clear hd
    simp only [if_true]
    have HW : Hid (∀ W, Below ((w.alloc (.cells #[.int .i64 id.t, .int .i64 id.r] 26)).alloc (.cells #[.int .i64 0, .int .i64 0] 26)).heap.size ((w.alloc (.cells #[.int .i64 id.t, .int .i64 id.r] 26)).alloc (.cells #[.int .i64 0, .int .i64 0] 26)) W → W.cell? ⟨w.heap.size, 0, none⟩ = some (.int .i64 id.t) ∧ W.cell? ⟨w.heap.size, 1, none⟩ = some (.int .i64 id.r) ∧
        W.cell? ⟨w.heap.size + 1, 0, none⟩ = some (.int .i64 0) ∧ W.cell? ⟨w.heap.size + 1, 1, none⟩ = some (.int .i64 0) ∧ (∀ i, W.frozen? ⟨w.heap.size + 1, i, none⟩ = false) ∧ w.heap.size + 1 < W.heap.size) := Lib.hid fun W hW => by
      have hs := hW.size
      simp only [World.size_alloc] at hs
      have e1 : W.heap[w.heap.size + 1]? = some (.cells #[.int .i64 0, .int .i64 0] 26 (0, 0)) := (hW.block _ (by simp)).trans (by have := World.alloc_heap_new (w.alloc (.cells #[.int .i64 id.t, .int .i64 id.r] 26)) (.cells #[.int .i64 0, .int .i64 0] 26); simpa using this)
      have e0 : W.heap[w.heap.size]? = some (.cells #[.int .i64 id.t, .int .i64 id.r] 26 (0, 0)) := (hW.block _ (by simp only [World.size_alloc]; omega)).trans ((Below.heap_alloc _ _ _ (by simp)).trans (World.alloc_heap_new w (.cells #[.int .i64 id.t, .int .i64 id.r] 26)))
      exact ⟨cell_at e0 0 _ rfl, cell_at e0 1 _ rfl, cell_at e1 0 _ rfl, cell_at e1 1 _ rfl, fun i => frozen_at e1 i, by omega⟩
    go_enter Tryz.func38, Tryz.ntmps38
    go_wp2_with (first
      | (go_at_call 75; refine HDr.out.mono ?_; rintro e w1 ⟨rfl, hN⟩; have HE1 := Lib.hid (HE.out w1 hN); have HB1 := Lib.hid hN.below; clear hN)
      | (go_at_call 46; refine HE1.out.mono ?_; rintro e w2 ⟨v, rfl, h1, h2⟩; have HS := Lib.hid h1; have HB2 := Lib.hid (HB1.out.trans (h2.mono HB1.out.size)); obtain ⟨a, c, rfl⟩ := h1.len; clear h1 h2))
    clear HE1 HE HDr
    go_loopg [16] g.e.length (fun gg s16 wr => ∃ k : Nat, s16 = .int .i64 k ∧ k ≤ g.e.length ∧ g.e.length - k ≤ gg ∧ Aside (Below w2.heap.size w2 wr) ∧ Aside (∀ j, j < k → g.e[j]!.ino ≠ id))
    case atStart => exact ⟨0, rfl, Nat.zero_le _, by omega, Below.refl _ _, fun j hj => absurd hj (Nat.not_lt_zero _)⟩
    case round =>
      obtain ⟨k, rfl, hk, hgg, hB, hno⟩ := hrel
      have hBW := HB2.out.trans (hB.out.mono HB2.out.size)
      obtain ⟨c0, c1, r0, r1, fr, hsz⟩ := HW.out wr hBW
      have hsz0 : w.heap.size < wr.heap.size := by omega
      have f0 := fr 0
      have f1 := fr 1
      have HBW := Lib.hid hBW
      clear fr hBW
      by_cases hlt : k < g.e.length
      · have hlti : (k : Int) < (g.e.length : Int) := by omega
        have hk0 : (0 : Int) ≤ (k : Int) := by omega
        have hwk : IntKind.i64.wrap ((k : Int) + 1) = (k : Int) + 1 := wrapNat (k + 1) (by omega)
        obtain ⟨b, off, rfl, hbl, hcells⟩ : ∃ b off, a = some ⟨b, off, none⟩ ∧ b < wr.heap.size ∧ ∀ j, j < g.e.length → ∀ i u, (Ent.cells g.e[j]!)[i]? = some u → wr.cell? ⟨b, off + j * 5 + i, none⟩ = some u := by
          rcases HS.out.below hB.out with ⟨_, _, _, h0⟩ | ⟨b, off, c', h0, _, _, h3, h4⟩
          · rw [h0] at hlt; exact absurd hlt (Nat.not_lt_zero _)
          · simp at h0; exact ⟨b, off, h0.1, h3, h4⟩
        obtain ⟨x0, x1, x2, x3, x4⟩ := cellsEnt hcells k hlt
        clear hcells
        obtain ⟨x, hX⟩ : ∃ x, g.e[k]! = x := ⟨_, rfl⟩
        rw [hX] at x0 x1 x2 x3 x4
        have HX := Lib.hid hX
        clear hX
        go_wp2
        · have hxi : x.ino = id := by
            have h1 : x.ino.t = id.t := by assumption
            have h2 : x.ino.r = id.r := by assumption
            obtain ⟨i1, i2⟩ := id
            obtain ⟨_, _, j1, j2⟩ := x
            simp only at h1 h2
            simp [h1, h2]
          have hfi : (g.e.find? fun y => decide (y.ino = id)).map (·.at_) = some x.at_ := by
            rw [find_first (fun y : Ent => decide (y.ino = id)) g.e k hlt (by rw [HX.out]; simpa using hxi) (fun j hj => by simpa using hno.out j hj), HX.out]; rfl
          simp only [hfi, Option.getD_some, Option.isSome_some]
          refine bodyPost_ret (v := .tuple #[(.agg #[.int .i64 x.at_.t, .int .i64 x.at_.r]), .bool true]) (by simp [results, Tryz.results38, go_sem, r0, r1, hsz]) rfl ⟨rfl, ?_⟩
          exact (below_set2 (HB0.out.trans (HBW.out.mono HB0.out.size)) (Nat.le_succ _) _ _).alloc (by simp [World.setCell]; omega) _
        all_goals
          have hxi : x.ino ≠ id := by
            intro h
            subst h
            first
              | (have h1 : ¬ x.ino.t = x.ino.t := by assumption
                 exact h1 rfl)
              | (have h1 : ¬ x.ino.r = x.ino.r := by assumption
                 exact h1 rfl)
          go_roundg (g.e.length - (k + 1))
          case measure => omega
          case rel => exact ⟨k + 1, by first | rfl | go_num, by omega, by omega, (show Aside _ from hB.out.alloc hB.out.size _), (show Aside _ from fun j hj => by rcases Nat.lt_succ_iff_lt_or_eq.1 hj with h | h; exact hno.out j h; rw [h, HX.out]; exact hxi)⟩
      · have hlti : ¬ (k : Int) < (g.e.length : Int) := by omega
        go_wp2
        have hfi : (g.e.find? fun y => decide (y.ino = id)) = none := find_never _ _ fun j hj => by simpa using hno.out j (by omega)
        simp only [hfi, Option.map_none, Option.getD_none, Option.isSome_none]
        refine bodyPost_ret (v := .tuple #[(.agg #[.int .i64 0, .int .i64 0]), .bool false]) (by simp [results, Tryz.results38, go_sem, r0, r1]) rfl ⟨rfl, ?_⟩
        exact below_set2 (HB0.out.trans (HBW.out.mono HB0.out.size)) (Nat.le_succ _) _ _

set_option maxRecDepth 100000 in
set_option maxHeartbeats 2000000 in
theorem under_any (gb mI mE : Nat) (g : Gr) (a d : St) (w : World) (h : GrAt w gb mI mE g) (hok : g.Ok) (hl : g.e.length ≤ 1000) :
    Calls Tryz.prog 71 #[.pointer (some ⟨gb, 0, none⟩), a.v, d.v] w fun e w' => e = .returned (.bool (g.under a d)) ∧ Below w.heap.size w w' := by
  have HP : Hid (∀ (id : St) W, Below w.heap.size w W → Calls Tryz.prog 38 #[.pointer (some ⟨gb, 0, none⟩), (.agg #[.int .i64 id.t, .int .i64 id.r])] W fun e w' => e = .returned (.tuple #[((g.parent id).getD ⟨0, 0⟩).v, .bool (g.parent id).isSome]) ∧ Below W.heap.size W w') := Lib.hid fun id W hW => parent_any gb mI mE g id W (h.below hW) hok.sn hok.se hl
  have HOK := Lib.hid hok
  obtain ⟨r, hr⟩ := hok.ends_up
  have HR := Lib.hid hr
  have hbd : ∀ W, Below ((w.alloc (.cells #[.int .i64 a.t, .int .i64 a.r] 26)).alloc (.cells #[.int .i64 d.t, .int .i64 d.r] 26)).heap.size ((w.alloc (.cells #[.int .i64 a.t, .int .i64 a.r] 26)).alloc (.cells #[.int .i64 d.t, .int .i64 d.r] 26)) W → True := fun _ _ => trivial
  clear hr hok h hbd
  unfold St.v
  go_enter Tryz.func71, Tryz.ntmps71
  go_wp2
  -- slot 4: the box of what is looked at (it turns), slot 5: the box of d
  go_loopg [7] (r a + 1) (fun gg s7 wr => ∃ (o : Option St) (x : St), s7 = .bool o.isSome ∧ (o.isSome = true → o = some x ∧ r x + 1 ≤ gg) ∧ Aside (Below w.heap.size w wr) ∧ Aside (wr.heap[w.heap.size]? = some (.cells #[.int .i64 x.t, .int .i64 x.r] 26 (0, 0)) ∧ wr.heap[w.heap.size + 1]? = some (.cells #[.int .i64 d.t, .int .i64 d.r] 26 (0, 0))) ∧
      Aside (match o with | some x => (g.Under d a ↔ g.Under d x) | none => ¬ g.Under d a))
  case atStart =>
    refine ⟨some a, a, rfl, fun _ => ⟨rfl, Nat.le_refl _⟩, (show Aside _ from ((Below.refl _ w).alloc (Nat.le_refl _) _).alloc (by simp) _), (show Aside _ from ⟨?_, ?_⟩), (show Aside _ from Iff.rfl)⟩
    · exact (Below.heap_alloc _ _ _ (by simp)).trans (World.alloc_heap_new w (.cells #[.int .i64 a.t, .int .i64 a.r] 26))
    · have := World.alloc_heap_new (w.alloc (.cells #[.int .i64 a.t, .int .i64 a.r] 26)) (.cells #[.int .i64 d.t, .int .i64 d.r] 26)
      simpa using this
  case round =>
    obtain ⟨o, x, rfl, hox, hB, hcs, hU⟩ := hrel
    cases o with
    | none =>
      clear hox
      go_wp2
      go_ret
      refine ⟨?_, hB.out⟩
      have : g.under a d = false := by
        rw [Bool.eq_false_iff]
        intro h
        exact hU.out (Gr.under_iff.1 h)
      rw [this]
      rfl
    | some x' =>
      obtain ⟨hxx, hgg⟩ := hox rfl
      obtain rfl : x' = x := Option.some.inj hxx
      clear hox hxx
      have hsz : w.heap.size + 1 < wr.heap.size := (Array.getElem?_eq_some_iff.1 hcs.out.2).1
      have hsz0 : w.heap.size < wr.heap.size := by omega
      have c0 : wr.cell? ⟨w.heap.size, 0, none⟩ = some (.int .i64 x'.t) := cell_at hcs.out.1 0 _ rfl
      have c1 : wr.cell? ⟨w.heap.size, 1, none⟩ = some (.int .i64 x'.r) := cell_at hcs.out.1 1 _ rfl
      have d0 : wr.cell? ⟨w.heap.size + 1, 0, none⟩ = some (.int .i64 d.t) := cell_at hcs.out.2 0 _ rfl
      have d1 : wr.cell? ⟨w.heap.size + 1, 1, none⟩ = some (.int .i64 d.r) := cell_at hcs.out.2 1 _ rfl
      have hpar := HP.out x' wr hB.out
      have HF : Hid (∀ W, Below wr.heap.size wr W → W.cell? ⟨w.heap.size, 0, none⟩ = some (.int .i64 x'.t) ∧ W.cell? ⟨w.heap.size, 1, none⟩ = some (.int .i64 x'.r) ∧ W.frozen? ⟨w.heap.size, 0, none⟩ = false ∧ W.frozen? ⟨w.heap.size, 1, none⟩ = false ∧ w.heap.size < W.heap.size) := Lib.hid fun W hW => by
        have e := (hW.block _ hsz0).trans hcs.out.1
        exact ⟨cell_at e 0 _ rfl, cell_at e 1 _ rfl, frozen_at e 0, frozen_at e 1, (Array.getElem?_eq_some_iff.1 e).1⟩
      rcases St.three x' d with rfl | hne
      · clear hpar HF hgg
        go_wp2
        go_ret
        have : g.under a x' = true := Gr.under_iff.2 (hU.out.2 .here)
        rw [this]
        exact ⟨rfl, hB.out⟩
      · have HNE : Hid (x' ≠ d) := Lib.hid (by rcases hne with ⟨h, _⟩ | ⟨r, rfl, h, _⟩ <;> exact h)
        have hnx : ∀ p, g.parent x' = some p → r p + 1 ≤ r x' := fun p hp => HR.out _ _ hp
        have hup : ∀ p, g.parent x' = some p → (g.Under d a ↔ g.Under d p) := fun p hp => hU.out.trans ⟨fun h => h.up HNE.out hp, fun h => .step hp h⟩
        have hno : g.parent x' = none → ¬ g.Under d a := fun hp h => by
          rcases (hU.out.1 h).inv with h | ⟨p, h, _⟩
          · exact HNE.out h
          · rw [hp] at h; cases h
        have HNX := Lib.hid hnx
        have HUP := Lib.hid hup
        have HNO := Lib.hid hno
        have HCS := Lib.hid hcs.out
        clear hnx hup hno
        generalize hpo : g.parent x' = po at hpar HNX HUP HNO
        have HPO : Hid (∀ p, po = some p → r p + 1 < gk) := Lib.hid fun p hp => by have := HNX.out p hp; omega
        have hgk : 0 < gk := by omega
        clear hpo HNX
        unfold St.v at hpar
        rcases hne with ⟨_, e0⟩ | ⟨xr, hxe, _, e1⟩
        rotate_left 1
        subst hxe
        all_goals
          go_wp2_with (go_at_call 38; refine hpar.mono ?_; rintro e w1 ⟨rfl, hb⟩; obtain ⟨q0, q1, f0, f1, hs1⟩ := HF.out w1 hb; have HB1 := Lib.hid hb; clear hb)
          have HB2 : Hid (Below w.heap.size w w1) := Lib.hid (hB.out.trans (HB1.out.mono hB.out.size))
          have HC2 : Hid (w1.heap[w.heap.size + 1]? = some (.cells #[.int .i64 d.t, .int .i64 d.r] 26 (0, 0))) := Lib.hid ((HB1.out.block _ hsz).trans HCS.out.2)
          have HC1 := Lib.hid ((HB1.out.block _ hsz0).trans HCS.out.1)
          cases po with
          | none =>
            go_roundg 0
            case measure => omega
            case rel => exact ⟨none, ⟨0, 0⟩, rfl, (fun h => by cases h), (show Aside _ from below_set2 HB2.out (Nat.le_refl _) _ _), (show Aside _ from ⟨heap_set2 HC1.out _ _, (heap_set2_other (by omega) _ _).trans HC2.out⟩), (show Aside _ from HNO.out rfl)⟩
          | some p =>
            go_roundg (r p + 1)
            case measure => have := HPO.out p rfl; omega
            case rel => exact ⟨some p, p, rfl, (fun _ => ⟨rfl, Nat.le_refl _⟩), (show Aside _ from below_set2 HB2.out (Nat.le_refl _) _ _), (show Aside _ from ⟨heap_set2 HC1.out _ _, (heap_set2_other (by omega) _ _).trans HC2.out⟩), (show Aside _ from HUP.out p rfl)⟩
end Go.Proofs.YtfbjiaedfmdcfaaGreatDoor

/-! ## GrMut -/
namespace Go.Proofs.YtfbjiaedfmdcfaaGreatDoor
open Go.RowKit Go.Shelf

section
variable {g : Gr} {id : St}
theorem nodes_upd (hs : RisesN g.n) {kv : List (St × Ino)} (hp : kv.Perm (nodesKV g.n)) {i : Ino} (hi : g.get id = some i) (f : Ino → Ino) (hf : ∀ i, (f i).id = i.id) : (putKV id (f i) kv).Perm (nodesKV (g.upd id f)) := by
  obtain ⟨hin, hid⟩ := Gr.get_some hi
  have hn : ((nodesKV g.n).map (·.1)).Nodup := by rw [nodesKV_keys]; exact hs.nodup strictSt
  have hnk : (kv.map (·.1)).Nodup := (hp.map _).nodup_iff.2 hn
  have hk : id ∈ kv.map (·.1) := (hp.map (·.1)).mem_iff.2 (by rw [nodesKV_keys]; exact List.mem_map.2 ⟨i, hin, hid⟩)
  rw [putKV_map hnk hk]
  refine (hp.map _).trans (List.Perm.of_eq ?_)
  unfold nodesKV Gr.upd
  rw [List.map_map, List.map_map]
  apply List.map_congr_left
  intro j hj
  simp only [Function.comp]
  by_cases hji : j.id = id
  · have : j = i := RisesK.apart strictSt hs hj hin (hji.trans hid.symm)
    rw [if_pos hji, if_pos hji, hf, hji, this]
  · rw [if_neg hji, if_neg hji]
theorem nodes_new {kv : List (St × Ino)} (hp : kv.Perm (nodesKV g.n)) (hi : g.get id = none) (x : Ino) (hx : x.id = id) : (putKV id x kv).Perm (nodesKV (putIn Ino.id ltSt x g.n)) := by
  have hno := Gr.get_none hi
  have hk : id ∉ kv.map (·.1) := by
    intro h
    have := (hp.map (·.1)).mem_iff.1 h
    rw [nodesKV_keys] at this
    obtain ⟨j, hj, e⟩ := List.mem_map.1 this
    exact hno j hj e
  refine (putKV_perm_new hk).trans ?_
  have h1 := (putIn_perm (key := Ino.id) (lt := ltSt) x g.n).map (fun i => (i.id, i))
  refine List.Perm.trans ?_ h1.symm
  rw [List.map_cons, hx]
  exact hp.cons _
theorem nodes_del (hs : RisesN g.n) {kv : List (St × Ino)} (hp : kv.Perm (nodesKV g.n)) : (delKV id kv).Perm (nodesKV (g.n.filter fun i => decide (i.id ≠ id))) := by
  have hn : ((nodesKV g.n).map (·.1)).Nodup := by rw [nodesKV_keys]; exact hs.nodup strictSt
  have hnk : (kv.map (·.1)).Nodup := (hp.map _).nodup_iff.2 hn
  rw [delKV_filter hnk]
  refine (hp.filter _).trans (List.Perm.of_eq ?_)
  unfold nodesKV
  rw [List.filter_map]
  rfl
theorem ents_new {kv : List (Pl × St)} (hp : kv.Perm (entsKV g.e)) {x : Ent} (hi : g.look x.pl = none) : (putKV x.pl x.ino kv).Perm (entsKV (putIn Ent.pl ltPl x g.e)) := by
  have hno := Gr.look_none hi
  have hk : x.pl ∉ kv.map (·.1) := by
    intro h
    have := (hp.map (·.1)).mem_iff.1 h
    rw [entsKV_keys] at this
    obtain ⟨j, hj, e⟩ := List.mem_map.1 this
    exact hno j hj e
  refine (putKV_perm_new hk).trans ?_
  have h1 := (putIn_perm (key := Ent.pl) (lt := ltPl) x g.e).map (fun x => (x.pl, x.ino))
  refine List.Perm.trans ?_ h1.symm
  rw [List.map_cons]
  exact hp.cons _
theorem ents_del (hs : RisesE g.e) {kv : List (Pl × St)} (hp : kv.Perm (entsKV g.e)) (p : Pl) : (delKV p kv).Perm (entsKV (g.e.filter fun x => decide (x.pl ≠ p))) := by
  have hn : ((entsKV g.e).map (·.1)).Nodup := by rw [entsKV_keys]; exact hs.nodup strictPl
  have hnk : (kv.map (·.1)).Nodup := (hp.map _).nodup_iff.2 hn
  rw [delKV_filter hnk]
  refine (hp.filter _).trans (List.Perm.of_eq ?_)
  unfold entsKV
  rw [List.filter_map]
  rfl

variable {w w' : World} {gb mI mE : Nat}
theorem GrAt.put_nodes (h : GrAt w gb mI mE g) (hp : MapPut w mI w') {kv : List (St × Ino)} (hm : MapAt w' mI St.v Ino.v kv) {n : List Ino} (hk : kv.Perm (nodesKV n)) : GrAt w' gb mI mE ⟨n, g.e⟩ := by
  refine ⟨(hp.other _ h.apart.1).trans h.box, ⟨kv, hm, hk⟩, ?_, h.ne⟩
  obtain ⟨kE, ⟨es, ck, h1, h2⟩, h3⟩ := h.ents
  exact ⟨kE, ⟨es, ck, (hp.other _ h.ne.symm).trans h1, h2⟩, h3⟩
theorem GrAt.put_ents (h : GrAt w gb mI mE g) (hp : MapPut w mE w') {kv : List (Pl × St)} (hm : MapAt w' mE Pl.v St.v kv) {e : List Ent} (hk : kv.Perm (entsKV e)) : GrAt w' gb mI mE ⟨g.n, e⟩ := by
  refine ⟨(hp.other _ h.apart.2).trans h.box, ?_, ⟨kv, hm, hk⟩, h.ne⟩
  obtain ⟨kI, ⟨es, ck, h1, h2⟩, h3⟩ := h.nodes
  exact ⟨kI, ⟨es, ck, (hp.other _ h.ne).trans h1, h2⟩, h3⟩

/-- the maps' deeds, as the walk meets them -/
theorem GrAt.run_put_node (h : GrAt w gb mI mE g) (hs : RisesN g.n) (f : Ino → Ino) (hf : ∀ i, (f i).id = i.id) (hi : (g.get id).isSome = true) : ∃ w', (Instr.mapUpdate 97 (.map (some mI)) (.agg #[.int .i64 id.t, .int .i64 id.r]) (f (g.got id)).v).run Tryz.prog w = .ok () w' ∧ GrAt w' gb mI mE ⟨g.upd id f, g.e⟩ ∧ Turn (· = mI) w w' := by
  obtain ⟨i, hi⟩ := Option.isSome_iff_exists.1 hi
  rw [Gr.got_of hi]
  obtain ⟨kv, hm, hp⟩ := h.nodes
  obtain ⟨w', hu, hp', hm'⟩ := run_update_kv keySt Tryz.underlying97 hm id (f i)
  exact ⟨w', hu, h.put_nodes hp' hm' (nodes_upd hs hp hi f hf), Turn.of_put hp'⟩
theorem GrAt.run_new_node (h : GrAt w gb mI mE g) (hi : g.get id = none) (x : Ino) (hx : x.id = id) : ∃ w', (Instr.mapUpdate 97 (.map (some mI)) (.agg #[.int .i64 id.t, .int .i64 id.r]) x.v).run Tryz.prog w = .ok () w' ∧ GrAt w' gb mI mE ⟨putIn Ino.id ltSt x g.n, g.e⟩ ∧ Turn (· = mI) w w' := by
  obtain ⟨kv, hm, hp⟩ := h.nodes
  obtain ⟨w', hu, hp', hm'⟩ := run_update_kv keySt Tryz.underlying97 hm id x
  exact ⟨w', hu, h.put_nodes hp' hm' (nodes_new hp hi x hx), Turn.of_put hp'⟩
theorem GrAt.run_del_node (h : GrAt w gb mI mE g) (hs : RisesN g.n) (id : St) (ty kT : TypeId) : ∃ w', (Builtin.delete_ #[97, kT] ty #[.map (some mI), .agg #[.int .i64 id.t, .int .i64 id.r]]).run Tryz.prog w = .ok (.tuple #[]) w' ∧ GrAt w' gb mI mE (g.dropped id) ∧ Turn (· = mI) w w' := by
  obtain ⟨kv, hm, hp⟩ := h.nodes
  obtain ⟨w', hu, hp', hm'⟩ := run_delete_kv keySt Tryz.underlying97 hm id ty kT
  exact ⟨w', hu, h.put_nodes hp' hm' (nodes_del hs hp), Turn.of_put hp'⟩
theorem GrAt.run_new_ent (h : GrAt w gb mI mE g) {x : Ent} (hi : g.look x.pl = none) : ∃ w', (Instr.mapUpdate 98 (.map (some mE)) (.agg #[.int .i64 x.at_.t, .int .i64 x.at_.r, .string x.name]) (.agg #[.int .i64 x.ino.t, .int .i64 x.ino.r])).run Tryz.prog w = .ok () w' ∧ GrAt w' gb mI mE ⟨g.n, putIn Ent.pl ltPl x g.e⟩ ∧ Turn (· = mE) w w' := by
  obtain ⟨kv, hm, hp⟩ := h.ents
  obtain ⟨w', hu, hp', hm'⟩ := run_update_kv keyPl Tryz.underlying98 hm x.pl x.ino
  exact ⟨w', hu, h.put_ents hp' hm' (ents_new hp hi), Turn.of_put hp'⟩
theorem GrAt.run_del_ent (h : GrAt w gb mI mE g) (hs : RisesE g.e) (p : Pl) (ty kT : TypeId) : ∃ w', (Builtin.delete_ #[98, kT] ty #[.map (some mE), .agg #[.int .i64 p.at_.t, .int .i64 p.at_.r, .string p.name]]).run Tryz.prog w = .ok (.tuple #[]) w' ∧ GrAt w' gb mI mE ⟨g.n, g.e.filter fun x => decide (x.pl ≠ p)⟩ ∧ Turn (· = mE) w w' := by
  obtain ⟨kv, hm, hp⟩ := h.ents
  obtain ⟨w', hu, hp', hm'⟩ := run_delete_kv keyPl Tryz.underlying98 hm p ty kT
  exact ⟨w', hu, h.put_ents hp' hm' (ents_del hs hp p), Turn.of_put hp'⟩
theorem GrAt.run_len (h : GrAt w gb mI mE g) (ty : TypeId) : (Builtin.len_ #[97] ty #[.map (some mI)]).run Tryz.prog w = .ok (.int .i64 g.n.length) w := by
  obtain ⟨kv, hm, hp⟩ := h.nodes
  have := run_len_kv (P := Tryz.prog) Tryz.underlying97 hm ty
  rw [hp.length_eq] at this
  simpa [nodesKV] using this
end

set_option maxRecDepth 100000 in
set_option maxHeartbeats 1000000 in
theorem count_g (gb mI mE : Nat) (g : Gr) (id : St) (k : Int) (w : World) (h : GrAt w gb mI mE g) (hs : RisesN g.n) (hi : (g.get id).isSome = true) (h1 : -100 ≤ (g.got id).links) (h2 : (g.got id).links ≤ 100) (hk1 : -1 ≤ k) (hk2 : k ≤ 1) :
    Calls Tryz.prog 154 #[.pointer (some ⟨gb, 0, none⟩), id.v, .int .i64 k] w fun x w' => x = .returned (.tuple #[]) ∧ GrAt w' gb mI mE ⟨g.upd id (moreLinks k), g.e⟩ ∧ Turn (· = mI) w w' := by
  obtain ⟨c0, c1⟩ := h.cells
  have hlt := h.lt.1
  have hl : ∀ W, New w W → (Instr.lookup 97 (.map (some mI)) (.agg #[.int .i64 id.t, .int .i64 id.r]) false).run Tryz.prog W = .ok (g.got id).v W := fun W hW => ((h.new hW).look_node hs id).2
  have HU : Hid (∀ W, New w W → ∃ w', (Instr.mapUpdate 97 (.map (some mI)) (.agg #[.int .i64 id.t, .int .i64 id.r]) (moreLinks k (g.got id)).v).run Tryz.prog W = .ok () w' ∧ GrAt w' gb mI mE ⟨g.upd id (moreLinks k), g.e⟩ ∧ Turn (· = mI) W w') := Lib.hid fun W hW => (h.new hW).run_put_node hs (moreLinks k) (fun _ => rfl) hi
  generalize g.got id = i at hl HU h1 h2
  unfold Ino.v moreLinks at HU
  unfold Ino.v at hl
  have hw : IntKind.i64.wrap (i.links + k) = i.links + k := wrapInt _ (by omega) (by omega)
  have n1 := (New.refl w).alloc (.cells #[.int .i64 id.t, .int .i64 id.r] 26)
  have hl2 := hl _ n1.drew
  have hl3 := hl _ (n1.alloc (.cells #[.int .i64 0, .int .i64 0, .int .i64 0, .int .i64 0, .int .i64 0, .string ⟨#[]⟩] 28)).drew
  have n2 := (n1.alloc (.cells #[.int .i64 i.id.t, .int .i64 i.id.r, .int .i64 i.kind, .int .i64 (i.links + k), .int .i64 i.mode, .string i.data] 28)).drew.drew
  have HU2 := HU.out _ n2
  obtain ⟨w3, hu, hG, hT⟩ := HU2
  have HG := Lib.hid hG
  have HT := Lib.hid ((n2.turn _).trans hT)
  clear n1 n2 hl h HU hG hT c1 hi h1 h2 hk1 hk2
  unfold St.v
  go_enter Tryz.func154, Tryz.ntmps154
  go_wp2
  go_region
  all_goals
    go_wp2
    go_region
    all_goals
      go_wp2
      go_end0
      exact ⟨rfl, HG.out, HT.out⟩

theorem size_setCell' (w : World) (a : Addr) (v : Value) : (w.setCell a v).heap.size = w.heap.size := by simp [World.setCell]
theorem bcell {W w1 : World} (hb : Below W.heap.size W w1) : (∀ b o, b < W.heap.size → w1.cell? ⟨b, o, none⟩ = W.cell? ⟨b, o, none⟩) ∧ (∀ b o, b < W.heap.size → w1.frozen? ⟨b, o, none⟩ = W.frozen? ⟨b, o, none⟩) :=
  ⟨fun b o h => hb.cell (p := ⟨b, o, none⟩) h, fun b o h => hb.frozen (p := ⟨b, o, none⟩) h⟩

set_option maxRecDepth 100000 in
set_option maxHeartbeats 400000 in
theorem links_g (i : Ino) (w : World) : Calls Tryz.prog 195 #[i.v] w fun x w' => x = .returned (.bool (roomB i)) ∧ Below w.heap.size w w' := by
  unfold roomB
  obtain ⟨d, k, l, m, s⟩ := i
  unfold Ino.v
  by_cases hk : k = 1
  · subst hk
    go_enter Tryz.func195, Tryz.ntmps195
    go_wp2
    go_ret
    exact ⟨rfl, (Below.refl _ _).alloc (Nat.le_refl _) _⟩
  · have hk' : (k == 1) = false := beq_eq_false_iff_ne.2 hk
    rw [if_neg hk]
    clear hk
    go_enter Tryz.func195, Tryz.ntmps195
    go_wp2
    go_ret
    exact ⟨rfl, (Below.refl _ _).alloc (Nat.le_refl _) _⟩

set_option maxRecDepth 100000 in
set_option maxHeartbeats 4000000 in
theorem tie_why (gb mI mE : Nat) (g : Gr) (x : Ent) (w : World) (h : GrAt w gb mI mE g) (hok : g.Ok) (hl : g.e.length ≤ 1000) (hx : x.name.size ≤ maxLen) :
    Calls Tryz.prog 153 #[.pointer (some ⟨gb, 0, none⟩), x.v] w fun e w' => e = .returned (.int .i64 (g.tieWhy x)) ∧ Below w.heap.size w w' := by
  have HG : Hid (∀ (id : St) W, Below w.heap.size w W → Calls Tryz.prog 33 #[.pointer (some ⟨gb, 0, none⟩), (.agg #[.int .i64 id.t, .int .i64 id.r])] W fun e w' => e = .returned (.tuple #[(g.got id).v, .bool (g.get id).isSome]) ∧ Below W.heap.size W w') := Lib.hid fun id W hW => (get_any gb mI mE g id W (h.below hW) hok.sn).mono fun e w' ⟨a, b⟩ => ⟨a, b.below⟩
  have HLk : Hid (∀ W, Below w.heap.size w W → Calls Tryz.prog 32 #[.pointer (some ⟨gb, 0, none⟩), (.agg #[.int .i64 x.at_.t, .int .i64 x.at_.r]), .string x.name] W fun e w' => e = .returned (.tuple #[((g.look x.pl).getD ⟨0, 0⟩).v, .bool (g.look x.pl).isSome]) ∧ Below W.heap.size W w') := Lib.hid fun W hW => (look_any gb mI mE g x.pl W (h.below hW) hok.se).mono fun e w' ⟨a, b⟩ => ⟨a, b.below⟩
  have HU : Hid (∀ W, Below w.heap.size w W → Calls Tryz.prog 71 #[.pointer (some ⟨gb, 0, none⟩), (.agg #[.int .i64 x.at_.t, .int .i64 x.at_.r]), (.agg #[.int .i64 x.ino.t, .int .i64 x.ino.r])] W fun e w' => e = .returned (.bool (g.under x.at_ x.ino)) ∧ Below W.heap.size W w') := Lib.hid fun W hW => under_any gb mI mE g x.at_ x.ino W (h.below hW) hok hl
  have HN := Lib.hid (name_any x.name)
  have HXS := Lib.hid hx
  have HB0 : Hid (Below w.heap.size w (w.alloc (.cells #[.int .i64 x.at_.t, .int .i64 x.at_.r, .string x.name, .int .i64 x.ino.t, .int .i64 x.ino.r] 125))) := Lib.hid ((Below.refl _ w).alloc (Nat.le_refl _) _)
  have HG1 := Lib.hid (HG.out x.at_)
  have HG2 := Lib.hid (HG.out x.ino)
  clear h hok hl HG hx
  have hcase := St.three x.ino ⟨0, 0⟩
  unfold Gr.tieWhy
  generalize g.got x.at_ = i1 at HG1 ⊢
  generalize g.got x.ino = i2 at HG2 ⊢
  generalize (g.get x.at_).isSome = b1 at HG1 ⊢
  generalize (g.get x.ino).isSome = b2 at HG2 ⊢
  generalize (g.look x.pl).getD ⟨0, 0⟩ = id3 at HLk
  generalize (g.look x.pl).isSome = b3 at HLk ⊢
  generalize g.under x.at_ x.ino = bu at HU ⊢
  generalize hno : nameOk x.name = bn at *
  obtain ⟨at_, name, ino⟩ := x
  obtain ⟨d2, k2, l2, m2, s2⟩ := i2
  have HLI := Lib.hid (links_g ⟨d2, k2, l2, m2, s2⟩)
  generalize hro : roomB ⟨d2, k2, l2, m2, s2⟩ = br at *
  simp only at *
  unfold Ent.v
  unfold Ino.v at HG1 HG2 HLI
  unfold St.v at HLk
  have hk2 : k2 = 1 ∨ (k2 ≠ 1 ∧ (k2 == 1) = false) := by
    by_cases h : k2 = 1
    · exact .inl h
    · exact .inr ⟨h, beq_eq_false_iff_ne.2 h⟩
  have hk1 : i1.kind = 1 ∨ (i1.kind ≠ 1 ∧ (i1.kind != 1) = true) := by
    by_cases h : i1.kind = 1
    · exact .inl h
    · exact .inr ⟨h, by simpa using h⟩
  obtain ⟨d1, k1, l1, m1, s1⟩ := i1
  simp only at *
  have hend : ∀ (W W' : World), Below w.heap.size w W → W = W' → Below w.heap.size w W' := fun _ _ a b => b ▸ a
  have HEND := Lib.hid hend
  clear hend
  rcases hcase with rfl | ⟨hne, ht⟩ | ⟨r, rfl, hne, hr⟩ <;> rcases hk2 with rfl | ⟨hk2, hk2'⟩ <;> rcases hk1 with rfl | ⟨hk1, hk1'⟩
  all_goals
    try (have HNE := Lib.hid hne; clear hne)
    try (have HK2 := Lib.hid hk2; clear hk2)
    try (have HK1 := Lib.hid hk1; clear hk1)
    go_enter Tryz.func153, Tryz.ntmps153
    go_wp2_with fail
    refine (HG1.out _ (by first | exact HB0.out | exact HB0.out.alloc HB0.out.size _ | exact (HB0.out.alloc HB0.out.size _).alloc (le_al HB0.out.size) _ | exact ((HB0.out.alloc HB0.out.size _).alloc (le_al HB0.out.size) _).alloc (le_al (le_al HB0.out.size)) _)).mono ?_
    rintro e w1 ⟨rfl, hb1⟩
    obtain ⟨hc1, hf1⟩ := bcell hb1
    have hs1 := hb1.size
    try simp only [World.size_alloc] at hs1
    try simp only [size_setCell'] at hs1
    try have le1_0 : w.heap.size ≤ w1.heap.size := (by omega)
    try have lt1_0 : w.heap.size < w1.heap.size := (by omega)
    have HB1 : Hid (Below w.heap.size w w1) := Lib.hid (Below.trans (by first | exact HB0.out | exact HB0.out.alloc HB0.out.size _ | exact (HB0.out.alloc HB0.out.size _).alloc (le_al HB0.out.size) _ | exact ((HB0.out.alloc HB0.out.size _).alloc (le_al HB0.out.size) _).alloc (le_al (le_al HB0.out.size)) _) (hb1.mono (by (try simp only [World.size_alloc]); (try simp only [size_setCell']); omega)))
    have HN1 := Lib.hid hb1
    clear hb1 hs1
    go_wp2_with fail
    refine (HG2.out _ (by first | exact HB1.out | exact HB1.out.alloc HB1.out.size _ | exact (HB1.out.alloc HB1.out.size _).alloc (le_al HB1.out.size) _ | exact ((HB1.out.alloc HB1.out.size _).alloc (le_al HB1.out.size) _).alloc (le_al (le_al HB1.out.size)) _ | exact HB0.out | exact HB0.out.alloc HB0.out.size _ | exact (HB0.out.alloc HB0.out.size _).alloc (le_al HB0.out.size) _ | exact ((HB0.out.alloc HB0.out.size _).alloc (le_al HB0.out.size) _).alloc (le_al (le_al HB0.out.size)) _)).mono ?_
    rintro e w2 ⟨rfl, hb2⟩
    obtain ⟨hc2, hf2⟩ := bcell hb2
    have hs2 := hb2.size
    try simp only [World.size_alloc] at hs2
    try simp only [size_setCell'] at hs2
    try have le2_0 : w.heap.size ≤ w2.heap.size := (by omega)
    try have lt2_0 : w.heap.size < w2.heap.size := (by omega)
    try have le2_1 : w1.heap.size ≤ w2.heap.size := (by omega)
    try have lt2_1 : w1.heap.size < w2.heap.size := (by omega)
    have HB2 : Hid (Below w.heap.size w w2) := Lib.hid (Below.trans (by first | exact HB1.out | exact HB1.out.alloc HB1.out.size _ | exact (HB1.out.alloc HB1.out.size _).alloc (le_al HB1.out.size) _ | exact ((HB1.out.alloc HB1.out.size _).alloc (le_al HB1.out.size) _).alloc (le_al (le_al HB1.out.size)) _ | exact HB0.out | exact HB0.out.alloc HB0.out.size _ | exact (HB0.out.alloc HB0.out.size _).alloc (le_al HB0.out.size) _ | exact ((HB0.out.alloc HB0.out.size _).alloc (le_al HB0.out.size) _).alloc (le_al (le_al HB0.out.size)) _) (hb2.mono (by (try simp only [World.size_alloc]); (try simp only [size_setCell']); omega)))
    have HN2 := Lib.hid hb2
    clear hb2 hs2
    go_wp2_with fail
    refine (HLk.out _ (by first | exact HB2.out | exact HB2.out.alloc HB2.out.size _ | exact (HB2.out.alloc HB2.out.size _).alloc (le_al HB2.out.size) _ | exact ((HB2.out.alloc HB2.out.size _).alloc (le_al HB2.out.size) _).alloc (le_al (le_al HB2.out.size)) _ | exact HB1.out | exact HB1.out.alloc HB1.out.size _ | exact (HB1.out.alloc HB1.out.size _).alloc (le_al HB1.out.size) _ | exact ((HB1.out.alloc HB1.out.size _).alloc (le_al HB1.out.size) _).alloc (le_al (le_al HB1.out.size)) _ | exact HB0.out | exact HB0.out.alloc HB0.out.size _ | exact (HB0.out.alloc HB0.out.size _).alloc (le_al HB0.out.size) _ | exact ((HB0.out.alloc HB0.out.size _).alloc (le_al HB0.out.size) _).alloc (le_al (le_al HB0.out.size)) _)).mono ?_
    rintro e w3 ⟨rfl, hb3⟩
    obtain ⟨hc3, hf3⟩ := bcell hb3
    have hs3 := hb3.size
    try simp only [World.size_alloc] at hs3
    try simp only [size_setCell'] at hs3
    try have le3_0 : w.heap.size ≤ w3.heap.size := (by omega)
    try have lt3_0 : w.heap.size < w3.heap.size := (by omega)
    try have le3_1 : w1.heap.size ≤ w3.heap.size := (by omega)
    try have lt3_1 : w1.heap.size < w3.heap.size := (by omega)
    try have le3_2 : w2.heap.size ≤ w3.heap.size := (by omega)
    try have lt3_2 : w2.heap.size < w3.heap.size := (by omega)
    have HB3 : Hid (Below w.heap.size w w3) := Lib.hid (Below.trans (by first | exact HB2.out | exact HB2.out.alloc HB2.out.size _ | exact (HB2.out.alloc HB2.out.size _).alloc (le_al HB2.out.size) _ | exact ((HB2.out.alloc HB2.out.size _).alloc (le_al HB2.out.size) _).alloc (le_al (le_al HB2.out.size)) _ | exact HB1.out | exact HB1.out.alloc HB1.out.size _ | exact (HB1.out.alloc HB1.out.size _).alloc (le_al HB1.out.size) _ | exact ((HB1.out.alloc HB1.out.size _).alloc (le_al HB1.out.size) _).alloc (le_al (le_al HB1.out.size)) _ | exact HB0.out | exact HB0.out.alloc HB0.out.size _ | exact (HB0.out.alloc HB0.out.size _).alloc (le_al HB0.out.size) _ | exact ((HB0.out.alloc HB0.out.size _).alloc (le_al HB0.out.size) _).alloc (le_al (le_al HB0.out.size)) _) (hb3.mono (by (try simp only [World.size_alloc]); (try simp only [size_setCell']); omega)))
    have HN3 := Lib.hid hb3
    clear hb3 hs3
    go_wp2_with fail
    refine (HN.out _ HXS.out).mono ?_
    rintro e w4 ⟨rfl, hb4⟩
    obtain ⟨hc4, hf4⟩ := bcell hb4
    have hs4 := hb4.size
    try simp only [World.size_alloc] at hs4
    try simp only [size_setCell'] at hs4
    try have le4_0 : w.heap.size ≤ w4.heap.size := (by omega)
    try have lt4_0 : w.heap.size < w4.heap.size := (by omega)
    try have le4_1 : w1.heap.size ≤ w4.heap.size := (by omega)
    try have lt4_1 : w1.heap.size < w4.heap.size := (by omega)
    try have le4_2 : w2.heap.size ≤ w4.heap.size := (by omega)
    try have lt4_2 : w2.heap.size < w4.heap.size := (by omega)
    try have le4_3 : w3.heap.size ≤ w4.heap.size := (by omega)
    try have lt4_3 : w3.heap.size < w4.heap.size := (by omega)
    have HB4 : Hid (Below w.heap.size w w4) := Lib.hid (Below.trans (by first | exact HB3.out | exact HB3.out.alloc HB3.out.size _ | exact (HB3.out.alloc HB3.out.size _).alloc (le_al HB3.out.size) _ | exact ((HB3.out.alloc HB3.out.size _).alloc (le_al HB3.out.size) _).alloc (le_al (le_al HB3.out.size)) _ | exact HB2.out | exact HB2.out.alloc HB2.out.size _ | exact (HB2.out.alloc HB2.out.size _).alloc (le_al HB2.out.size) _ | exact ((HB2.out.alloc HB2.out.size _).alloc (le_al HB2.out.size) _).alloc (le_al (le_al HB2.out.size)) _ | exact HB1.out | exact HB1.out.alloc HB1.out.size _ | exact (HB1.out.alloc HB1.out.size _).alloc (le_al HB1.out.size) _ | exact ((HB1.out.alloc HB1.out.size _).alloc (le_al HB1.out.size) _).alloc (le_al (le_al HB1.out.size)) _ | exact HB0.out | exact HB0.out.alloc HB0.out.size _ | exact (HB0.out.alloc HB0.out.size _).alloc (le_al HB0.out.size) _ | exact ((HB0.out.alloc HB0.out.size _).alloc (le_al HB0.out.size) _).alloc (le_al (le_al HB0.out.size)) _) (hb4.mono (by (try simp only [World.size_alloc]); (try simp only [size_setCell']); omega)))
    have HN4 := Lib.hid hb4
    clear hb4 hs4
    go_wp2_with (first
      | (go_at_call 71; (with_reducible refine (HU.out _ (by first | exact HB4.out | exact HB4.out.alloc HB4.out.size _ | exact (HB4.out.alloc HB4.out.size _).alloc (le_al HB4.out.size) _ | exact ((HB4.out.alloc HB4.out.size _).alloc (le_al HB4.out.size) _).alloc (le_al (le_al HB4.out.size)) _ | exact HB3.out | exact HB3.out.alloc HB3.out.size _ | exact (HB3.out.alloc HB3.out.size _).alloc (le_al HB3.out.size) _ | exact ((HB3.out.alloc HB3.out.size _).alloc (le_al HB3.out.size) _).alloc (le_al (le_al HB3.out.size)) _ | exact HB2.out | exact HB2.out.alloc HB2.out.size _ | exact (HB2.out.alloc HB2.out.size _).alloc (le_al HB2.out.size) _ | exact ((HB2.out.alloc HB2.out.size _).alloc (le_al HB2.out.size) _).alloc (le_al (le_al HB2.out.size)) _ | exact HB1.out | exact HB1.out.alloc HB1.out.size _ | exact (HB1.out.alloc HB1.out.size _).alloc (le_al HB1.out.size) _ | exact ((HB1.out.alloc HB1.out.size _).alloc (le_al HB1.out.size) _).alloc (le_al (le_al HB1.out.size)) _ | exact HB0.out | exact HB0.out.alloc HB0.out.size _ | exact (HB0.out.alloc HB0.out.size _).alloc (le_al HB0.out.size) _ | exact ((HB0.out.alloc HB0.out.size _).alloc (le_al HB0.out.size) _).alloc (le_al (le_al HB0.out.size)) _)).mono ?_); rintro e w5 ⟨rfl, hb5⟩; obtain ⟨hc5, hf5⟩ := bcell hb5; have hs5 := hb5.size; (try simp only [World.size_alloc] at hs5); (try simp only [size_setCell'] at hs5); (try have le5_0 : w.heap.size ≤ w5.heap.size := (by omega)); (try have lt5_0 : w.heap.size < w5.heap.size := (by omega)); (try have le5_1 : w1.heap.size ≤ w5.heap.size := (by omega)); (try have lt5_1 : w1.heap.size < w5.heap.size := (by omega)); (try have le5_2 : w2.heap.size ≤ w5.heap.size := (by omega)); (try have lt5_2 : w2.heap.size < w5.heap.size := (by omega)); (try have le5_3 : w3.heap.size ≤ w5.heap.size := (by omega)); (try have lt5_3 : w3.heap.size < w5.heap.size := (by omega)); (try have le5_4 : w4.heap.size ≤ w5.heap.size := (by omega)); (try have lt5_4 : w4.heap.size < w5.heap.size := (by omega)); have HB5 : Hid (Below w.heap.size w w5) := Lib.hid (Below.trans (by first | exact HB4.out | exact HB4.out.alloc HB4.out.size _ | exact (HB4.out.alloc HB4.out.size _).alloc (le_al HB4.out.size) _ | exact ((HB4.out.alloc HB4.out.size _).alloc (le_al HB4.out.size) _).alloc (le_al (le_al HB4.out.size)) _ | exact HB3.out | exact HB3.out.alloc HB3.out.size _ | exact (HB3.out.alloc HB3.out.size _).alloc (le_al HB3.out.size) _ | exact ((HB3.out.alloc HB3.out.size _).alloc (le_al HB3.out.size) _).alloc (le_al (le_al HB3.out.size)) _ | exact HB2.out | exact HB2.out.alloc HB2.out.size _ | exact (HB2.out.alloc HB2.out.size _).alloc (le_al HB2.out.size) _ | exact ((HB2.out.alloc HB2.out.size _).alloc (le_al HB2.out.size) _).alloc (le_al (le_al HB2.out.size)) _ | exact HB1.out | exact HB1.out.alloc HB1.out.size _ | exact (HB1.out.alloc HB1.out.size _).alloc (le_al HB1.out.size) _ | exact ((HB1.out.alloc HB1.out.size _).alloc (le_al HB1.out.size) _).alloc (le_al (le_al HB1.out.size)) _ | exact HB0.out | exact HB0.out.alloc HB0.out.size _ | exact (HB0.out.alloc HB0.out.size _).alloc (le_al HB0.out.size) _ | exact ((HB0.out.alloc HB0.out.size _).alloc (le_al HB0.out.size) _).alloc (le_al (le_al HB0.out.size)) _) (hb5.mono (by (try simp only [World.size_alloc]); (try simp only [size_setCell']); omega))); have HN5 := Lib.hid hb5; clear hb5 hs5)
      | (go_at_call 195; (with_reducible refine (HLI.out _).mono ?_); rintro e w6 ⟨rfl, hb6⟩; obtain ⟨hc6, hf6⟩ := bcell hb6; have hs6 := hb6.size; (try simp only [World.size_alloc] at hs6); (try simp only [size_setCell'] at hs6); (try have le6_0 : w.heap.size ≤ w6.heap.size := (by omega)); (try have lt6_0 : w.heap.size < w6.heap.size := (by omega)); (try have le6_1 : w1.heap.size ≤ w6.heap.size := (by omega)); (try have lt6_1 : w1.heap.size < w6.heap.size := (by omega)); (try have le6_2 : w2.heap.size ≤ w6.heap.size := (by omega)); (try have lt6_2 : w2.heap.size < w6.heap.size := (by omega)); (try have le6_3 : w3.heap.size ≤ w6.heap.size := (by omega)); (try have lt6_3 : w3.heap.size < w6.heap.size := (by omega)); (try have le6_4 : w4.heap.size ≤ w6.heap.size := (by omega)); (try have lt6_4 : w4.heap.size < w6.heap.size := (by omega)); (try have le6_5 : w5.heap.size ≤ w6.heap.size := (by omega)); (try have lt6_5 : w5.heap.size < w6.heap.size := (by omega)); have HB6 : Hid (Below w.heap.size w w6) := Lib.hid (Below.trans (by first | exact HB5.out | exact HB5.out.alloc HB5.out.size _ | exact (HB5.out.alloc HB5.out.size _).alloc (le_al HB5.out.size) _ | exact ((HB5.out.alloc HB5.out.size _).alloc (le_al HB5.out.size) _).alloc (le_al (le_al HB5.out.size)) _ | exact HB4.out | exact HB4.out.alloc HB4.out.size _ | exact (HB4.out.alloc HB4.out.size _).alloc (le_al HB4.out.size) _ | exact ((HB4.out.alloc HB4.out.size _).alloc (le_al HB4.out.size) _).alloc (le_al (le_al HB4.out.size)) _ | exact HB3.out | exact HB3.out.alloc HB3.out.size _ | exact (HB3.out.alloc HB3.out.size _).alloc (le_al HB3.out.size) _ | exact ((HB3.out.alloc HB3.out.size _).alloc (le_al HB3.out.size) _).alloc (le_al (le_al HB3.out.size)) _ | exact HB2.out | exact HB2.out.alloc HB2.out.size _ | exact (HB2.out.alloc HB2.out.size _).alloc (le_al HB2.out.size) _ | exact ((HB2.out.alloc HB2.out.size _).alloc (le_al HB2.out.size) _).alloc (le_al (le_al HB2.out.size)) _ | exact HB1.out | exact HB1.out.alloc HB1.out.size _ | exact (HB1.out.alloc HB1.out.size _).alloc (le_al HB1.out.size) _ | exact ((HB1.out.alloc HB1.out.size _).alloc (le_al HB1.out.size) _).alloc (le_al (le_al HB1.out.size)) _ | exact HB0.out | exact HB0.out.alloc HB0.out.size _ | exact (HB0.out.alloc HB0.out.size _).alloc (le_al HB0.out.size) _ | exact ((HB0.out.alloc HB0.out.size _).alloc (le_al HB0.out.size) _).alloc (le_al (le_al HB0.out.size)) _) (hb6.mono (by (try simp only [World.size_alloc]); (try simp only [size_setCell']); omega))); have HN6 := Lib.hid hb6; clear hb6 hs6))
  all_goals
    go_ret
    refine ⟨?_, ?_⟩
    · first
        | rfl
        | (simp [*]; done)
        | (have h1 := HNE.out
           simp at h1
           simp [*]
           done)
        | (have h1 := HNE.out
           simp at h1
           exact absurd (by assumption) h1)
    · first | exact HB6.out | exact HB5.out | exact HB4.out
end Go.Proofs.YtfbjiaedfmdcfaaGreatDoor
