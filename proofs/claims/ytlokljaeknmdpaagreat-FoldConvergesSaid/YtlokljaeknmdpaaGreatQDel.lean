/-
  slices.DeleteFunc at entries that lie in a row of the call's own; condition: at most 1000 of them.
-/
import Derived.Test.YtlokljaeknmdpaaGreatQEntries
import Derived.Laws.CopyRow
import Derived.Laws.CopyOwn
namespace Go.Proofs.YtlokljaeknmdpaaGreat
open Go.RowKit Go.Shelf Go.Proofs

def set5 (cur : Array Value) (a : Nat) (v0 v1 v2 v3 v4 : Value) : Array Value := ((((cur.setIfInBounds a v0).setIfInBounds (a + 1) v1).setIfInBounds (a + 2) v2).setIfInBounds (a + 3) v3).setIfInBounds (a + 4) v4
theorem set5_size (cur : Array Value) (a : Nat) (v0 v1 v2 v3 v4 : Value) : (set5 cur a v0 v1 v2 v3 v4).size = cur.size := by simp [set5]
theorem set5_get (cur : Array Value) (a : Nat) (v0 v1 v2 v3 v4 : Value) (h : a + 5 ≤ cur.size) (q : Nat) : (set5 cur a v0 v1 v2 v3 v4)[q]? = if q = a then some v0 else if q = a + 1 then some v1 else if q = a + 2 then some v2 else if q = a + 3 then some v3 else if q = a + 4 then some v4 else cur[q]? := by
  unfold set5
  simp only [Array.getElem?_setIfInBounds, Array.size_setIfInBounds]
  by_cases h0 : q = a
  · subst h0; simp; omega
  by_cases h1 : q = a + 1
  · subst h1; simp; omega
  by_cases h2 : q = a + 2
  · subst h2; simp; omega
  by_cases h3 : q = a + 3
  · subst h3; simp; omega
  by_cases h4 : q = a + 4
  · subst h4; simp; omega
  simp [h0, h1, h2, h3, h4, Ne.symm h0, Ne.symm h1, Ne.symm h2, Ne.symm h3, Ne.symm h4]

/-- what lies in the row while it is thinned: k are kept of the first j -/
structure DelAt (W : World) (B g cap : Nat) (zs : List Ent) (keep : Ent → Bool) (k j : Nat) (W' : World) : Prop where
  row : ∃ cur, W'.heap[g]? = some (.cells cur 34 (0, 0)) ∧ cur.size = cap * 5 ∧ (∀ q, q < k * 5 → cur[q]? = (((zs.take j).filter keep).flatMap Ent.cells)[q]?) ∧ (∀ q, j * 5 ≤ q → q < zs.length * 5 → cur[q]? = (zs.flatMap Ent.cells)[q]?)
  below : Below B W W'
  many : k = ((zs.take j).filter keep).length
  lt : k < j
  le : j ≤ zs.length

theorem ent_at (zs : List Ent) (j : Nat) (hj : j < zs.length) (i : Nat) (hi : i < 5) : (zs.flatMap Ent.cells)[j * 5 + i]? = (Ent.cells zs[j]!)[i]? := flatMap_at Ent.cells 5 (fun _ => rfl) zs j i hj hi

theorem DelAt.skip {W : World} {B g cap : Nat} {zs : List Ent} {keep : Ent → Bool} {k j : Nat} {W1 W2 : World} (h : DelAt W B g cap zs keep k j W1) (hj : j < zs.length) (hk : keep zs[j]! = false) (hb : Below W1.heap.size W1 W2) (hB : B ≤ W1.heap.size) : DelAt W B g cap zs keep k (j + 1) W2 := by
  obtain ⟨cur, h1, h2, h3, h4⟩ := h.row
  have e : (zs.take (j + 1)).filter keep = (zs.take j).filter keep := by
    rw [List.take_succ_eq_append_getElem hj, List.filter_append]
    rw [getElem!_pos zs j hj] at hk
    simp [hk]
  exact ⟨⟨cur, (hb.block _ (Array.getElem?_eq_some_iff.1 h1).1).trans h1, h2, by rw [e]; exact h3, fun q hq => h4 q (by omega)⟩, h.below.trans (hb.mono hB), by rw [e]; exact h.many, by have := h.lt; omega, hj⟩

theorem set5_heap {W : World} {g a : Nat} {cur : Array Value} {t : TypeId} (h : W.heap[g]? = some (.cells cur t (0, 0))) (v0 v1 v2 v3 v4 : Value) :
    (((((W.setCell ⟨g, a, none⟩ v0).setCell ⟨g, a + 1, none⟩ v1).setCell ⟨g, a + 2, none⟩ v2).setCell ⟨g, a + 3, none⟩ v3).setCell ⟨g, a + 4, none⟩ v4).heap[g]? = some (.cells (set5 cur a v0 v1 v2 v3 v4) t (0, 0)) :=
  heap_setCell_at (heap_setCell_at (heap_setCell_at (heap_setCell_at (heap_setCell_at h _ _) _ _) _ _) _ _) _ _
theorem set5_below {W W' : World} {B g a : Nat} (h : Below B W W') (hg : B ≤ g) (v0 v1 v2 v3 v4 : Value) :
    Below B W (((((W'.setCell ⟨g, a, none⟩ v0).setCell ⟨g, a + 1, none⟩ v1).setCell ⟨g, a + 2, none⟩ v2).setCell ⟨g, a + 3, none⟩ v3).setCell ⟨g, a + 4, none⟩ v4) :=
  ((((h.setCell hg _).setCell hg _).setCell hg _).setCell hg _).setCell hg _

theorem DelAt.take {W : World} {B g cap : Nat} {zs : List Ent} {keep : Ent → Bool} {k j : Nat} {W1 W2 : World} (h : DelAt W B g cap zs keep k j W1) (hj : j < zs.length) (hk : keep zs[j]! = true) (hb : Below W1.heap.size W1 W2) (hB : B ≤ W1.heap.size) (hg : B ≤ g) (hc : zs.length ≤ cap) (x : Ent) (hx : zs[j]! = x) :
    DelAt W B g cap zs keep (k + 1) (j + 1) (((((W2.setCell ⟨g, k * 5, none⟩ (.int .i64 x.at_.t)).setCell ⟨g, k * 5 + 1, none⟩ (.int .i64 x.at_.r)).setCell ⟨g, k * 5 + 2, none⟩ (.string x.name)).setCell ⟨g, k * 5 + 3, none⟩ (.int .i64 x.ino.t)).setCell ⟨g, k * 5 + 4, none⟩ (.int .i64 x.ino.r)) := by
  obtain ⟨cur, h1, h2, h3, h4⟩ := h.row
  have hlt := h.lt
  have hcap : zs.length * 5 ≤ cap * 5 := Nat.mul_le_mul_right 5 hc
  have hkc : k * 5 + 5 ≤ cur.size := by omega
  have e : (zs.take (j + 1)).filter keep = (zs.take j).filter keep ++ [x] := by
    rw [List.take_succ_eq_append_getElem hj, List.filter_append]
    rw [getElem!_pos zs j hj] at hk hx
    rw [hx] at hk ⊢
    simp [hk]
  have hfl : (((zs.take j).filter keep).flatMap Ent.cells).length = k * 5 := by rw [flatMap_len Ent.cells 5 (fun _ => rfl), ← h.many]
  refine ⟨⟨_, set5_heap ((hb.block _ (Array.getElem?_eq_some_iff.1 h1).1).trans h1) _ _ _ _ _, by rw [set5_size]; exact h2, ?_, ?_⟩, set5_below (h.below.trans (hb.mono hB)) hg _ _ _ _ _, by rw [e, List.length_append, ← h.many]; rfl, by omega, hj⟩
  · intro q hq
    rw [set5_get _ _ _ _ _ _ _ hkc, e, List.flatMap_append]
    by_cases hq5 : q < k * 5
    · rw [List.getElem?_append_left (by rw [hfl]; exact hq5), if_neg (by omega), if_neg (by omega), if_neg (by omega), if_neg (by omega), if_neg (by omega)]
      exact h3 q hq5
    · rw [List.getElem?_append_right (by rw [hfl]; omega), hfl]
      rcases (by omega : q = k * 5 ∨ q = k * 5 + 1 ∨ q = k * 5 + 2 ∨ q = k * 5 + 3 ∨ q = k * 5 + 4) with rfl | rfl | rfl | rfl | rfl
      · rw [if_pos rfl, Nat.sub_self]; rfl
      · rw [if_neg (by omega), if_pos rfl, Nat.add_sub_cancel_left]; rfl
      · rw [if_neg (by omega), if_neg (by omega), if_pos rfl, Nat.add_sub_cancel_left]; rfl
      · rw [if_neg (by omega), if_neg (by omega), if_neg (by omega), if_pos rfl, Nat.add_sub_cancel_left]; rfl
      · rw [if_neg (by omega), if_neg (by omega), if_neg (by omega), if_neg (by omega), if_pos rfl, Nat.add_sub_cancel_left]; rfl
  · intro q hq1 hq2
    rw [set5_get _ _ _ _ _ _ _ hkc, if_neg (by omega), if_neg (by omega), if_neg (by omega), if_neg (by omega), if_neg (by omega)]
    exact h4 q (by omega) hq2

/-- the rest of the row is cleared -/
theorem DelAt.clear {W : World} {B g cap : Nat} {zs : List Ent} {keep : Ent → Bool} {k : Nat} {W1 : World} (h : DelAt W B g cap zs keep k zs.length W1) (hg : B ≤ g) (hc : zs.length ≤ cap) (hm : cap ≤ maxLen) (ty : TypeId) (m : Nat) (hmk : m = zs.length - k) (c : Nat) :
    ∃ W2, (Builtin.clear_ #[24] ty #[.slice (some ⟨g, k * 5, none⟩) m c]).run Tryz.prog W1 = .ok (.tuple #[]) W2 ∧ Below B W W2 ∧ W2.ownsRow B 34 5 (.slice (some ⟨g, 0, none⟩) k cap) k ((zs.filter keep).flatMap Ent.cells) := by
  obtain ⟨cur, h1, h2, h3, _⟩ := h.row
  have hlt := h.lt
  have hcap : zs.length * 5 ≤ cap * 5 := Nat.mul_le_mul_right 5 hc
  subst hmk
  have hst := run_storeCells_at Tryz.prog g (k * 5) 34 (Builtin.zeroCells (Value.cells (.agg #[.int .i64 0, .int .i64 0, .string ⟨#[]⟩, .int .i64 0, .int .i64 0])) (zs.length - k)).toList 0 cur W1 h1 (by simp [Builtin.zeroCells, Value.cells]; omega) (by
    intro v hv
    simp only [Builtin.zeroCells, Array.toList_map, Array.toList_range, List.mem_map, List.mem_range] at hv
    obtain ⟨i, _, rfl⟩ := hv
    have h5 : i % (Value.cells (.agg #[.int .i64 0, .int .i64 0, .string ⟨#[]⟩, .int .i64 0, .int .i64 0])).size < 5 := Nat.mod_lt _ (by decide)
    generalize i % (Value.cells (.agg #[.int .i64 0, .int .i64 0, .string ⟨#[]⟩, .int .i64 0, .int .i64 0])).size = r at h5
    match r, h5 with
    | 0, _ => rfl
    | 1, _ => rfl
    | 2, _ => rfl
    | 3, _ => rfl
    | 4, _ => rfl)
  generalize hV : (Builtin.zeroCells (Value.cells (.agg #[.int .i64 0, .int .i64 0, .string ⟨#[]⟩, .int .i64 0, .int .i64 0])) (zs.length - k)).toList = vs at hst
  have hvl : vs.length = (zs.length - k) * 5 := by rw [← hV]; simp [Builtin.zeroCells, Value.cells]
  refine ⟨W1.setRow g (cur.toList.take (k * 5 + 0) ++ vs ++ cur.toList.drop (k * 5 + 0 + vs.length)).toArray, ?_, ?_, ?_⟩
  rotate_left 2
  · have hmany := h.many
    rw [List.take_length] at hmany h3
    refine ⟨by rw [flatMap_len Ent.cells 5 (fun _ => rfl), ← hmany], .inr ⟨g, cap, _, rfl, hg, setRow_heap W1 g cur _ _ _ h1, by omega, hm, ?_, ?_⟩⟩
    · simp [hvl]; omega
    · apply List.ext_getElem?
      intro q
      rw [List.getElem?_take]
      by_cases hq : q < k * 5
      · rw [if_pos hq, ← h3 q hq]
        simp only [Nat.add_zero]
        rw [List.append_assoc, List.getElem?_append_left (by simp; omega), List.getElem?_take, if_pos hq]
        simp
      · rw [if_neg hq, List.getElem?_eq_none]
        rw [flatMap_len Ent.cells 5 (fun _ => rfl), ← hmany]; omega
  · have hz := Tryz.zeroValue34
    have hne : zs.length - k ≠ 0 := by omega
    obtain ⟨d, hd⟩ : ∃ d, zs.length - k = d + 1 := ⟨zs.length - k - 1, by omega⟩
    rw [hd] at hV ⊢
    simp [Builtin.clear_, run_underlying Tryz.underlying24, hz, Result.andThen, hV, hst]
  · exact below_setRow h.below hg _

theorem first_hit {α : Type} [Inhabited α] (p : α → Bool) (zs : List α) : (∀ j, j < zs.length → p zs[j]! = false) ∨ ∃ k, k < zs.length ∧ p zs[k]! = true ∧ ∀ j, j < k → p zs[j]! = false := by
  have key : ∀ n : Nat, (∀ j, j < n → p zs[j]! = false) ∨ ∃ k, k < n ∧ p zs[k]! = true ∧ ∀ j, j < k → p zs[j]! = false := by
    intro n
    induction n with
    | zero => exact .inl fun j hj => absurd hj (Nat.not_lt_zero _)
    | succ n ih =>
      rcases ih with ih | ⟨k, hk, h⟩
      · cases hp : p zs[n]! with
        | true => exact .inr ⟨n, Nat.lt_succ_self _, hp, ih⟩
        | false =>
          left
          intro j hj
          rcases Nat.lt_succ_iff_lt_or_eq.1 hj with h | h
          · exact ih j h
          · rw [h]; exact hp
      · exact .inr ⟨k, by omega, h⟩
  exact key _
theorem filter_all_at {α : Type} [Inhabited α] {p : α → Bool} {zs : List α} (n : Nat) (hn : n ≤ zs.length) (h : ∀ j, j < n → p zs[j]! = false) : (zs.take n).filter (fun x => !p x) = zs.take n := by
  rw [List.filter_eq_self]
  intro a ha
  obtain ⟨j, hj, rfl⟩ := List.getElem_of_mem ha
  have hj' : j < n := by simp at hj; omega
  have := h j hj'
  rw [getElem!_pos zs j (by omega)] at this
  simp [this]

set_option maxRecDepth 100000 in
set_option maxHeartbeats 4000000 in
/-- p: what goes -/
theorem deleteFunc_any (p : Ent → Bool) (f : Nat) (lb : Array Value) (eg : ∀ args w, (callFunc f args).run Tryz.prog w = .ok (.enter f args) w) (B : Nat) (v : Value) (zs : List Ent) (w : World) (hB : B ≤ w.heap.size) (h : w.ownsRow B 34 5 v zs.length (zs.flatMap Ent.cells)) (hz : zs.length ≤ 1000)
    (hp : ∀ (W : World) (x : Ent), Below B w W → Calls Tryz.prog f (#[x.v] ++ lb) W fun e w' => e = .returned (.bool (p x)) ∧ Below W.heap.size W w') :
    Calls Tryz.prog 175 #[v, .func (.func f) #[] lb] w fun e w' => ∃ v' : Value, e = .returned v' ∧ w'.ownsRow B 34 5 v' (zs.filter fun x => !p x).length ((zs.filter fun x => !p x).flatMap Ent.cells) ∧ Below B w w' := by
  rcases h.2 with ⟨rfl, h0⟩ | ⟨g, cap, cur, rfl, hg, hh, h1, h2, h3, h4⟩
  · have hzs := List.eq_nil_of_length_eq_zero h0
    subst hzs
    have hI : Calls Tryz.prog 162 #[.slice none 0 0, .func (.func f) #[] lb] w fun e w' => e = .returned (.int .i64 (-1)) ∧ w' = w := by
      clear hp h h0
      go_enter Tryz.func162, Tryz.ntmps162
      go_wp2
      refine wp_loop_rounds 1 ?_
      rw [rounds_succ]
      go_wp2
      go_ret
      exact ⟨rfl, rfl⟩
    clear hp h h0
    go_enter Tryz.func175, Tryz.ntmps175
    go_wp2_with (go_at_call 162; refine hI.mono ?_; rintro e w' ⟨rfl, rfl⟩)
    go_ret
    exact ⟨_, rfl, World.ownsRow_nil _ _ _ _, Below.refl _ _⟩
  · have hgl := (Array.getElem?_eq_some_iff.1 hh).1
    have hrow := h
    have hcells : ∀ j, j < zs.length → ∀ i u, (Ent.cells zs[j]!)[i]? = some u → w.cell? ⟨g, 0 + j * 5 + i, none⟩ = some u := by
      intro j hj i u hu
      have hi : i < 5 := (List.getElem?_eq_some_iff.1 hu).1
      have hb : j * 5 + i < zs.length * 5 := by omega
      have e := ent_at zs j hj i hi
      rw [← h4, List.getElem?_take, if_pos hb, hu] at e
      unfold World.cell?
      simp only [hh]
      rw [Nat.zero_add]
      simpa using e
    have hI := AnyQ.slices_IndexFunc { lHasEnt with } 5 Tryz.isAgg34 Tryz.sizeOf34 Ent.cells (fun _ => rfl) p f lb eg g 0 zs.length cap zs w (fun W x hb => (hp W x (hb.mono hB)).mono fun e w' ⟨a, b⟩ => ⟨a, hb.trans (b.mono hb.size)⟩) (Nat.le_refl _) (by omega) hgl hcells
    rw [List.take_length] at hI
    replace hI : Calls Tryz.prog 162 #[.slice (some ⟨g, 0, none⟩) zs.length cap, .func (.func f) #[] lb] w fun e w' => e = .returned (.int .i64 (Lib.idxBy (fun _ y => p y) zs default)) ∧ Below w.heap.size w w' := hI
    rcases first_hit p zs with hall | ⟨k0, hk0, hpk, hbef⟩
    · have e1 : Lib.idxBy (fun _ y => p y) zs default = -1 := by
        have := Lib.idxBy_miss (fun _ y => p y) zs zs.length (default : Ent) hall
        rw [List.take_length] at this
        exact this
      have e2 : zs.filter (fun x => !p x) = zs := by
        have := filter_all_at zs.length (Nat.le_refl _) hall
        rw [List.take_length] at this
        exact this
      rw [e1] at hI
      rw [e2]
      have HR := Lib.hid hrow
      clear hp h hrow hcells hall e1 e2 hh h3 h4
      go_enter Tryz.func175, Tryz.ntmps175
      go_wp2_with (go_at_call 162; refine hI.mono ?_; rintro e w' ⟨rfl, hb⟩)
      go_ret
      exact ⟨_, rfl, ownsRow_below HR.out hb, hb.mono hB⟩
    · have e1 : Lib.idxBy (fun _ y => p y) zs default = (k0 : Int) := by
        have := Lib.idxBy_hit (fun _ y => p y) zs zs.length k0 (default : Ent) hk0 (Nat.le_refl _) hpk hbef
        rw [List.take_length] at this
        exact this
      rw [e1] at hI
      have hD0 : ∀ w', Below w.heap.size w w' → DelAt w B g cap zs (fun x => !p x) k0 (k0 + 1) w' := by
        intro w' hb
        have e : (zs.take (k0 + 1)).filter (fun x => !p x) = zs.take k0 := by
          rw [List.take_succ_eq_append_getElem hk0, List.filter_append, filter_all_at k0 (by omega) hbef]
          rw [getElem!_pos zs k0 hk0] at hpk
          simp [hpk]
        refine ⟨⟨cur, (hb.block _ hgl).trans hh, h3, fun q hq => ?_, fun q hq1 hq2 => ?_⟩, hb.mono hB, by rw [e]; simp; omega, by omega, hk0⟩
        · rw [e]
          have hq' : q < zs.length * 5 := by omega
          have e5 : (zs.flatMap Ent.cells)[q]? = ((zs.take k0).flatMap Ent.cells)[q]? := by
            conv => lhs; rw [← List.take_append_drop k0 zs]
            rw [List.flatMap_append, List.getElem?_append_left]
            rw [flatMap_len Ent.cells 5 (fun _ => rfl)]; simp; omega
          rw [← e5, ← h4, List.getElem?_take, if_pos hq']; simp
        · rw [← h4, List.getElem?_take, if_pos hq2]; simp
      have HD0 := Lib.hid hD0
      have HP := Lib.hid hp
      have HZ := Lib.hid hz
      have HC := Lib.hid h1
      have HM := Lib.hid h2
      have HG := Lib.hid hg
      have HB := Lib.hid hB
      have HK := Lib.hid hk0
      have hw0 : IntKind.i64.wrap ((k0 : Int) + 1) = (k0 : Int) + 1 := wrapNat (k0 + 1) (by omega)
      have hk00 : ((k0 : Int) == -1) = false := by rw [beq_eq_false_iff_ne]; omega
      clear hD0 hp h hrow hcells e1 hh h3 h4 hz hpk hbef h1 h2 hg hB hk0
      go_enter Tryz.func175, Tryz.ntmps175
      go_wp2_with (go_at_call 162; refine hI.mono ?_; rintro e w' ⟨rfl, hb⟩; have HD := Lib.hid (HD0.out w' hb); clear hb)
      clear hI
      go_loopg [5, 6] zs.length (fun gg s5 s6 wr => ∃ k j : Nat, s5 = .int .i64 k ∧ s6 = .int .i64 j ∧ zs.length - j ≤ gg ∧ Aside (DelAt w B g cap zs (fun x => !p x) k j wr))
      case atStart => exact ⟨k0, k0 + 1, rfl, by first | rfl | go_num, by omega, HD.out⟩
      case round =>
        obtain ⟨k, j, rfl, rfl, hgg, hD⟩ := hrel
        have hkj := hD.out.lt
        have hj0 : (0 : Int) ≤ (j : Int) := by omega
        have hki0 : (0 : Int) ≤ (k : Int) := by omega
        have hwj : IntKind.i64.wrap ((j : Int) + 1) = (j : Int) + 1 := wrapNat (j + 1) (by have := hD.out.le; have := HZ.out; omega)
        have hwk : IntKind.i64.wrap ((k : Int) + 1) = (k : Int) + 1 := wrapNat (k + 1) (by have := hD.out.le; have := HZ.out; omega)
        by_cases hlt : j < zs.length
        · have hlti : (j : Int) < (zs.length : Int) := by omega
          have hkn : (k : Int) < (zs.length : Int) := by omega
          have hgl' : g < wr.heap.size := by obtain ⟨_, h, _⟩ := hD.out.row; exact (Array.getElem?_eq_some_iff.1 h).1
          have hBr : B ≤ wr.heap.size := Nat.le_trans HB.out hD.out.below.size
          have hx : ∀ i, i < 5 → wr.cell? ⟨g, j * 5 + i, none⟩ = (Ent.cells zs[j]!)[i]? := by
            intro i hi
            obtain ⟨c, h1, h2, h3, h4⟩ := hD.out.row
            rw [← ent_at zs j hlt i hi, ← h4 (j * 5 + i) (by omega) (by omega)]
            unfold World.cell?
            simp only [h1]
            rfl
          obtain ⟨x, hX⟩ : ∃ x, zs[j]! = x := ⟨_, rfl⟩
          rw [hX] at hx
          have x0 : wr.cell? ⟨g, j * 5, none⟩ = some (.int .i64 x.at_.t) := hx 0 (by omega)
          have x1 : wr.cell? ⟨g, j * 5 + 1, none⟩ = some (.int .i64 x.at_.r) := hx 1 (by omega)
          have x2 : wr.cell? ⟨g, j * 5 + 2, none⟩ = some (.string x.name) := hx 2 (by omega)
          have x3 : wr.cell? ⟨g, j * 5 + 3, none⟩ = some (.int .i64 x.ino.t) := hx 3 (by omega)
          have x4 : wr.cell? ⟨g, j * 5 + 4, none⟩ = some (.int .i64 x.ino.r) := hx 4 (by omega)
          have hbx : Below wr.heap.size wr (wr.alloc (.cells #[.int .i64 x.at_.t, .int .i64 x.at_.r, .string x.name, .int .i64 x.ino.t, .int .i64 x.ino.r] 34)) := (Below.refl _ wr).alloc (Nat.le_refl _) _
          have hcall := HP.out (wr.alloc (.cells #[.int .i64 x.at_.t, .int .i64 x.at_.r, .string x.name, .int .i64 x.ino.t, .int .i64 x.ino.r] 34)) x (hD.out.below.trans (hbx.mono hBr))
          unfold Ent.v at hcall
          have HW : Hid (∀ w1, Below (wr.alloc (.cells #[.int .i64 x.at_.t, .int .i64 x.at_.r, .string x.name, .int .i64 x.ino.t, .int .i64 x.ino.r] 34)).heap.size (wr.alloc (.cells #[.int .i64 x.at_.t, .int .i64 x.at_.r, .string x.name, .int .i64 x.ino.t, .int .i64 x.ino.r] 34)) w1 → w1.cell? ⟨wr.heap.size, 0, none⟩ = some (.int .i64 x.at_.t) ∧ w1.cell? ⟨wr.heap.size, 1, none⟩ = some (.int .i64 x.at_.r) ∧ w1.cell? ⟨wr.heap.size, 2, none⟩ = some (.string x.name) ∧ w1.cell? ⟨wr.heap.size, 3, none⟩ = some (.int .i64 x.ino.t) ∧ w1.cell? ⟨wr.heap.size, 4, none⟩ = some (.int .i64 x.ino.r) ∧ Below wr.heap.size wr w1) := Lib.hid fun w1 hb => by
            have h1 := after1 hb
            exact ⟨h1.1 0 _ rfl, h1.1 1 _ rfl, h1.1 2 _ rfl, h1.1 3 _ rfl, h1.1 4 _ rfl, h1.2⟩
          have HX := Lib.hid hX
          clear hX hx hbx
          cases hq : p x with
          | true =>
            rw [hq] at hcall
            go_wp2_with (go_at_fn f; refine hcall.mono ?_; rintro e w1 ⟨rfl, hb'⟩; have HW1 := Lib.hid (HW.out w1 hb').2.2.2.2.2; clear hb')
            go_roundg (zs.length - (j + 1))
            case measure => omega
            case rel => exact ⟨k, j + 1, rfl, by first | rfl | go_num, by omega, (show Aside _ from hD.out.skip hlt (by rw [HX.out, hq]; rfl) HW1.out hBr)⟩
          | false =>
            rw [hq] at hcall
            have HY : Hid (∀ w1, Below wr.heap.size wr w1 → ∀ i, i < 5 → (∃ v, w1.cell? ⟨g, k * 5 + i, none⟩ = some v) ∧ w1.frozen? ⟨g, k * 5 + i, none⟩ = false) := Lib.hid fun w1 hb i hi => by
              obtain ⟨c, h1, h2, h3, h4⟩ := hD.out.row
              have h5 := (hb.block _ hgl').trans h1
              have hcap : zs.length * 5 ≤ cap * 5 := Nat.mul_le_mul_right 5 HC.out
              have hlt5 : k * 5 + i < c.size := by omega
              exact ⟨⟨c[k * 5 + i], cell_at h5 _ _ (Array.getElem?_eq_getElem hlt5)⟩, frozen_at h5 _⟩
            go_wp2_with (go_at_fn f; refine hcall.mono ?_; rintro e w1 ⟨rfl, hb'⟩; obtain ⟨d0, d1, d2, d3, d4, hb1⟩ := HW.out w1 hb'; obtain ⟨⟨v0, y0⟩, f0⟩ := HY.out w1 hb1 0 (by omega); obtain ⟨⟨v1, y1⟩, f1⟩ := HY.out w1 hb1 1 (by omega); obtain ⟨⟨v2, y2⟩, f2⟩ := HY.out w1 hb1 2 (by omega); obtain ⟨⟨v3, y3⟩, f3⟩ := HY.out w1 hb1 3 (by omega); obtain ⟨⟨v4, y4⟩, f4⟩ := HY.out w1 hb1 4 (by omega); rw [Nat.add_zero] at y0 f0; have HW1 := Lib.hid hb1; clear hb' hb1)
            go_roundg (zs.length - (j + 1))
            case measure => omega
            case rel => exact ⟨k + 1, j + 1, by first | rfl | go_num, by first | rfl | go_num, by omega, (show Aside _ from hD.out.take hlt (by rw [HX.out, hq]; rfl) HW1.out hBr HG.out HC.out x HX.out)⟩
        · have hlti : ¬ (j : Int) < (zs.length : Int) := by omega
          have hje : j = zs.length := by have := hD.out.le; omega
          subst hje
          have hkc : (k : Int) ≤ (cap : Int) := by have := HC.out; omega
          have hkn : (k : Int) ≤ (zs.length : Int) := by omega
          have hnc : (zs.length : Int) ≤ (cap : Int) := by have := HC.out; omega
          have hne : ¬ cap = k := by have := HC.out; omega
          obtain ⟨w2, hrun, hb2, hr2⟩ := hD.out.clear HG.out HC.out HM.out 0 (zs.length - k) rfl (cap - k)
          have HR2 := Lib.hid hr2
          have HB2 := Lib.hid hb2
          have HKK := Lib.hid hD.out.many
          clear hr2 hb2
          go_wp2
          go_ret
          have e := HKK.out
          rw [List.take_length] at e
          rw [← e]
          exact ⟨_, rfl, HR2.out, HB2.out⟩
end Go.Proofs.YtlokljaeknmdpaaGreat
