/-
  Slices of structs; slices.ContainsFunc at them, by its contract; no condition. · Rows of structs that are put together; no condition. · Ranging over a map: what is left, what has come; no condition.
-/
import Derived.Test.YtlokljaeknmdpaaGreatKZ0
import Derived.Test.YtlokljaeknmdpaaGreatKZ7
import Derived.WalkKit
import Derived.Lib.SliceRun
/-! ## Sl -/
namespace Go.Proofs.YtlokljaeknmdpaaGreat
open Go.RowKit Go.Shelf

/-- v is a slice of the list zs; an element has k cells -/
def SlAt {α : Type} [Inhabited α] (w : World) (k : Nat) (enc : α → List Value) (v : Value) (zs : List α) : Prop :=
  (∃ a c, v = .slice a 0 c ∧ zs = []) ∨ ∃ b off c, v = .slice (some ⟨b, off, none⟩) zs.length c ∧ zs.length ≤ c ∧ c ≤ maxLen ∧ b < w.heap.size ∧ ∀ j, j < zs.length → ∀ i u, (enc zs[j]!)[i]? = some u → w.cell? ⟨b, off + j * k + i, none⟩ = some u

theorem SlAt.below {α : Type} [Inhabited α] {w w' : World} {k : Nat} {enc : α → List Value} {v : Value} {zs : List α} (h : SlAt w k enc v zs) (hb : Below w.heap.size w w') : SlAt w' k enc v zs := by
  rcases h with h | ⟨b, off, c, rfl, h1, h2, h3, h4⟩
  · exact .inl h
  · exact .inr ⟨b, off, c, rfl, h1, h2, Nat.lt_of_lt_of_le h3 hb.size, fun j hj i u hu => (hb.cell (p := ⟨b, _, none⟩) h3).trans (h4 j hj i u hu)⟩

/-- its length -/
theorem SlAt.len {α : Type} [Inhabited α] {w : World} {k : Nat} {enc : α → List Value} {v : Value} {zs : List α} (h : SlAt w k enc v zs) : ∃ a c, v = .slice a zs.length c := by
  rcases h with ⟨a, c, rfl, rfl⟩ | ⟨b, off, c, rfl, _⟩
  · exact ⟨a, c, rfl⟩
  · exact ⟨_, _, rfl⟩

theorem noContIno (a : Option Addr) (c : Nat) (f : Value) (w : World) : Calls Tryz.prog 116 #[.slice a 0 c, f] w fun e w' => e = .returned (.bool false) ∧ Below w.heap.size w w' := by
  have hI : Calls Tryz.prog 161 #[.slice a 0 c, f] w fun e w' => e = .returned (.int .i64 (-1)) ∧ w' = w := by
    go_enter Tryz.func161, Tryz.ntmps161
    go_wp2
    refine wp_loop_rounds 1 ?_
    rw [rounds_succ]
    go_wp2
    go_ret
    exact ⟨rfl, rfl⟩
  go_enter Tryz.func116, Tryz.ntmps116
  go_wp2_with (go_at_call 161; refine hI.mono ?_; rintro e w' ⟨rfl, rfl⟩)
  go_ret
  exact ⟨rfl, Below.refl _ _⟩

theorem noContEnt (a : Option Addr) (c : Nat) (f : Value) (w : World) : Calls Tryz.prog 118 #[.slice a 0 c, f] w fun e w' => e = .returned (.bool false) ∧ Below w.heap.size w w' := by
  have hI : Calls Tryz.prog 162 #[.slice a 0 c, f] w fun e w' => e = .returned (.int .i64 (-1)) ∧ w' = w := by
    go_enter Tryz.func162, Tryz.ntmps162
    go_wp2
    refine wp_loop_rounds 1 ?_
    rw [rounds_succ]
    go_wp2
    go_ret
    exact ⟨rfl, rfl⟩
  go_enter Tryz.func118, Tryz.ntmps118
  go_wp2_with (go_at_call 162; refine hI.mono ?_; rintro e w' ⟨rfl, rfl⟩)
  go_ret
  exact ⟨rfl, Below.refl _ _⟩

/-- slices.ContainsFunc at a list of inodes, whatever predicate -/
theorem containsIno (p : Ino → Bool) (g : Nat) (lb : Array Value) (eg : ∀ args w, (callFunc g args).run Tryz.prog w = .ok (.enter g args) w) (v : Value) (zs : List Ino) (w : World) (h : SlAt w 6 Ino.cells v zs) (hz : zs.length ≤ 1000)
    (hp : ∀ (W : World) (x : Ino), Below w.heap.size w W → Calls Tryz.prog g (#[x.v] ++ lb) W fun e w' => e = .returned (.bool (p x)) ∧ Below W.heap.size W w') :
    Calls Tryz.prog 116 #[v, .func (.func g) #[] lb] w fun e w' => e = .returned (.bool (zs.any p)) ∧ Below w.heap.size w w' := by
  rcases h with ⟨a', c', rfl, rfl⟩ | ⟨b, off, c, rfl, _, _, hb, hc⟩
  · exact noContIno _ _ _ w
  · have := AnyQ.slices_ContainsFunc lHasIno 6 Tryz.isAgg62 Tryz.sizeOf62 Ino.cells (fun _ => rfl) p g lb eg b off zs.length c zs w (fun W x hb => (hp W x hb).mono fun e w' ⟨h1, h2⟩ => ⟨h1, hb.trans (h2.mono hb.size)⟩) (Nat.le_refl _) (by omega) hb hc
    rw [List.take_length] at this
    exact this

/-- slices.ContainsFunc at a list of entries, whatever predicate -/
theorem containsEnt (p : Ent → Bool) (g : Nat) (lb : Array Value) (eg : ∀ args w, (callFunc g args).run Tryz.prog w = .ok (.enter g args) w) (v : Value) (zs : List Ent) (w : World) (h : SlAt w 5 Ent.cells v zs) (hz : zs.length ≤ 1000)
    (hp : ∀ (W : World) (x : Ent), Below w.heap.size w W → Calls Tryz.prog g (#[x.v] ++ lb) W fun e w' => e = .returned (.bool (p x)) ∧ Below W.heap.size W w') :
    Calls Tryz.prog 118 #[v, .func (.func g) #[] lb] w fun e w' => e = .returned (.bool (zs.any p)) ∧ Below w.heap.size w w' := by
  rcases h with ⟨a', c', rfl, rfl⟩ | ⟨b, off, c, rfl, _, _, hb, hc⟩
  · exact noContEnt _ _ _ w
  · have := AnyQ.slices_ContainsFunc lHasEnt 5 Tryz.isAgg34 Tryz.sizeOf34 Ent.cells (fun _ => rfl) p g lb eg b off zs.length c zs w (fun W x hb => (hp W x hb).mono fun e w' ⟨h1, h2⟩ => ⟨h1, hb.trans (h2.mono hb.size)⟩) (Nat.le_refl _) (by omega) hb hc
    rw [List.take_length] at this
    exact this
end Go.Proofs.YtlokljaeknmdpaaGreat

/-! ## App -/
namespace Go.Proofs.YtlokljaeknmdpaaGreat
open Go.RowKit Go.Shelf

theorem flatMap_at {α β : Type} [Inhabited α] (f : α → List β) (k : Nat) (hk : ∀ x, (f x).length = k) (zs : List α) (j i : Nat) (hj : j < zs.length) (hi : i < k) : (zs.flatMap f)[j * k + i]? = (f zs[j]!)[i]? := by
  induction zs generalizing j with
  | nil => simp at hj
  | cons z zs ih =>
    rw [List.flatMap_cons]
    cases j with
    | zero => rw [List.getElem?_append_left (by rw [hk]; omega)]; simp
    | succ j =>
      rw [List.getElem?_append_right (by rw [hk]; rw [Nat.succ_mul]; omega), hk]
      have e : (j + 1) * k + i - k = j * k + i := by rw [Nat.succ_mul]; omega
      rw [e, ih j (by simpa using hj)]
      simp

theorem flatMap_len {α β : Type} (f : α → List β) (k : Nat) (hk : ∀ x, (f x).length = k) (zs : List α) : (zs.flatMap f).length = zs.length * k := by
  induction zs with
  | nil => simp
  | cons z zs ih => rw [List.flatMap_cons, List.length_append, hk, ih, List.length_cons, Nat.succ_mul]; omega

/-- what the call's own slice holds is a list -/
theorem SlAt.of_row {α : Type} [Inhabited α] {W : World} {B k : Nat} {t : TypeId} {enc : α → List Value} {v : Value} {zs : List α} (hk : ∀ x, (enc x).length = k) (h : W.ownsRow B t k v zs.length (zs.flatMap enc)) : SlAt W k enc v zs := by
  rcases h.2 with ⟨rfl, h0⟩ | ⟨g, cap, cur, rfl, _, hh, h1, h2, _, h4⟩
  · exact .inl ⟨none, 0, rfl, List.eq_nil_of_length_eq_zero h0⟩
  · refine .inr ⟨g, 0, cap, rfl, h1, h2, (Array.getElem?_eq_some_iff.1 hh).1, fun j hj i u hu => ?_⟩
    have hi : i < k := by have := (List.getElem?_eq_some_iff.1 hu).1; rw [hk] at this; exact this
    have hb : j * k + i < zs.length * k := by
      have : (j + 1) * k ≤ zs.length * k := Nat.mul_le_mul_right k hj
      rw [Nat.succ_mul] at this; omega
    have e : cur[0 + j * k + i]? = some u := by
      have := flatMap_at enc k hk zs j i hj hi
      rw [← h4, List.getElem?_take, if_pos hb, hu] at this
      rw [Nat.zero_add, ← Array.getElem?_toList]; exact this
    unfold World.cell?
    simp only [hh]
    simpa using e

theorem Ino.one (x : Ino) : ∀ u ∈ x.cells, u.oneCell' = true := by
  intro u hu; simp [Ino.cells] at hu; rcases hu with rfl | rfl | rfl | rfl | rfl | rfl <;> rfl
theorem Ent.one (x : Ent) : ∀ u ∈ x.cells, u.oneCell' = true := by
  intro u hu; simp [Ent.cells] at hu; rcases hu with rfl | rfl | rfl | rfl | rfl <;> rfl
end Go.Proofs.YtlokljaeknmdpaaGreat

/-! ## Range -/
namespace Go.Proofs.YtlokljaeknmdpaaGreat
open Go.RowKit

section
variable {K V : Type} {enc : K → Value} {encV : V → Value} {kv : List (K × V)} {w : World} {r b : Nat}

/-- the entries that have not come yet -/
def leftOf (es : Array MapEntry) (kv : List (K × V)) (seen : Array Nat) : List (MapEntry × (K × V)) := (es.toList.zip kv).filter fun x => !seen.contains x.1.born

/-- a range over the map of block b is under way in block r; 'took' has come, n are left -/
def RangeAt (w : World) (r b : Nat) (enc : K → Value) (encV : V → Value) (kv : List (K × V)) (took : List (K × V)) (n : Nat) : Prop :=
  ∃ es ck seen, w.heap[b]? = some (.map es ck) ∧ es.toList.map (fun e => (e.key, e.val)) = kv.map (fun p => (enc p.1, encV p.2)) ∧ BornOk es ck ∧
    w.heap[r]? = some (.mapIter (some b) ck seen ck) ∧ (took ++ (leftOf es kv seen).map (·.2)).Perm kv ∧ (leftOf es kv seen).length = n

theorem RangeAt.kept {took : List (K × V)} {n : Nat} {w' : World} (h : RangeAt w r b enc encV kv took n) (hb : w'.heap[b]? = w.heap[b]?) (hr : w'.heap[r]? = w.heap[r]?) : RangeAt w' r b enc encV kv took n := by
  obtain ⟨es, ck, seen, h1, h2, h3, h4, h5, h6⟩ := h
  exact ⟨es, ck, seen, hb.trans h1, h2, h3, hr.trans h4, h5, h6⟩
theorem RangeAt.map {took : List (K × V)} {n : Nat} (h : RangeAt w r b enc encV kv took n) : MapAt w b enc encV kv := by
  obtain ⟨es, ck, seen, h1, h2, h3, h4, h5, h6⟩ := h
  exact ⟨es, ck, h1, h2, h3⟩
theorem RangeAt.iter {took : List (K × V)} {n : Nat} (h : RangeAt w r b enc encV kv took n) : ∃ m s q l, w.heap[r]? = some (.mapIter m s q l) := by
  obtain ⟨es, ck, seen, h1, h2, h3, h4, h5, h6⟩ := h
  exact ⟨_, _, _, _, h4⟩

theorem zip_map_snd {es : Array MapEntry} (h : es.toList.map (fun e => (e.key, e.val)) = kv.map (fun p => (enc p.1, encV p.2))) : (es.toList.zip kv).map (·.2) = kv := by
  have hl : es.toList.length = kv.length := by simpa using congrArg List.length h
  exact List.map_snd_zip (by omega)

/-- the beginning of a range -/
theorem run_range_kv {P : Program} {T kt et : TypeId} (hT : P.underlying T = some (.map kt et)) (hm : MapAt w b enc encV kv) :
    ∃ w', (Instr.range T (.map (some b))).run P w = .ok (.pointer (some ⟨w.heap.size, 0, none⟩)) w' ∧ New w w' ∧ RangeAt w' w.heap.size b enc encV kv [] kv.length := by
  obtain ⟨es, ck, hb, hkv, hB⟩ := hm
  have hgo : (getObj b).run P w = .ok (.map es ck) w := by simp [getObj, Sem.run, hb]
  have hl : es.toList.length = kv.length := by simpa using congrArg List.length hkv
  refine ⟨w.alloc (.mapIter (some b) ck #[] ck), ?_, New.alloc' _ _, es, ck, #[], ?_, hkv, hB, ?_, ?_, ?_⟩
  · simp [Instr.range, run_underlying hT, hgo, Result.andThen]
  · exact (New.alloc' w _).heap hb
  · exact World.alloc_heap_new w _
  · have : leftOf es kv #[] = es.toList.zip kv := by simp [leftOf]
    rw [this, zip_map_snd hkv]
    exact List.Perm.refl _
  · have : leftOf es kv #[] = es.toList.zip kv := by simp [leftOf]
    rw [this, List.length_zip, hl, Nat.min_self]

theorem left_arr {es : Array MapEntry} {ck : Nat} (hB : BornOk es ck) (seen : Array Nat) :
    (es.filter fun e => !seen.contains e.born).filter (·.born < ck) = es.filter (fun e => !seen.contains e.born) ∧ (es.filter fun e => !seen.contains e.born).filter (·.born ≥ ck) = #[] := by
  constructor
  · apply Array.ext'
    rw [Array.toList_filter, List.filter_eq_self]
    intro a ha
    rw [Array.toList_filter] at ha
    have := hB.2 a (List.mem_filter.1 ha).1
    simpa using this
  · apply Array.ext'
    rw [Array.toList_filter, List.filter_eq_nil_iff]
    intro a ha
    rw [Array.toList_filter] at ha
    have := hB.2 a (List.mem_filter.1 ha).1
    simp; omega

theorem leftOf_fst {es : Array MapEntry} (seen : Array Nat) (hl : es.toList.length = kv.length) : (leftOf es kv seen).map (·.1) = es.toList.filter (fun e => !seen.contains e.born) := by
  unfold leftOf
  have : ∀ (l : List MapEntry) (k : List (K × V)), l.length = k.length → ((l.zip k).filter fun x => !seen.contains x.1.born).map (·.1) = l.filter (fun e => !seen.contains e.born) := by
    intro l
    induction l with
    | nil => intro k _; rfl
    | cons a l ih =>
      intro k hk
      cases k with
      | nil => simp at hk
      | cons p k =>
        simp only [List.zip_cons_cons, List.filter_cons]
        split
        · simp only [List.map_cons]; rw [ih k (by simpa using hk)]
        · exact ih k (by simpa using hk)
  exact this _ _ hl

/-- one entry goes -/
theorem filter_go {X : Type} (f : X → Nat) : ∀ (l : List X), l.Pairwise (fun a b => f a < f b) → ∀ (seen : Array Nat) (x : X), x ∈ l.filter (fun a => !seen.contains (f a)) →
    (x :: l.filter (fun a => !(seen.push (f x)).contains (f a))).Perm (l.filter (fun a => !seen.contains (f a)))
  | [], _, _, _, h => by simp at h
  | a :: l, hp, seen, x, h => by
    rw [List.pairwise_cons] at hp
    have hpush : ∀ y, (seen.push (f x)).contains (f y) = (seen.contains (f y) || (f y == f x)) := by
      intro y
      rw [Bool.eq_iff_iff]
      simp
    by_cases hax : f a = f x
    · have hx : x = a := by
        rcases List.mem_cons.1 (List.mem_filter.1 h).1 with e | e
        · exact e
        · have := hp.1 x e; omega
      subst hx
      have hs : (!seen.contains (f x)) = true := (List.mem_filter.1 h).2
      rw [List.filter_cons, List.filter_cons, if_pos hs, hpush]
      simp only [beq_self_eq_true, Bool.or_true, Bool.not_true, Bool.false_eq_true, if_false]
      apply List.Perm.cons
      apply List.Perm.of_eq
      apply List.filter_congr
      intro y hy
      have := hp.1 y hy
      rw [hpush, beq_eq_false_iff_ne.2 (show f y ≠ f x by omega), Bool.or_false]
    · have hxl : x ∈ l.filter (fun a => !seen.contains (f a)) := by
        have hm := List.mem_filter.1 h
        rcases List.mem_cons.1 hm.1 with e | e
        · exact absurd (by rw [e]) hax
        · exact List.mem_filter.2 ⟨e, hm.2⟩
      have ih := filter_go f l hp.2 seen x hxl
      rw [List.filter_cons, List.filter_cons, hpush, beq_eq_false_iff_ne.2 hax, Bool.or_false]
      split
      · exact (List.Perm.swap _ _ _).trans (ih.cons _)
      · exact ih

/-- the end of a range -/
theorem run_next_done {P : Program} {took : List (K × V)} (h : RangeAt w r b enc encV kv took 0) (ty : TypeId) :
    took.Perm kv ∧ (Instr.next (.pointer (some ⟨r, 0, none⟩)) false ty).run P w = .ok (.tuple #[.bool false]) w := by
  obtain ⟨es, ck, seen, h1, h2, h3, h4, h5, h6⟩ := h
  have hl : es.toList.length = kv.length := by simpa using congrArg List.length h2
  have hnil : leftOf es kv seen = [] := List.eq_nil_of_length_eq_zero h6
  have hf := leftOf_fst (kv := kv) seen hl
  rw [hnil] at h5 hf
  have hgo : (getObj b).run P w = .ok (.map es ck) w := by simp [getObj, Sem.run, h1]
  have hgr : (getObj r).run P w = .ok (.mapIter (some b) ck seen ck) w := by simp [getObj, Sem.run, h4]
  have hla : es.filter (fun e => !seen.contains e.born) = #[] := by
    apply Array.ext'; rw [Array.toList_filter, ← hf]; rfl
  have hg : (!seen.isEmpty && !es.isEmpty && es.all (·.born ≥ ck)) = false := by
    by_cases he : es.isEmpty = true
    · simp [he]
    · have : es.all (·.born ≥ ck) = false := by
        rw [Bool.eq_false_iff]
        intro hall
        have hne : 0 < es.size := by
          rcases Nat.eq_zero_or_pos es.size with h0 | h0
          · exact absurd (by simpa using h0) he
          · exact h0
        have h0 := (Array.all_eq_true.1 hall) 0 hne
        have := h3.2 es[0] (by simp)
        simp at h0; omega
      rw [this, Bool.and_false]
  refine ⟨by simpa using h5, ?_⟩
  simp only [Instr.next, Sem.run_bind, hgr, hgo, Result.andThen, hg, hla]
  simp [choose, Sem.run, Question.forced]

/-- a step of a range -/
theorem run_next_step {P : Program} {took : List (K × V)} {n : Nat} (h : RangeAt w r b enc encV kv took (n + 1)) :
    ∃ p d o, (∀ ty, (Instr.next (.pointer (some ⟨r, 0, none⟩)) false ty).run P w = .ok (.tuple #[.bool true, enc p.1, encV p.2]) ((w.drewN d).putObj r o)) ∧ (∀ c e f, o ≠ .cells c e f) ∧
      (r ≠ b → (Instr.entry (.pointer (some ⟨r, 0, none⟩))).run P ((w.drewN d).putObj r o) = .ok (.tuple #[enc p.1, encV p.2]) ((w.drewN d).putObj r o)) ∧
      (r ≠ b → RangeAt ((w.drewN d).putObj r o) r b enc encV kv (took ++ [p]) n) := by
  obtain ⟨es, ck, seen, h1, h2, h3, h4, h5, h6⟩ := h
  have hl : es.toList.length = kv.length := by simpa using congrArg List.length h2
  have hf := leftOf_fst (kv := kv) seen hl
  have hgo : (getObj b).run P w = .ok (.map es ck) w := by simp [getObj, Sem.run, h1]
  have hgr : (getObj r).run P w = .ok (.mapIter (some b) ck seen ck) w := by simp [getObj, Sem.run, h4]
  obtain ⟨a1, a2⟩ := left_arr h3 seen
  obtain ⟨L, hL⟩ : ∃ L, L = es.filter (fun e => !seen.contains e.born) := ⟨_, rfl⟩
  have hLl : L.toList = (leftOf es kv seen).map (·.1) := by rw [hL, Array.toList_filter, hf]
  have hLs : L.size = n + 1 := by rw [← Array.length_toList, hLl, List.length_map, h6]
  rw [← hL] at a1 a2
  have hg : (!seen.isEmpty && !es.isEmpty && es.all (·.born ≥ ck)) = false := by
    by_cases he : es.isEmpty = true
    · simp [he]
    · have : es.all (·.born ≥ ck) = false := by
        rw [Bool.eq_false_iff]
        intro hall
        have hne : 0 < es.size := by
          rcases Nat.eq_zero_or_pos es.size with h0 | h0
          · exact absurd (by simpa using h0) he
          · exact h0
        have h0 := (Array.all_eq_true.1 hall) 0 hne
        have := h3.2 es[0] (by simp)
        simp at h0; omega
      rw [this, Bool.and_false]
  -- which one comes
  have hch : ∃ i d, i < L.size ∧ (choose (.mapNext L.size)).run P w = .ok i (w.drewN d) := by
    by_cases hforced : L.size ≤ 1
    · exact ⟨0, 0, by omega, by simp [choose, Sem.run, Question.forced, hforced, World.drewN]⟩
    · refine ⟨w.tape w.drawn (.mapNext L.size) % L.size, 1, Nat.mod_lt _ (by omega), ?_⟩
      simp only [choose, Sem.run, Question.forced, hforced, decide_false]
      rfl
  obtain ⟨i, d, hi, hch⟩ := hch
  have hix : i < (leftOf es kv seen).length := by rw [h6]; omega
  obtain ⟨x, hx⟩ : ∃ x, x = (leftOf es kv seen)[i] := ⟨_, rfl⟩
  have hxm : x ∈ leftOf es kv seen := by rw [hx]; exact List.getElem_mem _
  have hLi : L[i]? = some x.1 := by
    rw [← Array.getElem?_toList, hLl, List.getElem?_map, List.getElem?_eq_getElem hix, hx]; rfl
  -- its pair
  have hpair : x.1.key = enc x.2.1 ∧ x.1.val = encV x.2.2 := by
    have hz : x ∈ es.toList.zip kv := (List.mem_filter.1 hxm).1
    have key : ∀ (l : List MapEntry) (k : List (K × V)), l.map (fun e => (e.key, e.val)) = k.map (fun p => (enc p.1, encV p.2)) → ∀ x ∈ l.zip k, x.1.key = enc x.2.1 ∧ x.1.val = encV x.2.2 := by
      intro l
      induction l with
      | nil => intro k _ x hx; simp at hx
      | cons a l ih =>
        intro k hk x hx
        cases k with
        | nil => simp at hx
        | cons p k =>
          simp only [List.map_cons, List.cons.injEq, Prod.mk.injEq] at hk
          rcases List.mem_cons.1 hx with e | e
          · rw [e]; exact hk.1
          · exact ih k hk.2 x e
    exact key _ _ h2 x hz
  refine ⟨x.2, d, .mapIter (some b) ck (seen.push x.1.born) ck, ?_, fun _ _ _ => by simp, ?_, ?_⟩
  · intro ty
    have hset : (setObj r (.mapIter (some b) ck (seen.push x.1.born) ck)).run P (w.drewN d) = .ok () ((w.drewN d).putObj r (.mapIter (some b) ck (seen.push x.1.born) ck)) := by
      simp [setObj, Sem.run, h4, World.putObj, World.drewN]
    have hne : L.isEmpty = false := by
      rw [Bool.eq_false_iff]; intro h; simp at h; rw [h] at hLs; simp at hLs
    have hsz : ((if L.isEmpty = true then #[none] else #[] : Array (Option MapEntry)) ++ (L ++ #[]).map some).size = L.size := by simp [hne]
    have hget : ((if L.isEmpty = true then #[none] else #[] : Array (Option MapEntry)) ++ (L ++ #[]).map some)[i]? = some (some x.1) := by simp [hne, hLi]
    simp only [Instr.next, Sem.run_bind, hgr, hgo, Result.andThen, hg, ← hL, a1, a2, hsz, Bool.false_eq_true, if_false, hch, hget, hset, hpair.1, hpair.2]
    rfl
  · intro hrb
    have hlt := (Array.getElem?_eq_some_iff.1 h4).1
    have g1 : ((w.drewN d).putObj r (.mapIter (some b) ck (seen.push x.1.born) ck)).heap[r]? = some (.mapIter (some b) ck (seen.push x.1.born) ck) := World.putObj_heap_same hlt
    have g2 : ((w.drewN d).putObj r (.mapIter (some b) ck (seen.push x.1.born) ck)).heap[b]? = some (.map es ck) := (World.putObj_heap_other (Ne.symm hrb)).trans h1
    have hfind : es.find? (fun e => e.born == x.1.born) = some x.1 := by
      have hxe : x.1 ∈ es.toList := (List.of_mem_zip (List.mem_filter.1 hxm).1).1
      rw [← Array.find?_toList]
      have key : ∀ (l : List MapEntry), l.Pairwise (fun a b => a.born < b.born) → x.1 ∈ l → l.find? (fun e => e.born == x.1.born) = some x.1 := by
        intro l
        induction l with
        | nil => intro _ h; cases h
        | cons a l ih =>
          intro hp hm
          rw [List.pairwise_cons] at hp
          rw [List.find?_cons]
          rcases List.mem_cons.1 hm with e | e
          · rw [← e]; simp
          · have := hp.1 _ e
            rw [beq_eq_false_iff_ne.2 (show a.born ≠ x.1.born by omega)]
            exact ih hp.2 e
      exact key _ h3.1 hxe
    generalize (w.drewN d).putObj r (.mapIter (some b) ck (seen.push x.1.born) ck) = W at g1 g2 ⊢
    have hgr' : (getObj r).run P W = .ok (.mapIter (some b) ck (seen.push x.1.born) ck) W := by simp [getObj, Sem.run, g1]
    have hgo' : (getObj b).run P W = .ok (.map es ck) W := by simp [getObj, Sem.run, g2]
    simp [Instr.entry, hgr', hgo', Result.andThen, hfind, hpair.1, hpair.2]
  · intro hrb
    have hlt := (Array.getElem?_eq_some_iff.1 h4).1
    refine ⟨es, ck, seen.push x.1.born, (World.putObj_heap_other (Ne.symm hrb)).trans h1, h2, h3, World.putObj_heap_same hlt, ?_, ?_⟩
    · have hp := filter_go (fun y : MapEntry × (K × V) => y.1.born) (es.toList.zip kv) ?_ seen x hxm
      · have hp2 := hp.map (·.2)
        have e : took ++ [x.2] ++ (leftOf es kv (seen.push x.1.born)).map (·.2) = took ++ (x :: leftOf es kv (seen.push x.1.born)).map (·.2) := by simp
        rw [e]
        exact (List.Perm.append_left took hp2).trans h5
      · have : ∀ (l : List MapEntry) (k : List (K × V)), l.Pairwise (fun a b => a.born < b.born) → (l.zip k).Pairwise (fun a b => a.1.born < b.1.born) := by
          intro l
          induction l with
          | nil => intro k _; simp
          | cons a l ih =>
            intro k hk
            cases k with
            | nil => simp
            | cons p k =>
              rw [List.zip_cons_cons, List.pairwise_cons]
              rw [List.pairwise_cons] at hk
              refine ⟨fun y hy => hk.1 _ (List.of_mem_zip hy).1, ih k hk.2⟩
        exact this _ _ h3.1
    · have hp := filter_go (fun y : MapEntry × (K × V) => y.1.born) (es.toList.zip kv) ?_ seen x hxm
      · have := hp.length_eq
        have h6' : ((es.toList.zip kv).filter fun x => !seen.contains x.1.born).length = n + 1 := h6
        rw [h6'] at this
        show ((es.toList.zip kv).filter _).length = n
        simpa using this
      · have : ∀ (l : List MapEntry) (k : List (K × V)), l.Pairwise (fun a b => a.born < b.born) → (l.zip k).Pairwise (fun a b => a.1.born < b.1.born) := by
          intro l
          induction l with
          | nil => intro k _; simp
          | cons a l ih =>
            intro k hk
            cases k with
            | nil => simp
            | cons p k =>
              rw [List.zip_cons_cons, List.pairwise_cons]
              rw [List.pairwise_cons] at hk
              refine ⟨fun y hy => hk.1 _ (List.of_mem_zip hy).1, ih k hk.2⟩
        exact this _ _ h3.1
end
end Go.Proofs.YtlokljaeknmdpaaGreat
