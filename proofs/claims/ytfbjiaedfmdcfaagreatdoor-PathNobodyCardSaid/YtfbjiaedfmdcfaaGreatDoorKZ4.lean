/-
  Operations put in order, and folded, plainly; no condition. · The size that an inode's data may have; no condition. · Operations, plainly: what they make is fine, but for the audit's words; no condition. · What runes are bad in a text, by its bytes; no condition.
-/
import Derived.Test.YtfbjiaedfmdcfaaGreatDoorKZ3
import Derived.Test.YtfbjiaedfmdcfaaGreatDoorKZ0
import Derived.Test.YtfbjiaedfmdcfaaGreatDoorKZ1
/-! ## FoldPl -/
namespace Go.Proofs.YtfbjiaedfmdcfaaGreatDoor

abbrev RisesO (l : List Op) : Prop := RisesK Op.stamp ltSt l
/-- may it be put? -/
def putB (l : List Op) (o : Op) : Bool := opMay o && !(l.any fun a => decide (a.stamp = o.stamp))
def putOp (l : List Op) (o : Op) : List Op := if putB l o then putIn Op.stamp ltSt o l else l
def placeOf (l : List Op) (o : Op) : Nat := if opMay o then (l.takeWhile fun a => decide (ltSt a.stamp o.stamp)).length else 0
def sortOps (l : List Op) : List Op := l.foldl putOp []
noncomputable def onOps (g : Gr) (l : List Op) : Gr := (sortOps l).foldl Gr.apply g
theorem putB_iff {l : List Op} {o : Op} : putB l o = true ↔ opMay o = true ∧ ∀ a ∈ l, a.stamp ≠ o.stamp := by
  unfold putB
  simp
theorem putOp_rises {l : List Op} (h : RisesO l) (o : Op) : RisesO (putOp l o) := by
  unfold putOp
  split
  · rename_i hb
    exact putIn_rises strictSt h (putB_iff.1 hb).2
  · exact h
theorem mem_putOp {l : List Op} {o x : Op} : x ∈ putOp l o ↔ x ∈ l ∨ (x = o ∧ putB l o = true) := by
  unfold putOp
  split
  · rename_i hb
    rw [putIn_mem]
    constructor
    · rintro (h | h)
      · exact .inr ⟨h, hb⟩
      · exact .inl h
    · rintro (h | ⟨h, _⟩)
      · exact .inr h
      · exact .inl h
  · rename_i hb
    exact ⟨.inl, fun h => h.elim id fun h => absurd h.2 hb⟩
theorem putOp_may {l : List Op} (h : ∀ a ∈ l, opMay a = true) (o : Op) : ∀ a ∈ putOp l o, opMay a = true := by
  intro a ha
  rcases mem_putOp.1 ha with ha | ⟨rfl, hb⟩
  · exact h a ha
  · exact (putB_iff.1 hb).1
theorem putOp_len (l : List Op) (o : Op) : (putOp l o).length = l.length + if putB l o then 1 else 0 := by
  unfold putOp
  split
  · rw [putIn_len]
  · rfl
theorem sort_snoc (l : List Op) (o : Op) : sortOps (l ++ [o]) = putOp (sortOps l) o := by unfold sortOps; rw [List.foldl_append]; rfl
theorem sort_step (l : List Op) (i : Nat) (hi : i < l.length) : sortOps (l.take (i + 1)) = putOp (sortOps (l.take i)) l[i]! := by
  rw [List.take_succ_eq_append_getElem hi, sort_snoc, getElem!_pos l i hi]
theorem fold_putOp : ∀ (l s : List Op), RisesO s → (∀ a ∈ s, opMay a = true) → RisesO (l.foldl putOp s) ∧ (∀ a ∈ l.foldl putOp s, opMay a = true) ∧ (l.foldl putOp s).length ≤ s.length + l.length
  | [], s, h1, h2 => ⟨h1, h2, Nat.le_refl _⟩
  | o :: l, s, h1, h2 => by
    obtain ⟨a, b, c⟩ := fold_putOp l (putOp s o) (putOp_rises h1 o) (putOp_may h2 o)
    refine ⟨a, b, ?_⟩
    have := putOp_len s o
    simp only [List.foldl_cons, List.length_cons]
    split at this <;> omega
theorem sort_rises (l : List Op) : RisesO (sortOps l) := (fold_putOp l [] List.Pairwise.nil (by simp)).1
theorem sort_len (l : List Op) : (sortOps l).length ≤ l.length := by
  have := (fold_putOp l [] List.Pairwise.nil (by simp)).2.2
  rw [List.length_nil, Nat.zero_add] at this
  exact this
theorem fold_mem_sub : ∀ (l s : List Op) (x : Op), x ∈ l.foldl putOp s → x ∈ s ∨ x ∈ l
  | [], s, x, h => .inl h
  | o :: l, s, x, h => by
    rcases fold_mem_sub l (putOp s o) x h with h | h
    · rcases mem_putOp.1 h with h | ⟨rfl, _⟩
      · exact .inl h
      · exact .inr List.mem_cons_self
    · exact .inr (List.mem_cons_of_mem _ h)
theorem sort_sub {l : List Op} {x : Op} (h : x ∈ sortOps l) : x ∈ l := by
  rcases fold_mem_sub l [] x h with h | h
  · cases h
  · exact h
/-! ### folding -/
theorem runs_ok : ∀ (l : List Op) {g : Gr}, g.Ok → (l.foldl Gr.apply g).Ok
  | [], _, h => h
  | o :: l, _, h => runs_ok l (h.apply o)
theorem runs_thin : ∀ (l : List Op) {g : Gr}, g.Thin → (l.foldl Gr.apply g).Thin
  | [], _, h => h
  | o :: l, _, h => runs_thin l (h.apply o)
noncomputable def ofOps (l : List Op) : Gr := ran (sortOps l)
theorem ofOps_ok (l : List Op) : (ofOps l).Ok := ran_ok _
theorem ofOps_thin (l : List Op) : (ofOps l).Thin := ran_thin _
theorem fold_step (g : Gr) (l : List Op) (i : Nat) (hi : i < l.length) : (l.take (i + 1)).foldl Gr.apply g = ((l.take i).foldl Gr.apply g).apply l[i]! := by
  rw [List.take_succ_eq_append_getElem hi, List.foldl_append, getElem!_pos l i hi]; rfl

/-! ### sorted -/
theorem risesO_at {l : List Op} (h : RisesO l) {i j : Nat} (hij : i < j) (hj : j < l.length) : ltSt l[i]!.stamp l[j]!.stamp := by
  have := List.pairwise_iff_getElem.1 h i j (by omega) hj hij
  rw [getElem!_pos l i (by omega), getElem!_pos l j hj]; exact this
theorem place_le (l : List Op) (o : Op) : placeOf l o ≤ l.length := by
  unfold placeOf
  split
  · exact (List.takeWhile_sublist _).length_le
  · exact Nat.zero_le _
/-! ### the same operations in any order -/
/-! ### the place -/
theorem takeWhile_take {α : Type} (p : α → Bool) : ∀ (l : List α), l.take (l.takeWhile p).length = l.takeWhile p ∧ l.drop (l.takeWhile p).length = l.dropWhile p
  | [] => ⟨rfl, rfl⟩
  | a :: l => by
    obtain ⟨h1, h2⟩ := takeWhile_take p l
    rw [List.takeWhile_cons, List.dropWhile_cons]
    split
    · exact ⟨by rw [List.length_cons, List.take_succ_cons, h1], by rw [List.length_cons, List.drop_succ_cons, h2]⟩
    · exact ⟨rfl, rfl⟩
theorem place_may {l : List Op} {o : Op} (hm : opMay o = true) : placeOf l o = (l.takeWhile fun a => decide (ltSt a.stamp o.stamp)).length := by unfold placeOf; rw [if_pos hm]
theorem place_low {l : List Op} {o : Op} (hm : opMay o = true) {i : Nat} (hi : i < placeOf l o) (hl : i < l.length) : ltSt l[i]!.stamp o.stamp := by
  rw [place_may hm] at hi
  have h1 := takeWhile_all (fun a : Op => decide (ltSt a.stamp o.stamp)) l ((l.takeWhile fun a => decide (ltSt a.stamp o.stamp))[i]) (List.getElem_mem hi)
  have h2 : (l.takeWhile fun a => decide (ltSt a.stamp o.stamp))[i] = l[i] := by
    have := (takeWhile_take (fun a : Op => decide (ltSt a.stamp o.stamp)) l).1
    have h3 : (l.takeWhile fun a => decide (ltSt a.stamp o.stamp))[i]? = l[i]? := by
      rw [← this, List.getElem?_take, if_pos hi]
    rw [List.getElem?_eq_getElem hi, List.getElem?_eq_getElem hl] at h3
    simpa using h3
  rw [h2] at h1
  rw [getElem!_pos l i hl]
  simpa using h1
theorem place_high {l : List Op} (h : RisesO l) {o : Op} (hm : opMay o = true) {i : Nat} (hi : placeOf l o ≤ i) (hl : i < l.length) : ¬ ltSt l[i]!.stamp o.stamp := by
  rw [place_may hm] at hi
  refine dropWhile_rises strictSt o.stamp h _ ?_
  rw [← (takeWhile_take (fun a : Op => decide (ltSt a.stamp o.stamp)) l).2, getElem!_pos l i hl]
  have h3 : (l.drop (l.takeWhile fun a => decide (ltSt a.stamp o.stamp)).length)[i - (l.takeWhile fun a => decide (ltSt a.stamp o.stamp)).length]? = l[i]? := by
    rw [List.getElem?_drop]; congr 1; omega
  rw [List.getElem?_eq_getElem hl] at h3
  exact List.mem_of_getElem? h3
theorem put_hit {l : List Op} (h : RisesO l) {o : Op} (hm : opMay o = true) : putB l o = !(decide (placeOf l o < l.length) && decide (l[placeOf l o]!.stamp = o.stamp)) := by
  rw [Bool.eq_iff_iff, putB_iff]
  simp only [hm, true_and, Bool.not_eq_true', Bool.and_eq_false_iff, decide_eq_false_iff_not]
  constructor
  · intro ha
    by_cases hl : placeOf l o < l.length
    · right
      rw [getElem!_pos l _ hl]
      exact ha _ (List.getElem_mem hl)
    · exact .inl hl
  · intro hh a ha he
    obtain ⟨i, hi, rfl⟩ := List.mem_iff_getElem.1 ha
    rw [← getElem!_pos l i hi] at he
    have h1 : ¬ i < placeOf l o := fun hlt => strictSt.irrefl _ (he ▸ place_low hm hlt hi)
    have h2 : ¬ placeOf l o < i := fun hlt => by
      have := risesO_at h hlt hi
      rw [he] at this
      exact place_high h hm (Nat.le_refl _) (by omega) this
    have e : i = placeOf l o := by omega
    rw [e] at he hi
    rcases hh with h3 | h3
    · exact h3 hi
    · exact h3 he
theorem put_is {l : List Op} {o : Op} (hb : putB l o = true) : putOp l o = l.take (placeOf l o) ++ o :: l.drop (placeOf l o) := by
  unfold putOp putIn
  rw [if_pos hb, place_may (putB_iff.1 hb).1, (takeWhile_take _ l).1, (takeWhile_take _ l).2]
theorem put_not {l : List Op} {o : Op} (hb : putB l o = false) : putOp l o = l := by unfold putOp; rw [hb]; rfl
end Go.Proofs.YtfbjiaedfmdcfaaGreatDoor

/-! ## SizeB -/
namespace Go.Proofs.YtfbjiaedfmdcfaaGreatDoor
end Go.Proofs.YtfbjiaedfmdcfaaGreatDoor

/-! ## FinePl -/
namespace Go.Proofs.YtfbjiaedfmdcfaaGreatDoor

section
variable {g : Gr}
end
end Go.Proofs.YtfbjiaedfmdcfaaGreatDoor

/-! ## Runes -/
namespace Go.Proofs.YtfbjiaedfmdcfaaGreatDoor

end Go.Proofs.YtfbjiaedfmdcfaaGreatDoor
