/-
  Operations put in order, and folded, plainly; no condition. · sort.Search, slices.Clone and slices.Insert at operations; fold.Put: condition: the operations rise by their stamps. · fold.Sort, fold.On, fold.Of, fold.Below; conditions: texts within reach, at most 1000 operations. · Slices cut off; no condition but the cut's place.
-/
import Derived.Test.YtlokljaeknmdpaaGreatKOps
import Derived.Test.YtlokljaeknmdpaaGreatKIns
import Derived.Test.YtlokljaeknmdpaaGreatKDeed
import Derived.Test.YtlokljaeknmdpaaGreatQOpM
import Derived.Deep.RegionHeld3
import Derived.Deep.LoopGhost
import Derived.Test.YtlokljaeknmdpaaGreatQApG
/-! ## FoldPl -/
namespace Go.Proofs.YtlokljaeknmdpaaGreat

abbrev RisesO (l : List Op) : Prop := RisesK Op.stamp ltSt l
/-- may it be put? -/
def putB (l : List Op) (o : Op) : Bool := opMay o && !(l.any fun a => decide (a.stamp = o.stamp))
def putOp (l : List Op) (o : Op) : List Op := if putB l o then putIn Op.stamp ltSt o l else l
def placeOf (l : List Op) (o : Op) : Nat := if opMay o then (l.takeWhile fun a => decide (ltSt a.stamp o.stamp)).length else 0
def sortOps (l : List Op) : List Op := l.foldl putOp []
noncomputable def onOps (g : Gr) (l : List Op) : Gr := (sortOps l).foldl Gr.apply g
def belowOps (l : List Op) (s : St) : Nat := (l.takeWhile fun a => !decide (ltSt s a.stamp)).length

theorem putB_iff {l : List Op} {o : Op} : putB l o = true ↔ opMay o = true ∧ ∀ a ∈ l, a.stamp ≠ o.stamp := by
  unfold putB
  simp
theorem putOp_rises {l : List Op} (h : RisesO l) (o : Op) : RisesO (putOp l o) := by
  unfold putOp
  split
  · rename_i hb
    exact putIn_rises strictSt h (putB_iff.1 hb).2
  · exact h
theorem mem_putOp {l : List Op} {o x : Op} : x ∈ putOp l o ↔ x ∈ l ∨ (x = o ∧ putB l o = true) := by
  unfold putOp
  split
  · rename_i hb
    rw [putIn_mem]
    constructor
    · rintro (h | h)
      · exact .inr ⟨h, hb⟩
      · exact .inl h
    · rintro (h | ⟨h, _⟩)
      · exact .inr h
      · exact .inl h
  · rename_i hb
    exact ⟨.inl, fun h => h.elim id fun h => absurd h.2 hb⟩
theorem putOp_may {l : List Op} (h : ∀ a ∈ l, opMay a = true) (o : Op) : ∀ a ∈ putOp l o, opMay a = true := by
  intro a ha
  rcases mem_putOp.1 ha with ha | ⟨rfl, hb⟩
  · exact h a ha
  · exact (putB_iff.1 hb).1
theorem putOp_len (l : List Op) (o : Op) : (putOp l o).length = l.length + if putB l o then 1 else 0 := by
  unfold putOp
  split
  · rw [putIn_len]
  · rfl
theorem sort_snoc (l : List Op) (o : Op) : sortOps (l ++ [o]) = putOp (sortOps l) o := by unfold sortOps; rw [List.foldl_append]; rfl
theorem sort_step (l : List Op) (i : Nat) (hi : i < l.length) : sortOps (l.take (i + 1)) = putOp (sortOps (l.take i)) l[i]! := by
  rw [List.take_succ_eq_append_getElem hi, sort_snoc, getElem!_pos l i hi]
theorem fold_putOp : ∀ (l s : List Op), RisesO s → (∀ a ∈ s, opMay a = true) → RisesO (l.foldl putOp s) ∧ (∀ a ∈ l.foldl putOp s, opMay a = true) ∧ (l.foldl putOp s).length ≤ s.length + l.length
  | [], s, h1, h2 => ⟨h1, h2, Nat.le_refl _⟩
  | o :: l, s, h1, h2 => by
    obtain ⟨a, b, c⟩ := fold_putOp l (putOp s o) (putOp_rises h1 o) (putOp_may h2 o)
    refine ⟨a, b, ?_⟩
    have := putOp_len s o
    simp only [List.foldl_cons, List.length_cons]
    split at this <;> omega
theorem sort_rises (l : List Op) : RisesO (sortOps l) := (fold_putOp l [] List.Pairwise.nil (by simp)).1
theorem sort_may (l : List Op) : ∀ a ∈ sortOps l, opMay a = true := (fold_putOp l [] List.Pairwise.nil (by simp)).2.1
theorem sort_len (l : List Op) : (sortOps l).length ≤ l.length := by
  have := (fold_putOp l [] List.Pairwise.nil (by simp)).2.2
  rw [List.length_nil, Nat.zero_add] at this
  exact this
theorem fold_mem_sub : ∀ (l s : List Op) (x : Op), x ∈ l.foldl putOp s → x ∈ s ∨ x ∈ l
  | [], s, x, h => .inl h
  | o :: l, s, x, h => by
    rcases fold_mem_sub l (putOp s o) x h with h | h
    · rcases mem_putOp.1 h with h | ⟨rfl, _⟩
      · exact .inl h
      · exact .inr List.mem_cons_self
    · exact .inr (List.mem_cons_of_mem _ h)
theorem sort_sub {l : List Op} {x : Op} (h : x ∈ sortOps l) : x ∈ l := by
  rcases fold_mem_sub l [] x h with h | h
  · cases h
  · exact h
/-- the same stamp, the same operation -/
def OneEach (l : List Op) : Prop := ∀ x ∈ l, ∀ y ∈ l, x.stamp = y.stamp → x = y
theorem fold_mem : ∀ (l s : List Op), OneEach (s ++ l) → ∀ x, x ∈ l.foldl putOp s ↔ x ∈ s ∨ (x ∈ l ∧ opMay x = true)
  | [], s, _, x => by simp
  | o :: l, s, h, x => by
    have hsub : ∀ y, y ∈ putOp s o ++ l → y ∈ s ++ o :: l := by
      intro y hy
      rcases List.mem_append.1 hy with hy | hy
      · rcases mem_putOp.1 hy with hy | ⟨rfl, _⟩
        · exact List.mem_append_left _ hy
        · exact List.mem_append_right _ List.mem_cons_self
      · exact List.mem_append_right _ (List.mem_cons_of_mem _ hy)
    have ih := fold_mem l (putOp s o) (fun a ha b hb e => h a (hsub a ha) b (hsub b hb) e) x
    rw [List.foldl_cons, ih, mem_putOp]
    constructor
    · rintro ((h1 | ⟨rfl, h1⟩) | ⟨h1, h2⟩)
      · exact .inl h1
      · exact .inr ⟨List.mem_cons_self, (putB_iff.1 h1).1⟩
      · exact .inr ⟨List.mem_cons_of_mem _ h1, h2⟩
    · rintro (h1 | ⟨h1, h2⟩)
      · exact .inl (.inl h1)
      · rcases List.mem_cons.1 h1 with rfl | h1
        · by_cases hs : x ∈ s
          · exact .inl (.inl hs)
          · refine .inl (.inr ⟨rfl, putB_iff.2 ⟨h2, fun a ha e => hs ?_⟩⟩)
            rw [← h a (List.mem_append_left _ ha) x (List.mem_append_right _ List.mem_cons_self) e]
            exact ha
        · exact .inr ⟨h1, h2⟩
theorem sort_mem {l : List Op} (h : OneEach l) (x : Op) : x ∈ sortOps l ↔ x ∈ l ∧ opMay x = true := by
  have := fold_mem l [] (by simpa using h) x
  unfold sortOps
  rw [this]; simp
theorem rises_same {l m : List Op} (hl : RisesO l) (hm : RisesO m) (h : ∀ x, x ∈ l ↔ x ∈ m) : l = m :=
  RisesK.eq strictSt hl hm ((List.perm_ext_iff_of_nodup (hl.nodup' strictSt) (hm.nodup' strictSt)).2 h)
theorem rises_one {l : List Op} (h : RisesO l) : OneEach l := fun _ hx _ hy e => RisesK.apart strictSt h hx hy e
theorem sort_sorted {l : List Op} (h : RisesO l) (hm : ∀ a ∈ l, opMay a = true) : sortOps l = l :=
  rises_same (sort_rises l) h fun x => by rw [sort_mem (rises_one h)]; exact ⟨And.left, fun hx => ⟨hx, hm x hx⟩⟩
theorem sort_sort (l : List Op) : sortOps (sortOps l) = sortOps l := sort_sorted (sort_rises l) (sort_may l)
theorem sort_part {l m : List Op} (h : m.Sublist (sortOps l)) : sortOps m = m := sort_sorted ((sort_rises l).sublist h) fun a ha => sort_may l a (h.subset ha)

/-! ### folding -/
theorem runs_ok : ∀ (l : List Op) {g : Gr}, g.Ok → (l.foldl Gr.apply g).Ok
  | [], _, h => h
  | o :: l, _, h => runs_ok l (h.apply o)
theorem runs_thin : ∀ (l : List Op) {g : Gr}, g.Thin → (l.foldl Gr.apply g).Thin
  | [], _, h => h
  | o :: l, _, h => runs_thin l (h.apply o)
theorem onOps_ok {g : Gr} (h : g.Ok) (l : List Op) : (onOps g l).Ok := runs_ok _ h
theorem onOps_thin {g : Gr} (h : g.Thin) (l : List Op) : (onOps g l).Thin := runs_thin _ h
noncomputable def ofOps (l : List Op) : Gr := ran (sortOps l)
theorem onOps_new (l : List Op) : onOps Gr.new l = ofOps l := rfl
theorem ofOps_ok (l : List Op) : (ofOps l).Ok := ran_ok _
theorem ofOps_thin (l : List Op) : (ofOps l).Thin := ran_thin _
theorem fold_step (g : Gr) (l : List Op) (i : Nat) (hi : i < l.length) : (l.take (i + 1)).foldl Gr.apply g = ((l.take i).foldl Gr.apply g).apply l[i]! := by
  rw [List.take_succ_eq_append_getElem hi, List.foldl_append, getElem!_pos l i hi]; rfl

theorem splits_law (l : List Op) (k : Nat) : onOps (ofOps ((sortOps l).take k)) ((sortOps l).drop k) = ofOps l := by
  unfold onOps ofOps
  rw [sort_part (List.take_sublist k _), sort_part (List.drop_sublist k _)]
  unfold ran
  rw [← List.foldl_append, List.take_append_drop]
theorem takeWhile_whole {α : Type} (p : α → Bool) : ∀ (l : List α), (l.takeWhile p).length = l.length → l.takeWhile p = l ∧ l.dropWhile p = []
  | [], _ => ⟨rfl, rfl⟩
  | a :: l, h => by
    rw [List.takeWhile_cons] at h ⊢
    rw [List.dropWhile_cons]
    split at h
    · rename_i ha
      obtain ⟨h1, h2⟩ := takeWhile_whole p l (by simpa using h)
      rw [if_pos ha, if_pos ha, h1, h2]
      exact ⟨rfl, rfl⟩
    · simp at h
theorem put_last {l : List Op} {o : Op} (hb : putB l o = true) (hp : placeOf l o = l.length) : putOp l o = l ++ [o] := by
  unfold placeOf at hp
  rw [if_pos (putB_iff.1 hb).1] at hp
  obtain ⟨h1, h2⟩ := takeWhile_whole _ l hp
  unfold putOp putIn
  rw [if_pos hb, h1, h2]
theorem next_law (l : List Op) {o : Op} (hb : putB (sortOps l) o = true) (hp : placeOf (sortOps l) o = (sortOps l).length) :
    ofOps (putOp (sortOps l) o) = (ofOps l).apply o ∧ (putOp (sortOps l) o).length = (sortOps l).length + 1 := by
  refine ⟨?_, by rw [putOp_len, if_pos hb]⟩
  unfold ofOps
  rw [sort_sorted (putOp_rises (sort_rises l) o) (putOp_may (sort_may l) o), put_last hb hp, ran_snoc]

/-- those that tell no error where they stand -/
noncomputable def doneOf : Gr → List Op → List Op
  | _, [] => []
  | g, o :: l => (if g.opWhy o = 0 then [o] else []) ++ doneOf (g.apply o) l
theorem done_fold : ∀ (l : List Op) (g : Gr), (doneOf g l).foldl Gr.apply g = l.foldl Gr.apply g
  | [], _ => rfl
  | o :: l, g => by
    unfold doneOf
    rw [List.foldl_append, List.foldl_cons]
    split
    · exact done_fold l (g.apply o)
    · rename_i hw
      have := done_fold l (g.apply o)
      rw [apply_err hw] at this ⊢
      exact this
theorem done_sub : ∀ (l : List Op) (g : Gr), (doneOf g l).Sublist l
  | [], _ => List.Sublist.refl _
  | o :: l, g => by
    unfold doneOf
    split
    · exact (done_sub l _).cons_cons o
    · exact (done_sub l _).cons o
theorem done_snoc : ∀ (l : List Op) (g : Gr) (o : Op), doneOf g (l ++ [o]) = doneOf g l ++ if (l.foldl Gr.apply g).opWhy o = 0 then [o] else []
  | [], g, o => by show (if g.opWhy o = 0 then [o] else []) ++ [] = [] ++ _; rw [List.append_nil, List.nil_append]; rfl
  | x :: l, g, o => by
    rw [List.cons_append]
    show (if g.opWhy x = 0 then [x] else []) ++ doneOf (g.apply x) (l ++ [o]) = ((if g.opWhy x = 0 then [x] else []) ++ doneOf (g.apply x) l) ++ _
    rw [done_snoc l (g.apply x) o, List.append_assoc]
    rfl
theorem done_step (l : List Op) (i : Nat) (hi : i < l.length) : doneOf Gr.new (l.take (i + 1)) = doneOf Gr.new (l.take i) ++ if (ran (l.take i)).opWhy l[i]! = 0 then [l[i]!] else [] := by
  rw [List.take_succ_eq_append_getElem hi, done_snoc, getElem!_pos l i hi]; rfl
theorem idle_law (l : List Op) : ofOps (doneOf Gr.new (sortOps l)) = ofOps l := by
  unfold ofOps
  rw [sort_part (done_sub _ _)]
  exact done_fold _ _

/-! ### sorted -/
theorem takeWhile_len {α : Type} [Inhabited α] (p : α → Bool) : ∀ (l : List α) (i : Nat), i ≤ l.length → (∀ j, j < i → p l[j]! = true) → (i < l.length → p l[i]! = false) → (l.takeWhile p).length = i
  | [], i, hi, _, _ => by simp at hi; simp [hi]
  | a :: l, 0, _, _, h2 => by
    have : p a = false := by simpa using h2 (by simp)
    rw [List.takeWhile_cons, this]; rfl
  | a :: l, i + 1, hi, h1, h2 => by
    have ha : p a = true := by simpa using h1 0 (by omega)
    rw [List.takeWhile_cons, ha]
    have := takeWhile_len p l i (by simpa using hi) (fun j hj => by simpa using h1 (j + 1) (by omega)) (fun hl => by simpa using h2 (by simpa using hl))
    simp only [if_true, List.length_cons, this]
theorem risesO_at {l : List Op} (h : RisesO l) {i j : Nat} (hij : i < j) (hj : j < l.length) : ltSt l[i]!.stamp l[j]!.stamp := by
  have := List.pairwise_iff_getElem.1 h i j (by omega) hj hij
  rw [getElem!_pos l i (by omega), getElem!_pos l j hj]; exact this
theorem below_at {l : List Op} (h : RisesO l) {i : Nat} (hi : i < l.length) : belowOps l l[i]!.stamp = i + 1 := by
  unfold belowOps
  refine takeWhile_len _ l (i + 1) hi (fun j hj => ?_) (fun hl => ?_)
  · rw [Bool.not_eq_true', decide_eq_false_iff_not]
    intro hlt
    by_cases e : j = i
    · rw [e] at hlt; exact strictSt.irrefl _ hlt
    · exact strictSt.asymm hlt (risesO_at h (show j < i by omega) hi)
  · rw [Bool.not_eq_false', decide_eq_true_eq]
    exact risesO_at h (Nat.lt_succ_self i) hl
theorem below_none {l : List Op} (h : ∀ a ∈ l, opMay a = true) : belowOps l ⟨0, 0⟩ = 0 := by
  unfold belowOps
  refine takeWhile_len _ l 0 (Nat.zero_le _) (fun j hj => absurd hj (Nat.not_lt_zero _)) (fun hl => ?_)
  rw [Bool.not_eq_false', decide_eq_true_eq]
  obtain ⟨h1, h2⟩ := opMay_stamp (h _ (show l[0]! ∈ l by rw [getElem!_pos l 0 hl]; exact List.getElem_mem hl))
  generalize l[0]!.stamp = s at *
  cases s with
  | mk t r =>
    have h3 : ¬ (t = 0 ∧ r = 0) := by rintro ⟨rfl, rfl⟩; exact h2 rfl
    have h1 : YtlokljaeknmdpaaGreat.mayB t r = true := h1
    unfold YtlokljaeknmdpaaGreat.mayB at h1
    simp only [Bool.or_eq_true, Bool.and_eq_true, decide_eq_true_eq] at h1
    show 0 < t ∨ (0 = t ∧ 0 < r)
    omega
theorem below_le (l : List Op) (s : St) : belowOps l s ≤ l.length := by
  unfold belowOps
  exact (List.takeWhile_sublist _).length_le
theorem place_le (l : List Op) (o : Op) : placeOf l o ≤ l.length := by
  unfold placeOf
  split
  · exact (List.takeWhile_sublist _).length_le
  · exact Nat.zero_le _
theorem put_at {l : List Op} {o : Op} (hb : putB l o = true) : placeOf l o < (putOp l o).length ∧ (putOp l o)[placeOf l o]! = o := by
  unfold placeOf
  rw [if_pos (putB_iff.1 hb).1]
  unfold putOp putIn
  rw [if_pos hb]
  generalize l.takeWhile _ = a
  generalize l.dropWhile _ = b
  have hlt : a.length < (a ++ o :: b).length := by simp
  refine ⟨hlt, ?_⟩
  rw [getElem!_pos (a ++ o :: b) a.length hlt, List.getElem_append_right (Nat.le_refl _)]
  simp

/-! ### the same operations in any order -/
def distFrom : List Op → List Op → List Op
  | _, [] => []
  | s, o :: l => (if s.all fun a => !decide (a.stamp = o.stamp) then [o] else []) ++ distFrom (s ++ [o]) l
def distinctOf (l : List Op) : List Op := distFrom [] l
theorem dist_snoc : ∀ (l s : List Op) (o : Op), distFrom s (l ++ [o]) = distFrom s l ++ if (s ++ l).all fun a => !decide (a.stamp = o.stamp) then [o] else []
  | [], s, o => by simp [distFrom]
  | x :: l, s, o => by
    show _ ++ distFrom (s ++ [x]) (l ++ [o]) = (_ ++ distFrom (s ++ [x]) l) ++ _
    rw [dist_snoc l (s ++ [x]) o, List.append_assoc, List.append_assoc]
    rfl
theorem dist_step (l : List Op) (i : Nat) (hi : i < l.length) : distinctOf (l.take (i + 1)) = distinctOf (l.take i) ++ if (l.take i).all fun a => !decide (a.stamp = l[i]!.stamp) then [l[i]!] else [] := by
  unfold distinctOf
  rw [List.take_succ_eq_append_getElem hi, dist_snoc, getElem!_pos l i hi, List.nil_append]
theorem dist_apart : ∀ (l s : List Op), ∀ x ∈ distFrom s l, ∀ a ∈ s, a.stamp ≠ x.stamp
  | [], s, x, hx, a, ha => by cases hx
  | o :: l, s, x, hx, a, ha => by
    unfold distFrom at hx
    rcases List.mem_append.1 hx with hx | hx
    · split at hx
      · rename_i hs
        rw [List.mem_singleton.1 hx]
        simpa using List.all_eq_true.1 hs a ha
      · cases hx
    · exact dist_apart l _ x hx a (List.mem_append_left _ ha)
theorem dist_one : ∀ (l s : List Op), OneEach (distFrom s l)
  | [], s => fun x hx => by cases hx
  | o :: l, s => by
    intro x hx y hy e
    have hd := dist_apart l (s ++ [o])
    unfold distFrom at hx hy
    rcases List.mem_append.1 hx with hx | hx <;> rcases List.mem_append.1 hy with hy | hy
    · split at hx
      · rw [List.mem_singleton.1 hx]
        rw [if_pos (by assumption)] at hy
        rw [List.mem_singleton.1 hy]
      · cases hx
    · split at hx
      · rw [List.mem_singleton.1 hx] at e
        exact absurd e (hd y hy o (by simp))
      · cases hx
    · split at hy
      · rw [List.mem_singleton.1 hy] at e
        exact absurd e.symm (hd x hx o (by simp))
      · cases hy
    · exact dist_one l _ x hx y hy e
theorem distinct_one (l : List Op) : OneEach (distinctOf l) := dist_one l []
theorem dist_len : ∀ (l s : List Op), (distFrom s l).length ≤ l.length
  | [], _ => Nat.le_refl _
  | o :: l, s => by
    unfold distFrom
    have := dist_len l (s ++ [o])
    split <;> simp <;> omega
theorem dist_sub : ∀ (l s : List Op), (distFrom s l).Sublist l
  | [], _ => List.Sublist.refl _
  | o :: l, s => by
    unfold distFrom
    split
    · exact (dist_sub l _).cons_cons o
    · exact (dist_sub l _).cons o
theorem same_sort {a b : List Op} (ha : OneEach a) (h : ∀ x, x ∈ b ↔ x ∈ a) : sortOps b = sortOps a := by
  have hb : OneEach b := fun x hx y hy e => ha x ((h x).1 hx) y ((h y).1 hy) e
  exact rises_same (sort_rises b) (sort_rises a) fun x => by rw [sort_mem hb, sort_mem ha, h]

/-! ### the place -/
theorem takeWhile_take {α : Type} (p : α → Bool) : ∀ (l : List α), l.take (l.takeWhile p).length = l.takeWhile p ∧ l.drop (l.takeWhile p).length = l.dropWhile p
  | [] => ⟨rfl, rfl⟩
  | a :: l => by
    obtain ⟨h1, h2⟩ := takeWhile_take p l
    rw [List.takeWhile_cons, List.dropWhile_cons]
    split
    · exact ⟨by rw [List.length_cons, List.take_succ_cons, h1], by rw [List.length_cons, List.drop_succ_cons, h2]⟩
    · exact ⟨rfl, rfl⟩
theorem place_may {l : List Op} {o : Op} (hm : opMay o = true) : placeOf l o = (l.takeWhile fun a => decide (ltSt a.stamp o.stamp)).length := by unfold placeOf; rw [if_pos hm]
theorem place_low {l : List Op} {o : Op} (hm : opMay o = true) {i : Nat} (hi : i < placeOf l o) (hl : i < l.length) : ltSt l[i]!.stamp o.stamp := by
  rw [place_may hm] at hi
  have h1 := takeWhile_all (fun a : Op => decide (ltSt a.stamp o.stamp)) l ((l.takeWhile fun a => decide (ltSt a.stamp o.stamp))[i]) (List.getElem_mem hi)
  have h2 : (l.takeWhile fun a => decide (ltSt a.stamp o.stamp))[i] = l[i] := by
    have := (takeWhile_take (fun a : Op => decide (ltSt a.stamp o.stamp)) l).1
    have h3 : (l.takeWhile fun a => decide (ltSt a.stamp o.stamp))[i]? = l[i]? := by
      rw [← this, List.getElem?_take, if_pos hi]
    rw [List.getElem?_eq_getElem hi, List.getElem?_eq_getElem hl] at h3
    simpa using h3
  rw [h2] at h1
  rw [getElem!_pos l i hl]
  simpa using h1
theorem place_high {l : List Op} (h : RisesO l) {o : Op} (hm : opMay o = true) {i : Nat} (hi : placeOf l o ≤ i) (hl : i < l.length) : ¬ ltSt l[i]!.stamp o.stamp := by
  rw [place_may hm] at hi
  refine dropWhile_rises strictSt o.stamp h _ ?_
  rw [← (takeWhile_take (fun a : Op => decide (ltSt a.stamp o.stamp)) l).2, getElem!_pos l i hl]
  have h3 : (l.drop (l.takeWhile fun a => decide (ltSt a.stamp o.stamp)).length)[i - (l.takeWhile fun a => decide (ltSt a.stamp o.stamp)).length]? = l[i]? := by
    rw [List.getElem?_drop]; congr 1; omega
  rw [List.getElem?_eq_getElem hl] at h3
  exact List.mem_of_getElem? h3
theorem put_hit {l : List Op} (h : RisesO l) {o : Op} (hm : opMay o = true) : putB l o = !(decide (placeOf l o < l.length) && decide (l[placeOf l o]!.stamp = o.stamp)) := by
  rw [Bool.eq_iff_iff, putB_iff]
  simp only [hm, true_and, Bool.not_eq_true', Bool.and_eq_false_iff, decide_eq_false_iff_not]
  constructor
  · intro ha
    by_cases hl : placeOf l o < l.length
    · right
      rw [getElem!_pos l _ hl]
      exact ha _ (List.getElem_mem hl)
    · exact .inl hl
  · intro hh a ha he
    obtain ⟨i, hi, rfl⟩ := List.mem_iff_getElem.1 ha
    rw [← getElem!_pos l i hi] at he
    have h1 : ¬ i < placeOf l o := fun hlt => strictSt.irrefl _ (he ▸ place_low hm hlt hi)
    have h2 : ¬ placeOf l o < i := fun hlt => by
      have := risesO_at h hlt hi
      rw [he] at this
      exact place_high h hm (Nat.le_refl _) (by omega) this
    have e : i = placeOf l o := by omega
    rw [e] at he hi
    rcases hh with h3 | h3
    · exact h3 hi
    · exact h3 he
theorem put_is {l : List Op} {o : Op} (hb : putB l o = true) : putOp l o = l.take (placeOf l o) ++ o :: l.drop (placeOf l o) := by
  unfold putOp putIn
  rw [if_pos hb, place_may (putB_iff.1 hb).1, (takeWhile_take _ l).1, (takeWhile_take _ l).2]
theorem put_not {l : List Op} {o : Op} (hb : putB l o = false) : putOp l o = l := by unfold putOp; rw [hb]; rfl
end Go.Proofs.YtlokljaeknmdpaaGreat

/-! ## Put -/
namespace Go.Proofs.YtlokljaeknmdpaaGreat
open Go.RowKit Go.Proofs

theorem grownBy_any {w w' : World} (h : w.grownBy w' none) (row : Option Nat) : w.grownBy w' row := ⟨h.os, h.tape, h.output, h.size, fun k hk _ => h.block k hk (by simp)⟩
theorem grownBy_below {B : Nat} {w w' : World} {row : Option Nat} (h : w.grownBy w' row) (hB : B ≤ w.heap.size) (hr : ∀ k, row = some k → B ≤ k) : Below B w w' :=
  ⟨h.os, h.tape, h.output, h.size, fun k hk => h.block k (by omega) (fun e => by have := hr k e.symm; omega)⟩

theorem insert_any (B : Nat) (v : Value) (i vb : Nat) (l : List Op) (o : Op) (w : World) (h : w.ownsRow B 47 13 v l.length (l.flatMap Op.cells)) (hB : B ≤ w.heap.size) (hl : l.length ≤ 1000) (hi : i ≤ l.length)
    (hvb : w.heap[vb]? = some (.cells o.cells.toArray 47 (0, 0))) (hne : v.ownBlock ≠ some vb) :
    Calls Tryz.prog 96 #[v, .int .i64 i, .slice (some ⟨vb, 0, none⟩) 1 1] w fun e w' =>
      ∃ v', e = .returned v' ∧ w'.ownsRow B 47 13 v' (l.length + 1) ((l.take i ++ o :: l.drop i).flatMap Op.cells) ∧ Below B w w' := by
  have hge : ∀ k, v.ownBlock = some k → B ≤ k := fun k e => rowGe h e
  by_cases hie : i = l.length
  · subst hie
    rw [List.take_length, List.drop_length]
    exact (insert_end B v vb l o w h hB hl hvb).mono fun e w' ⟨v', h1, h2, h3⟩ => ⟨v', h1, h2, grownBy_below h3 hB hge⟩
  · rcases h.2 with ⟨_, h0⟩ | ⟨g, cap, cur, rfl, hg, hh, h1, h2, h3, h4⟩
    · omega
    · have hvg : vb ≠ g := fun e => hne (by rw [e]; rfl)
      have hlen : ∀ (x : List Op), (x.flatMap Op.cells).length = x.length * 13 := fun x => flat_len (f := Op.cells) (k := 13) (fun _ => rfl) x
      have hll : (l.take i ++ o :: l.drop i).length = l.length + 1 := by simp; omega
      by_cases hroom : l.length + 1 ≤ cap
      · refine (insert_shift g cap l.length i vb cur l o w rfl (by omega) hroom h2 hh h3 h4 hvb hvg).mono ?_
        rintro e w' ⟨rfl, ⟨c2, k1, k2, k3⟩, k4⟩
        exact ⟨_, rfl, ⟨by rw [hlen, hll], .inr ⟨g, cap, c2, rfl, hg, k1, hroom, h2, by rw [k2, h3], k3⟩⟩, grownBy_below k4 hB fun k e => by cases e; exact hg⟩
      · refine (insert_grow g cap l.length i vb cur l o w rfl hl (by omega) h1 (by omega) hh h3 h4 hvb).mono ?_
        rintro e w' ⟨G, rfl, ⟨k0, k0'⟩, ⟨c2, k1, k2, k3⟩, k4⟩
        exact ⟨_, rfl, ⟨by rw [hlen, hll], .inr ⟨w.heap.size, G, c2, rfl, hB, k1, k0, k0', k2, k3⟩⟩, grownBy_below k4 hB fun k e => by cases e⟩

set_option maxRecDepth 100000 in
set_option maxHeartbeats 4000000 in
theorem clone_any (v : Value) (l : List Op) (w : World) (h : SlAt w 13 Op.cells v l) (hl : l.length ≤ 1000) :
    Calls Tryz.prog 97 #[v] w fun e w' => ∃ v', e = .returned v' ∧ w'.ownsRow w.heap.size 47 13 v' l.length (l.flatMap Op.cells) ∧ Below w.heap.size w w' := by
  obtain ⟨i0, hinf, hz0, hz1, hz2⟩ := info_parts infoOp
  have hlen : (l.flatMap Op.cells).length = l.length * 13 := flat_len (f := Op.cells) (k := 13) (fun _ => rfl) l
  have hone : ∀ v ∈ l.flatMap Op.cells, v.oneCell' = true := fun v hv => by
    obtain ⟨x, _, hx⟩ := List.mem_flatMap.1 hv
    exact Op.one x v hx
  have hsrc : ∀ a c, v = .slice (some a) l.length c → ∀ (W : World), (∀ x y, w.cell? x = some y → W.cell? x = some y) → ∀ j u, (l.flatMap Op.cells)[j]? = some u → W.cell? (a.add j) = some u := fun a c hv W hW j u hj => by
    rcases h with ⟨_, _, _, h0⟩ | ⟨b, off, c', h0, _, _, _, h4⟩
    · rw [h0] at hj; simp at hj
    · rw [hv] at h0
      simp at h0
      obtain ⟨rfl, _⟩ := h0
      rw [Addr.add_lit]
      have hjl : j < l.length * 13 := by rw [← hlen]; exact (List.getElem?_eq_some_iff.1 hj).1
      have hq : j / 13 < l.length := by omega
      have := hW _ _ (h4 (j / 13) hq (j % 13) u (by
        have e := flatMap_at Op.cells 13 (fun _ => rfl) l (j / 13) (j % 13) hq (by omega)
        rw [show j / 13 * 13 + j % 13 = j by omega] at e
        rw [← e]; exact hj))
      rw [← this]
      congr 2; omega
  obtain ⟨a, c, rfl⟩ := h.len
  have hnone : a = none → l = [] := fun e => by
    rcases h with ⟨_, _, _, h0⟩ | ⟨b, off, c', h0, _⟩
    · exact h0
    · rw [e] at h0; simp at h0
  clear h
  have q22 : ∀ (w : World) (a : Option Addr) (n c n' c' : Nat), (binOp .eql 40 (.slice a n c) (.slice none n' c')).run Tryz.prog w = .ok (.bool a.isNone) w := fun w a n c n' c' => Lib.run_eql_slice_nil w _ _ a n c n' c' Tryz.underlying40
  cases a with
  | none =>
    obtain rfl := hnone rfl
    go_enter Tryz.func97, Tryz.ntmps97
    go_wp2
    go_ret
    exact ⟨_, rfl, World.ownsRow_nil _ _ _ _, Below.refl _ _⟩
  | some a =>
    have hs := Lib.hid (hsrc a c rfl)
    clear hsrc hnone
    generalize l.flatMap Op.cells = L at *
    generalize l.length = n at *
    go_enter Tryz.func97, Tryz.ntmps97
    go_wp2_with (at_builtin; refine wpList_append_own _ rfl _ _ 40 rfl w.heap.size 47 i0 _ 13 128 Tryz.underlying40 hinf hz0 hz1 hz2 rfl (by decide) _ _ _ rfl (World.ownsRow_made w #[] 0 (Nat.le_refl _) (Nat.zero_le _) (by simp)) a n c L rfl ?qc1 ?qc2 ?qc3 ?qc4 ?qc5 ?qc6 ?_)
    case qc1 => exact hlen
    case qc2 => exact hs.out _ fun x y hx => Lib.cell?_alloc_some _ hx
    case qc3 => exact hone
    case qc4 => rw [Nat.zero_add]; simp only [maxLen]; omega
    case qc5 => rw [Nat.zero_add]; omega
    case qc6 => simp
    intro v' w1 hown hgrow _
    go_wp2
    go_ret
    exact ⟨v', rfl, by simpa using hown, ((Below.refl _ w).alloc (Nat.le_refl _) _).grown hgrow (by simp) (by intro k hk; simp [Value.ownBlock] at hk; omega)⟩

set_option maxRecDepth 100000 in
set_option maxHeartbeats 4000000 in
theorem search_any (g : Nat) (cb : Array Value) (n k : Nat) (p : Nat → Bool) (w : World) (eg : ∀ args w, (callFunc g args).run Tryz.prog w = .ok (.enter g args) w) (hn : n ≤ 1000) (hk : k ≤ n)
    (hf : ∀ W i, i < n → Below w.heap.size w W → Calls Tryz.prog g (#[.int .i64 i] ++ cb) W fun e w' => e = .returned (.bool (p i)) ∧ Below W.heap.size W w') (h1 : ∀ i, i < k → p i = false) (h2 : ∀ i, k ≤ i → i < n → p i = true) :
    Calls Tryz.prog 94 #[.int .i64 n, .func (.func g) #[] cb] w fun e w' => e = .returned (.int .i64 k) ∧ Below w.heap.size w w' := by
  have HF := Lib.hid hf
  have H1 := Lib.hid h1
  have H2 := Lib.hid h2
  clear hf h1 h2
  go_enter Tryz.func94, Tryz.ntmps94
  go_wp2
  go_loopg [5, 6] n (fun kx s5 s6 wr => ∃ lo hi : Nat, s5 = .int .i64 lo ∧ s6 = .int .i64 hi ∧ lo ≤ k ∧ k ≤ hi ∧ hi ≤ n ∧ hi - lo ≤ kx ∧ Aside (Below w.heap.size w wr))
  case atStart => exact ⟨0, n, rfl, rfl, Nat.zero_le _, hk, Nat.le_refl _, by omega, (show Aside _ from Below.refl _ _)⟩
  case round =>
    obtain ⟨lo, hi, rfl, rfl, hlk, hkh, hhn, hg, hB⟩ := hrel
    by_cases hlt : lo < hi
    · have hc := HF.out wr ((lo + hi) / 2) (by omega) hB.out
      rw [show (((lo + hi) / 2 : Nat) : Int) = ((lo : Int) + (hi : Int)) / 2 by omega] at hc
      by_cases hm : (lo + hi) / 2 < k
      · rw [H1.out _ hm] at hc
        have HC := Lib.hid hc
        clear hc
        go_wp2_with (go_at_fn g; refine HC.out.mono ?_; rintro e w' ⟨rfl, hb⟩; have HB := Lib.hid hb; clear hb)
        go_roundg (hi - ((lo + hi) / 2 + 1))
        case measure => omega
        case rel => exact ⟨(lo + hi) / 2 + 1, hi, by rw [show ((lo : Int) + (hi : Int)) / 2 + 1 = (((lo + hi) / 2 + 1 : Nat) : Int) by omega], rfl, by omega, hkh, hhn, Nat.le_refl _, (show Aside _ from hB.out.trans (HB.out.mono hB.out.size))⟩
      · rw [H2.out _ (by omega) (by omega)] at hc
        have HC := Lib.hid hc
        clear hc
        go_wp2_with (go_at_fn g; refine HC.out.mono ?_; rintro e w' ⟨rfl, hb⟩; have HB := Lib.hid hb; clear hb)
        go_roundg ((lo + hi) / 2 - lo)
        case measure => omega
        case rel => exact ⟨lo, (lo + hi) / 2, rfl, by rw [show ((lo : Int) + (hi : Int)) / 2 = (((lo + hi) / 2 : Nat) : Int) by omega], hlk, by omega, by omega, Nat.le_refl _, (show Aside _ from hB.out.trans (HB.out.mono hB.out.size))⟩
    · obtain rfl : lo = k := by omega
      obtain rfl : hi = lo := by omega
      go_wp2
      go_ret
      exact ⟨rfl, hB.out⟩

theorem cmpSt_geq {a b : St} : decide (cmpSt a.t a.r b.t b.r ≥ 0) = !decide (ltSt a b) := by
  by_cases h : ltSt a b
  · rw [decide_eq_true h]
    have := cmpSt_lt.2 h
    simp only [Bool.not_true, decide_eq_false_iff_not]; omega
  · rw [decide_eq_false h]
    have : ¬ cmpSt a.t a.r b.t b.r < 0 := fun h' => h (cmpSt_lt.1 h')
    simp only [Bool.not_false, decide_eq_true_eq]; omega

set_option maxRecDepth 100000 in
set_option maxHeartbeats 4000000 in
theorem place_fn (bl bo : Nat) (v : Value) (l : List Op) (o : Op) (i : Nat) (w : World) (hi : i < l.length) (hl : w.cell? ⟨bl, 0, none⟩ = some v) (hv : SlAt w 13 Op.cells v l)
    (ho0 : w.cell? ⟨bo, 0, none⟩ = some (.int .i64 o.stamp.t)) (ho1 : w.cell? ⟨bo, 1, none⟩ = some (.int .i64 o.stamp.r)) :
    Calls Tryz.prog 95 (#[.int .i64 i] ++ #[.pointer (some ⟨bl, 0, none⟩), .pointer (some ⟨bo, 0, none⟩)]) w fun e w' => e = .returned (.bool (!decide (ltSt l[i]!.stamp o.stamp))) ∧ Below w.heap.size w w' := by
  have hc := cmpSt_geq (a := l[i]!.stamp) (b := o.stamp)
  obtain ⟨a, c, rfl⟩ := hv.len
  obtain ⟨bb, off, rfl, hbl, hcells⟩ := slAt_at hv hi
  have hb0 := hcells i hi 0 _ rfl
  have hb1 := hcells i hi 1 _ rfl
  rw [Nat.add_zero] at hb0
  have hi0 : (0 : Int) ≤ (i : Int) := by omega
  have hil : (i : Int) < (l.length : Int) := by omega
  rw [← hc]
  clear hc hcells hv
  generalize l[i]!.stamp = s at hb0 hb1 ⊢
  obtain ⟨st, sr⟩ := s
  obtain ⟨⟨ot, or_⟩, _⟩ := o
  simp only at *
  have HB0 : Hid (Below w.heap.size w w) := Lib.hid (Below.refl _ _)
  have HCM : Hid (∀ W, Calls Tryz.prog 59 #[.agg #[.int .i64 st, .int .i64 sr], .agg #[.int .i64 ot, .int .i64 or_]] W fun e w' => e = .returned (.int .i64 (cmpSt st sr ot or_)) ∧ Below W.heap.size W w') := Lib.hid fun W => (stCompare_any st sr ot or_ W).mono fun e w' h => ⟨h.1, h.2.below⟩
  have hbl' := World.block_lt_of_cell? _ _ hl
  have hbo := World.block_lt_of_cell? _ _ ho0
  have HS : Hid (∀ W, Below w.heap.size w W → W.cell? ⟨bl, 0, none⟩ = some (.slice (some ⟨bb, off, none⟩) l.length c) ∧ W.cell? ⟨bo, 0, none⟩ = some (.int .i64 ot) ∧ W.cell? ⟨bo, 1, none⟩ = some (.int .i64 or_) ∧ W.cell? ⟨bb, off + i * 13, none⟩ = some (.int .i64 st) ∧ W.cell? ⟨bb, off + i * 13 + 1, none⟩ = some (.int .i64 sr)) := Lib.hid fun W hW =>
    ⟨(hW.cell (p := ⟨bl, 0, none⟩) hbl').trans hl, (hW.cell (p := ⟨bo, 0, none⟩) hbo).trans ho0, (hW.cell (p := ⟨bo, 1, none⟩) hbo).trans ho1, (hW.cell (p := ⟨bb, _, none⟩) hbl).trans hb0, (hW.cell (p := ⟨bb, _, none⟩) hbl).trans hb1⟩
  go_enter Tryz.func95, Tryz.ntmps95
  go_wp2_with fail
  go_region_held3 (fun W : World => W.cell? ⟨bl, 0, none⟩ = some (.slice (some ⟨bb, off, none⟩) l.length c) ∧ W.cell? ⟨bo, 0, none⟩ = some (.int .i64 ot) ∧ W.cell? ⟨bo, 1, none⟩ = some (.int .i64 or_) ∧ W.cell? ⟨bb, off + i * 13, none⟩ = some (.int .i64 st) ∧ W.cell? ⟨bb, off + i * 13 + 1, none⟩ = some (.int .i64 sr)) (first | exact HS.out _ (by first | exact HB1.out | exact HB1.out.alloc HB1.out.size _ | exact (HB1.out.alloc HB1.out.size _).alloc (le_al HB1.out.size) _ | exact ((HB1.out.alloc HB1.out.size _).alloc (le_al HB1.out.size) _).alloc (le_al (le_al HB1.out.size)) _ | exact HB1.out.drew | exact (HB1.out.alloc HB1.out.size _).drew | exact ((HB1.out.alloc HB1.out.size _).alloc (le_al HB1.out.size) _).drew | exact HB0.out | exact HB0.out.alloc HB0.out.size _ | exact (HB0.out.alloc HB0.out.size _).alloc (le_al HB0.out.size) _ | exact ((HB0.out.alloc HB0.out.size _).alloc (le_al HB0.out.size) _).alloc (le_al (le_al HB0.out.size)) _ | exact HB0.out.drew | exact (HB0.out.alloc HB0.out.size _).drew | exact ((HB0.out.alloc HB0.out.size _).alloc (le_al HB0.out.size) _).drew) | go_keep) (first
    | (go_at_call 59; (with_reducible refine (HCM.out _).mono ?_); rintro e w1 ⟨rfl, hb1⟩; obtain ⟨hc1, hf1⟩ := bcell hb1; have hs1 := hb1.size; (try simp only [size_drew] at hs1); (try simp only [World.size_alloc] at hs1); (try simp only [size_setCell'] at hs1); (try have le1_0 : w.heap.size ≤ w1.heap.size := (by omega)); (try have lt1_0 : w.heap.size < w1.heap.size := (by omega)); have HB1 : Hid (Below w.heap.size w w1) := Lib.hid (Below.trans (by first | exact HB0.out | exact HB0.out.alloc HB0.out.size _ | exact (HB0.out.alloc HB0.out.size _).alloc (le_al HB0.out.size) _ | exact ((HB0.out.alloc HB0.out.size _).alloc (le_al HB0.out.size) _).alloc (le_al (le_al HB0.out.size)) _ | exact HB0.out.drew | exact (HB0.out.alloc HB0.out.size _).drew | exact ((HB0.out.alloc HB0.out.size _).alloc (le_al HB0.out.size) _).drew) (hb1.mono (by (try simp only [size_drew]); (try simp only [World.size_alloc]); (try simp only [size_setCell']); omega))); have HN1 := Lib.hid hb1; clear hb1 hs1))
  go_wp2
  go_ret
  exact ⟨rfl, (by first | exact HB1.out | exact HB1.out.alloc HB1.out.size _ | exact (HB1.out.alloc HB1.out.size _).alloc (le_al HB1.out.size) _ | exact ((HB1.out.alloc HB1.out.size _).alloc (le_al HB1.out.size) _).alloc (le_al (le_al HB1.out.size)) _ | exact HB1.out.drew | exact (HB1.out.alloc HB1.out.size _).drew | exact ((HB1.out.alloc HB1.out.size _).alloc (le_al HB1.out.size) _).drew)⟩

set_option maxRecDepth 100000 in
set_option maxHeartbeats 8000000 in
theorem put_any (v : Value) (l : List Op) (o : Op) (w : World) (h : SlAt w 13 Op.cells v l) (hr : RisesO l) (hl : l.length ≤ 1000) (hs : o.Small) :
    Calls Tryz.prog 37 #[v, o.v] w fun e w' => ∃ v', e = .returned (.tuple #[v', .int .i64 (placeOf l o), .bool (putB l o)]) ∧ (putB l o = false → v' = v) ∧
      (putB l o = true → w'.ownsRow w.heap.size 47 13 v' (putOp l o).length ((putOp l o).flatMap Op.cells)) ∧ Below w.heap.size w w' := by
  have hv := h
  obtain ⟨a, c, rfl⟩ := h.len
  clear h
  obtain ⟨W0, hW0⟩ : ∃ W0, W0 = (w.alloc (.cells #[.slice a l.length c] 40)).alloc (.cells #[.int .i64 o.stamp.t, .int .i64 o.stamp.r, .int .i64 o.kind, .int .i64 o.at_.t, .int .i64 o.at_.r, .int .i64 o.ino.t, .int .i64 o.ino.r, .int .i64 o.to.t, .int .i64 o.to.r, .string o.name, .string o.new, .int .i64 o.off, .string o.data] 47) := ⟨_, rfl⟩
  have hw0 : Below w.heap.size w W0 := by rw [hW0]; exact ((Below.refl _ _).alloc (Nat.le_refl _) _).alloc (by simp) _
  have hz0 : W0.heap.size = w.heap.size + 2 := by rw [hW0]; simp
  have HW : Hid (Below w.heap.size w W0 ∧ W0.heap.size = w.heap.size + 2) := Lib.hid ⟨hw0, hz0⟩
  have hz : w.heap.size < W0.heap.size := by omega
  have hz' : w.heap.size + 1 < W0.heap.size := by omega
  have HB0 : Hid (Below W0.heap.size W0 W0) := Lib.hid (Below.refl _ _)
  have HJ : Hid (∀ W, Below W0.heap.size W0 W → (W.cell? ⟨w.heap.size, 0, none⟩ = some (.slice a l.length c) ∧ W.cell? ⟨w.heap.size + 1, 0, none⟩ = some (.int .i64 o.stamp.t) ∧ W.cell? ⟨w.heap.size + 1, 1, none⟩ = some (.int .i64 o.stamp.r) ∧ W.cell? ⟨w.heap.size + 1, 2, none⟩ = some (.int .i64 o.kind) ∧ W.cell? ⟨w.heap.size + 1, 3, none⟩ = some (.int .i64 o.at_.t) ∧ W.cell? ⟨w.heap.size + 1, 4, none⟩ = some (.int .i64 o.at_.r) ∧ W.cell? ⟨w.heap.size + 1, 5, none⟩ = some (.int .i64 o.ino.t) ∧ W.cell? ⟨w.heap.size + 1, 6, none⟩ = some (.int .i64 o.ino.r) ∧ W.cell? ⟨w.heap.size + 1, 7, none⟩ = some (.int .i64 o.to.t) ∧ W.cell? ⟨w.heap.size + 1, 8, none⟩ = some (.int .i64 o.to.r) ∧ W.cell? ⟨w.heap.size + 1, 9, none⟩ = some (.string o.name) ∧ W.cell? ⟨w.heap.size + 1, 10, none⟩ = some (.string o.new) ∧ W.cell? ⟨w.heap.size + 1, 11, none⟩ = some (.int .i64 o.off) ∧ W.cell? ⟨w.heap.size + 1, 12, none⟩ = some (.string o.data)) ∧ SlAt W 13 Op.cells (.slice a l.length c) l) := Lib.hid fun W hW =>
    ⟨⟨(hW.cell (p := ⟨w.heap.size, 0, none⟩) hz).trans (by rw [hW0, World.cell?_alloc_past _ _ _ (by simp)]; exact cell_new _ _ rfl _ _ 0 _ rfl), (hW.cell (p := ⟨w.heap.size + 1, 0, none⟩) (by rw [hW0]; simp)).trans (by rw [hW0]; exact cell_new _ _ (by simp) _ _ 0 _ rfl), (hW.cell (p := ⟨w.heap.size + 1, 1, none⟩) (by rw [hW0]; simp)).trans (by rw [hW0]; exact cell_new _ _ (by simp) _ _ 1 _ rfl), (hW.cell (p := ⟨w.heap.size + 1, 2, none⟩) (by rw [hW0]; simp)).trans (by rw [hW0]; exact cell_new _ _ (by simp) _ _ 2 _ rfl), (hW.cell (p := ⟨w.heap.size + 1, 3, none⟩) (by rw [hW0]; simp)).trans (by rw [hW0]; exact cell_new _ _ (by simp) _ _ 3 _ rfl), (hW.cell (p := ⟨w.heap.size + 1, 4, none⟩) (by rw [hW0]; simp)).trans (by rw [hW0]; exact cell_new _ _ (by simp) _ _ 4 _ rfl), (hW.cell (p := ⟨w.heap.size + 1, 5, none⟩) (by rw [hW0]; simp)).trans (by rw [hW0]; exact cell_new _ _ (by simp) _ _ 5 _ rfl), (hW.cell (p := ⟨w.heap.size + 1, 6, none⟩) (by rw [hW0]; simp)).trans (by rw [hW0]; exact cell_new _ _ (by simp) _ _ 6 _ rfl), (hW.cell (p := ⟨w.heap.size + 1, 7, none⟩) (by rw [hW0]; simp)).trans (by rw [hW0]; exact cell_new _ _ (by simp) _ _ 7 _ rfl), (hW.cell (p := ⟨w.heap.size + 1, 8, none⟩) (by rw [hW0]; simp)).trans (by rw [hW0]; exact cell_new _ _ (by simp) _ _ 8 _ rfl), (hW.cell (p := ⟨w.heap.size + 1, 9, none⟩) (by rw [hW0]; simp)).trans (by rw [hW0]; exact cell_new _ _ (by simp) _ _ 9 _ rfl), (hW.cell (p := ⟨w.heap.size + 1, 10, none⟩) (by rw [hW0]; simp)).trans (by rw [hW0]; exact cell_new _ _ (by simp) _ _ 10 _ rfl), (hW.cell (p := ⟨w.heap.size + 1, 11, none⟩) (by rw [hW0]; simp)).trans (by rw [hW0]; exact cell_new _ _ (by simp) _ _ 11 _ rfl), (hW.cell (p := ⟨w.heap.size + 1, 12, none⟩) (by rw [hW0]; simp)).trans (by rw [hW0]; exact cell_new _ _ (by simp) _ _ 12 _ rfl)⟩, (hv.below hw0).below hW⟩
  have HM := Lib.hid (fun W => opMay_any o W hs)
  unfold Op.v at HM ⊢
  cases hm : opMay o with
  | false =>
    rw [hm] at HM
    have e1 : placeOf l o = 0 := by unfold placeOf; rw [hm]; rfl
    have e2 : putB l o = false := by unfold putB; rw [hm]; rfl
    rw [e1, e2]
    clear e1 e2 hm hr hl hs hv
    go_enter Tryz.func37, Tryz.ntmps37
    go_wp2_with fail
    rw [← hW0]
    clear hW0
    obtain ⟨⟨_, _, _, _, _, _, _, _, _, _, _, _, _, _⟩, _⟩ := HJ.out W0 HB0.out
    go_wp2_with fail
    refine (HM.out _).mono ?_
    rintro e w1 ⟨rfl, hb1⟩
    obtain ⟨hc1, hf1⟩ := bcell hb1
    have hs1 := hb1.size
    try simp only [size_drew] at hs1
    try simp only [World.size_alloc] at hs1
    try simp only [size_setCell'] at hs1
    try have le1_0 : W0.heap.size ≤ w1.heap.size := (by omega)
    try have lt1_0 : W0.heap.size < w1.heap.size := (by omega)
    have HB1 : Hid (Below W0.heap.size W0 w1) := Lib.hid (Below.trans (by first | exact HB0.out | exact HB0.out.alloc HB0.out.size _ | exact (HB0.out.alloc HB0.out.size _).alloc (le_al HB0.out.size) _ | exact ((HB0.out.alloc HB0.out.size _).alloc (le_al HB0.out.size) _).alloc (le_al (le_al HB0.out.size)) _ | exact HB0.out.drew | exact (HB0.out.alloc HB0.out.size _).drew | exact ((HB0.out.alloc HB0.out.size _).alloc (le_al HB0.out.size) _).drew) (hb1.mono (by (try simp only [size_drew]); (try simp only [World.size_alloc]); (try simp only [size_setCell']); omega)))
    have HN1 := Lib.hid hb1
    clear hb1 hs1
    go_wp2
    go_ret3
    exact ⟨_, rfl, fun _ => rfl, (fun e => by cases e), HW.out.1.trans ((show Below W0.heap.size W0 _ from (by first | exact HB1.out | exact HB1.out.alloc HB1.out.size _ | exact (HB1.out.alloc HB1.out.size _).alloc (le_al HB1.out.size) _ | exact ((HB1.out.alloc HB1.out.size _).alloc (le_al HB1.out.size) _).alloc (le_al (le_al HB1.out.size)) _ | exact HB1.out.drew | exact (HB1.out.alloc HB1.out.size _).drew | exact ((HB1.out.alloc HB1.out.size _).alloc (le_al HB1.out.size) _).drew)).mono HW.out.1.size)⟩
  | true =>
    rw [hm] at HM
    have HSE : Hid (∀ W, Below W0.heap.size W0 W → Calls Tryz.prog 94 #[.int .i64 l.length, .func (.func 95) #[] #[.pointer (some ⟨w.heap.size, 0, none⟩), .pointer (some ⟨w.heap.size + 1, 0, none⟩)]] W fun e w' => e = .returned (.int .i64 (placeOf l o)) ∧ Below W.heap.size W w') := Lib.hid fun W hW =>
      search_any 95 #[.pointer (some ⟨w.heap.size, 0, none⟩), .pointer (some ⟨w.heap.size + 1, 0, none⟩)] l.length (placeOf l o) (fun i => !decide (ltSt l[i]!.stamp o.stamp)) W (enters_of Tryz.func95 (by kernel_rfl) rfl) hl (place_le l o)
        (fun V i hi hV => by
          have hJ := HJ.out V (hW.trans (hV.mono hW.size))
          exact place_fn w.heap.size (w.heap.size + 1) _ l o i V hi hJ.1.1 hJ.2 hJ.1.2.1 hJ.1.2.2.1)
        (fun i hi => by have := place_low hm hi (by have := place_le l o; omega); show (!decide (ltSt l[i]!.stamp o.stamp)) = false; rw [decide_eq_true this]; rfl) (fun i hi hil => by have := place_high hr hm hi hil; show (!decide (ltSt l[i]!.stamp o.stamp)) = true; rw [decide_eq_false this]; rfl)
    have hhit := put_hit hr (o := o) hm
    have hple := place_le l o
    have HPI : Hid (putB l o = true → putOp l o = l.take (placeOf l o) ++ o :: l.drop (placeOf l o)) := Lib.hid put_is
    have HHV : Hid (SlAt w 13 Op.cells (.slice a l.length c) l) := Lib.hid hv
    have HL : Hid (l.length ≤ 1000 ∧ placeOf l o ≤ l.length) := Lib.hid ⟨hl, hple⟩
    have HC : Hid (∀ W, Below W0.heap.size W0 W → Calls Tryz.prog 97 #[.slice a l.length c] W fun e w' => ∃ v', e = .returned v' ∧ w'.ownsRow W.heap.size 47 13 v' l.length (l.flatMap Op.cells) ∧ Below W.heap.size W w') := Lib.hid fun W hW => clone_any _ l W (HJ.out W hW).2 hl
    have HI : Hid (∀ (W W4 : World) (vb : Nat) (v4 : Value) (B4 : Nat), W4.ownsRow B4 47 13 v4 l.length (l.flatMap Op.cells) → w.heap.size ≤ B4 → B4 ≤ W.heap.size → (∀ j, B4 ≤ j → j < W4.heap.size → W.heap[j]? = W4.heap[j]?) →
        W.heap[vb]? = some (.cells o.cells.toArray 47 (0, 0)) → (vb < B4 ∨ W4.heap.size ≤ vb) →
        Calls Tryz.prog 96 #[v4, .int .i64 (placeOf l o), .slice (some ⟨vb, 0, none⟩) 1 1] W fun e w' => ∃ v', e = .returned v' ∧ (putB l o = true → w'.ownsRow w.heap.size 47 13 v' (putOp l o).length ((putOp l o).flatMap Op.cells)) ∧ Below B4 W w') := Lib.hid fun W W4 vb v4 B4 h1 h2 h3 h4 h5 h6 =>
      (insert_any B4 v4 (placeOf l o) vb l o W (ownsRow_keep h1 h4) h3 hl hple h5 (fun e => by
        have g1 := rowGe h1 e
        rcases h1.2 with ⟨rfl, _⟩ | ⟨g, cap, cur, rfl, _, hh, _⟩
        · cases e
        · have e' : g = vb := by simpa [Value.ownBlock] using e
          subst e'
          have := (Array.getElem?_eq_some_iff.1 hh).1
          rcases h6 with h6 | h6 <;> omega)).mono fun e w' ⟨v', k1, k2, k3⟩ => ⟨v', k1, fun hb => by
            have e1 := put_is hb
            have e2 := putOp_len l o
            rw [hb] at e2
            simp only [if_true] at e2
            rw [e2, e1]
            exact ownsRow_mono k2 h2, k3⟩
    have HX : Hid (∀ W : World, (W.alloc (.cells #[.int .i64 o.stamp.t, .int .i64 o.stamp.r, .int .i64 o.kind, .int .i64 o.at_.t, .int .i64 o.at_.r, .int .i64 o.ino.t, .int .i64 o.ino.r, .int .i64 o.to.t, .int .i64 o.to.r, .string o.name, .string o.new, .int .i64 o.off, .string o.data] 47)).heap[W.heap.size]? = some (.cells o.cells.toArray 47 (0, 0))) := Lib.hid fun W => by rw [World.alloc_heap_new]; rfl
    clear hv hr hs hm
    generalize placeOf l o = k at *
    by_cases hk : k < l.length
    · have hk0 : (0 : Int) ≤ (k : Int) := by omega
      have hkl : (k : Int) < (l.length : Int) := by omega
      have hkd : decide ((k : Int) < (l.length : Int)) = true := decide_eq_true hkl
      have hhit' : putB l o = !(decide (l[k]!.stamp = o.stamp)) := by rw [hhit, decide_eq_true hk, Bool.true_and]
      have HEQ : ∀ w, (binOp .eql 31 (.agg #[.int .i64 l[k]!.stamp.t, .int .i64 l[k]!.stamp.r]) (.agg #[.int .i64 o.stamp.t, .int .i64 o.stamp.r])).run Tryz.prog w = .ok (.bool (decide (l[k]!.stamp = o.stamp))) w := eql_st _ _
      obtain ⟨bb, off, rfl, hbl, hcells⟩ := slAt_at HHV.out hk
      have hc0 := hcells k hk 0 _ rfl
      have hc1 := hcells k hk 1 _ rfl
      rw [Nat.add_zero] at hc0
      have HK : Hid (∀ W, Below W0.heap.size W0 W → W.cell? ⟨bb, off + k * 13, none⟩ = some (.int .i64 l[k]!.stamp.t) ∧ W.cell? ⟨bb, off + k * 13 + 1, none⟩ = some (.int .i64 l[k]!.stamp.r)) := Lib.hid fun W hW =>
        have hb := HW.out.1.trans (hW.mono HW.out.1.size)
        ⟨(hb.cell (p := ⟨bb, _, none⟩) hbl).trans hc0, (hb.cell (p := ⟨bb, _, none⟩) hbl).trans hc1⟩
      clear hcells hc0 hc1
      by_cases he : l[k]!.stamp = o.stamp
      · rw [decide_eq_true he] at HEQ hhit'
        rw [hhit']
        clear hhit hhit' HPI he hk
        generalize l[k]!.stamp = s at *
        go_enter Tryz.func37, Tryz.ntmps37
        go_wp2_with fail
        rw [← hW0]
        clear hW0
        obtain ⟨⟨_, _, _, _, _, _, _, _, _, _, _, _, _, _⟩, _⟩ := HJ.out W0 HB0.out
        go_wp2_with fail
        refine (HM.out _).mono ?_
        rintro e w1 ⟨rfl, hb1⟩
        obtain ⟨hc1, hf1⟩ := bcell hb1
        have hs1 := hb1.size
        try simp only [size_drew] at hs1
        try simp only [World.size_alloc] at hs1
        try simp only [size_setCell'] at hs1
        try have le1_0 : W0.heap.size ≤ w1.heap.size := (by omega)
        try have lt1_0 : W0.heap.size < w1.heap.size := (by omega)
        have HB1 : Hid (Below W0.heap.size W0 w1) := Lib.hid (Below.trans (by first | exact HB0.out | exact HB0.out.alloc HB0.out.size _ | exact (HB0.out.alloc HB0.out.size _).alloc (le_al HB0.out.size) _ | exact ((HB0.out.alloc HB0.out.size _).alloc (le_al HB0.out.size) _).alloc (le_al (le_al HB0.out.size)) _ | exact HB0.out.drew | exact (HB0.out.alloc HB0.out.size _).drew | exact ((HB0.out.alloc HB0.out.size _).alloc (le_al HB0.out.size) _).drew) (hb1.mono (by (try simp only [size_drew]); (try simp only [World.size_alloc]); (try simp only [size_setCell']); omega)))
        have HN1 := Lib.hid hb1
        clear hb1 hs1
        have HV1 := Lib.hid (HJ.out _ HB1.out)
        obtain ⟨⟨_, _, _, _, _, _, _, _, _, _, _, _, _, _⟩, _⟩ := HV1.out
        go_wp2_with fail
        refine (HSE.out _ (by first | exact HB1.out | exact HB1.out.alloc HB1.out.size _ | exact (HB1.out.alloc HB1.out.size _).alloc (le_al HB1.out.size) _ | exact ((HB1.out.alloc HB1.out.size _).alloc (le_al HB1.out.size) _).alloc (le_al (le_al HB1.out.size)) _ | exact HB1.out.drew | exact (HB1.out.alloc HB1.out.size _).drew | exact ((HB1.out.alloc HB1.out.size _).alloc (le_al HB1.out.size) _).drew | exact HB0.out | exact HB0.out.alloc HB0.out.size _ | exact (HB0.out.alloc HB0.out.size _).alloc (le_al HB0.out.size) _ | exact ((HB0.out.alloc HB0.out.size _).alloc (le_al HB0.out.size) _).alloc (le_al (le_al HB0.out.size)) _ | exact HB0.out.drew | exact (HB0.out.alloc HB0.out.size _).drew | exact ((HB0.out.alloc HB0.out.size _).alloc (le_al HB0.out.size) _).drew)).mono ?_
        rintro e w2 ⟨rfl, hb2⟩
        obtain ⟨hc2, hf2⟩ := bcell hb2
        have hs2 := hb2.size
        try simp only [size_drew] at hs2
        try simp only [World.size_alloc] at hs2
        try simp only [size_setCell'] at hs2
        try have le2_0 : W0.heap.size ≤ w2.heap.size := (by omega)
        try have lt2_0 : W0.heap.size < w2.heap.size := (by omega)
        try have le2_1 : w1.heap.size ≤ w2.heap.size := (by omega)
        try have lt2_1 : w1.heap.size < w2.heap.size := (by omega)
        have HB2 : Hid (Below W0.heap.size W0 w2) := Lib.hid (Below.trans (by first | exact HB1.out | exact HB1.out.alloc HB1.out.size _ | exact (HB1.out.alloc HB1.out.size _).alloc (le_al HB1.out.size) _ | exact ((HB1.out.alloc HB1.out.size _).alloc (le_al HB1.out.size) _).alloc (le_al (le_al HB1.out.size)) _ | exact HB1.out.drew | exact (HB1.out.alloc HB1.out.size _).drew | exact ((HB1.out.alloc HB1.out.size _).alloc (le_al HB1.out.size) _).drew | exact HB0.out | exact HB0.out.alloc HB0.out.size _ | exact (HB0.out.alloc HB0.out.size _).alloc (le_al HB0.out.size) _ | exact ((HB0.out.alloc HB0.out.size _).alloc (le_al HB0.out.size) _).alloc (le_al (le_al HB0.out.size)) _ | exact HB0.out.drew | exact (HB0.out.alloc HB0.out.size _).drew | exact ((HB0.out.alloc HB0.out.size _).alloc (le_al HB0.out.size) _).drew) (hb2.mono (by (try simp only [size_drew]); (try simp only [World.size_alloc]); (try simp only [size_setCell']); omega)))
        have HN2 := Lib.hid hb2
        clear hb2 hs2
        have HV2 := Lib.hid (HJ.out _ HB2.out)
        obtain ⟨⟨_, _, _, _, _, _, _, _, _, _, _, _, _, _⟩, _⟩ := HV2.out
        obtain ⟨_, _⟩ := HK.out _ HB2.out
        go_wp2_with fail
        go_quiet (fail)
        go_wp2
        go_ret3
        exact ⟨_, rfl, fun _ => rfl, (fun e => by cases e), HW.out.1.trans (Below.mono (show Below W0.heap.size W0 (w2.drewN nq) from HB2.out.trans ⟨rfl, rfl, rfl, Nat.le_refl _, fun _ _ => rfl⟩) HW.out.1.size)⟩
      · rw [decide_eq_false he] at HEQ hhit'
        rw [hhit']
        have HPB : Hid (putB l o = true) := Lib.hid (by rw [hhit']; rfl)
        clear hhit hhit' he hk HPI
        generalize l[k]!.stamp = s at *
        go_enter Tryz.func37, Tryz.ntmps37
        go_wp2_with fail
        rw [← hW0]
        clear hW0
        obtain ⟨⟨_, _, _, _, _, _, _, _, _, _, _, _, _, _⟩, _⟩ := HJ.out W0 HB0.out
        go_wp2_with fail
        refine (HM.out _).mono ?_
        rintro e w1 ⟨rfl, hb1⟩
        obtain ⟨hc1, hf1⟩ := bcell hb1
        have hs1 := hb1.size
        try simp only [size_drew] at hs1
        try simp only [World.size_alloc] at hs1
        try simp only [size_setCell'] at hs1
        try have le1_0 : W0.heap.size ≤ w1.heap.size := (by omega)
        try have lt1_0 : W0.heap.size < w1.heap.size := (by omega)
        have HB1 : Hid (Below W0.heap.size W0 w1) := Lib.hid (Below.trans (by first | exact HB0.out | exact HB0.out.alloc HB0.out.size _ | exact (HB0.out.alloc HB0.out.size _).alloc (le_al HB0.out.size) _ | exact ((HB0.out.alloc HB0.out.size _).alloc (le_al HB0.out.size) _).alloc (le_al (le_al HB0.out.size)) _ | exact HB0.out.drew | exact (HB0.out.alloc HB0.out.size _).drew | exact ((HB0.out.alloc HB0.out.size _).alloc (le_al HB0.out.size) _).drew) (hb1.mono (by (try simp only [size_drew]); (try simp only [World.size_alloc]); (try simp only [size_setCell']); omega)))
        have HN1 := Lib.hid hb1
        clear hb1 hs1
        have HV1 := Lib.hid (HJ.out _ HB1.out)
        obtain ⟨⟨_, _, _, _, _, _, _, _, _, _, _, _, _, _⟩, _⟩ := HV1.out
        go_wp2_with fail
        refine (HSE.out _ (by first | exact HB1.out | exact HB1.out.alloc HB1.out.size _ | exact (HB1.out.alloc HB1.out.size _).alloc (le_al HB1.out.size) _ | exact ((HB1.out.alloc HB1.out.size _).alloc (le_al HB1.out.size) _).alloc (le_al (le_al HB1.out.size)) _ | exact HB1.out.drew | exact (HB1.out.alloc HB1.out.size _).drew | exact ((HB1.out.alloc HB1.out.size _).alloc (le_al HB1.out.size) _).drew | exact HB0.out | exact HB0.out.alloc HB0.out.size _ | exact (HB0.out.alloc HB0.out.size _).alloc (le_al HB0.out.size) _ | exact ((HB0.out.alloc HB0.out.size _).alloc (le_al HB0.out.size) _).alloc (le_al (le_al HB0.out.size)) _ | exact HB0.out.drew | exact (HB0.out.alloc HB0.out.size _).drew | exact ((HB0.out.alloc HB0.out.size _).alloc (le_al HB0.out.size) _).drew)).mono ?_
        rintro e w2 ⟨rfl, hb2⟩
        obtain ⟨hc2, hf2⟩ := bcell hb2
        have hs2 := hb2.size
        try simp only [size_drew] at hs2
        try simp only [World.size_alloc] at hs2
        try simp only [size_setCell'] at hs2
        try have le2_0 : W0.heap.size ≤ w2.heap.size := (by omega)
        try have lt2_0 : W0.heap.size < w2.heap.size := (by omega)
        try have le2_1 : w1.heap.size ≤ w2.heap.size := (by omega)
        try have lt2_1 : w1.heap.size < w2.heap.size := (by omega)
        have HB2 : Hid (Below W0.heap.size W0 w2) := Lib.hid (Below.trans (by first | exact HB1.out | exact HB1.out.alloc HB1.out.size _ | exact (HB1.out.alloc HB1.out.size _).alloc (le_al HB1.out.size) _ | exact ((HB1.out.alloc HB1.out.size _).alloc (le_al HB1.out.size) _).alloc (le_al (le_al HB1.out.size)) _ | exact HB1.out.drew | exact (HB1.out.alloc HB1.out.size _).drew | exact ((HB1.out.alloc HB1.out.size _).alloc (le_al HB1.out.size) _).drew | exact HB0.out | exact HB0.out.alloc HB0.out.size _ | exact (HB0.out.alloc HB0.out.size _).alloc (le_al HB0.out.size) _ | exact ((HB0.out.alloc HB0.out.size _).alloc (le_al HB0.out.size) _).alloc (le_al (le_al HB0.out.size)) _ | exact HB0.out.drew | exact (HB0.out.alloc HB0.out.size _).drew | exact ((HB0.out.alloc HB0.out.size _).alloc (le_al HB0.out.size) _).drew) (hb2.mono (by (try simp only [size_drew]); (try simp only [World.size_alloc]); (try simp only [size_setCell']); omega)))
        have HN2 := Lib.hid hb2
        clear hb2 hs2
        have HV2 := Lib.hid (HJ.out _ HB2.out)
        obtain ⟨⟨_, _, _, _, _, _, _, _, _, _, _, _, _, _⟩, _⟩ := HV2.out
        obtain ⟨_, _⟩ := HK.out _ HB2.out
        go_wp2_with fail
        go_quiet (fail)
        go_wp2_with fail
        obtain ⟨w3, hw3⟩ : ∃ w3, w3 = w2.drewN nq := ⟨_, rfl⟩
        rw [← hw3]
        have HB3 : Hid (Below W0.heap.size W0 w3) := Lib.hid (by rw [hw3]; exact HB2.out.trans ⟨rfl, rfl, rfl, Nat.le_refl _, fun _ _ => rfl⟩)
        have le3_0 : W0.heap.size ≤ w3.heap.size := HB3.out.size
        clear hw3
        obtain ⟨⟨_, _, _, _, _, _, _, _, _, _, _, _, _, _⟩, _⟩ := HJ.out w3 HB3.out
        have HIA : Hid (∀ (w4 : World) (B4 : Nat) (v4 : Value), w4.ownsRow B4 47 13 v4 l.length (l.flatMap Op.cells) → Below W0.heap.size W0 w4 → w3.heap.size ≤ B4 → B4 ≤ w4.heap.size → Calls Tryz.prog 96 #[v4, .int .i64 k, .slice (some ⟨w4.heap.size, 0, none⟩) 1 1] (w4.alloc (.cells #[.int .i64 o.stamp.t, .int .i64 o.stamp.r, .int .i64 o.kind, .int .i64 o.at_.t, .int .i64 o.at_.r, .int .i64 o.ino.t, .int .i64 o.ino.r, .int .i64 o.to.t, .int .i64 o.to.r, .string o.name, .string o.new, .int .i64 o.off, .string o.data] 47)) (fun e w' => ∃ v', e = .returned v' ∧ (putB l o = true → w'.ownsRow w.heap.size 47 13 v' (putOp l o).length ((putOp l o).flatMap Op.cells)) ∧ Below W0.heap.size W0 w')) := Lib.hid fun w4 B4 v4 h1 h2 h3 h4 =>
          (HI.out (w4.alloc (.cells #[.int .i64 o.stamp.t, .int .i64 o.stamp.r, .int .i64 o.kind, .int .i64 o.at_.t, .int .i64 o.at_.r, .int .i64 o.ino.t, .int .i64 o.ino.r, .int .i64 o.to.t, .int .i64 o.to.r, .string o.name, .string o.new, .int .i64 o.off, .string o.data] 47)) w4 w4.heap.size v4 B4 h1 (by have := HW.out.2; omega) (by simp only [World.size_alloc]; omega) (fun j _ hj => Below.heap_alloc _ _ j hj) (HX.out _) (.inr (Nat.le_refl _))).mono fun e w' ⟨v', k1, k2, k3⟩ => ⟨v', k1, k2, (h2.alloc h2.size _).trans (k3.mono (by omega))⟩
        have HIB : Hid (∀ (w4 : World) (B4 : Nat) (v4 : Value), w4.ownsRow B4 47 13 v4 l.length (l.flatMap Op.cells) → Below W0.heap.size W0 w4 → w3.heap.size < B4 → B4 ≤ w4.heap.size → w4.heap[w3.heap.size]? = some (.cells o.cells.toArray 47 (0, 0)) → Calls Tryz.prog 96 #[v4, .int .i64 k, .slice (some ⟨w3.heap.size, 0, none⟩) 1 1] w4 (fun e w' => ∃ v', e = .returned v' ∧ (putB l o = true → w'.ownsRow w.heap.size 47 13 v' (putOp l o).length ((putOp l o).flatMap Op.cells)) ∧ Below W0.heap.size W0 w')) := Lib.hid fun w4 B4 v4 h1 h2 h3 h4 h5 =>
          (HI.out w4 w4 w3.heap.size v4 B4 h1 (by have := HW.out.2; omega) h4 (fun j _ hj => rfl) h5 (.inl h3)).mono fun e w' ⟨v', k1, k2, k3⟩ => ⟨v', k1, k2, h2.trans (k3.mono (by omega))⟩
        have HXB : Hid (∀ (w4 V : World), V.heap = (w3.alloc (.cells #[.int .i64 o.stamp.t, .int .i64 o.stamp.r, .int .i64 o.kind, .int .i64 o.at_.t, .int .i64 o.at_.r, .int .i64 o.ino.t, .int .i64 o.ino.r, .int .i64 o.to.t, .int .i64 o.to.r, .string o.name, .string o.new, .int .i64 o.off, .string o.data] 47)).heap → Below V.heap.size V w4 → w4.heap[w3.heap.size]? = some (.cells o.cells.toArray 47 (0, 0))) := Lib.hid fun w4 V h1 h2 => (h2.block _ (by rw [h1]; simp)).trans (by rw [h1]; exact HX.out w3)
        go_region_held3 (fun W : World => W.cell? ⟨w.heap.size, 0, none⟩ = some (.slice (some ⟨bb, off, none⟩) l.length c) ∧ W.cell? ⟨w.heap.size + 1, 0, none⟩ = some (.int .i64 o.stamp.t) ∧ W.cell? ⟨w.heap.size + 1, 1, none⟩ = some (.int .i64 o.stamp.r) ∧ W.cell? ⟨w.heap.size + 1, 2, none⟩ = some (.int .i64 o.kind) ∧ W.cell? ⟨w.heap.size + 1, 3, none⟩ = some (.int .i64 o.at_.t) ∧ W.cell? ⟨w.heap.size + 1, 4, none⟩ = some (.int .i64 o.at_.r) ∧ W.cell? ⟨w.heap.size + 1, 5, none⟩ = some (.int .i64 o.ino.t) ∧ W.cell? ⟨w.heap.size + 1, 6, none⟩ = some (.int .i64 o.ino.r) ∧ W.cell? ⟨w.heap.size + 1, 7, none⟩ = some (.int .i64 o.to.t) ∧ W.cell? ⟨w.heap.size + 1, 8, none⟩ = some (.int .i64 o.to.r) ∧ W.cell? ⟨w.heap.size + 1, 9, none⟩ = some (.string o.name) ∧ W.cell? ⟨w.heap.size + 1, 10, none⟩ = some (.string o.new) ∧ W.cell? ⟨w.heap.size + 1, 11, none⟩ = some (.int .i64 o.off) ∧ W.cell? ⟨w.heap.size + 1, 12, none⟩ = some (.string o.data)) (first | exact (HJ.out _ (by first | exact HB5.out | exact HB5.out.alloc HB5.out.size _ | exact (HB5.out.alloc HB5.out.size _).alloc (le_al HB5.out.size) _ | exact ((HB5.out.alloc HB5.out.size _).alloc (le_al HB5.out.size) _).alloc (le_al (le_al HB5.out.size)) _ | exact HB5.out.drew | exact (HB5.out.alloc HB5.out.size _).drew | exact ((HB5.out.alloc HB5.out.size _).alloc (le_al HB5.out.size) _).drew | exact HB4.out | exact HB4.out.alloc HB4.out.size _ | exact (HB4.out.alloc HB4.out.size _).alloc (le_al HB4.out.size) _ | exact ((HB4.out.alloc HB4.out.size _).alloc (le_al HB4.out.size) _).alloc (le_al (le_al HB4.out.size)) _ | exact HB4.out.drew | exact (HB4.out.alloc HB4.out.size _).drew | exact ((HB4.out.alloc HB4.out.size _).alloc (le_al HB4.out.size) _).drew | exact HB3.out | exact HB3.out.alloc HB3.out.size _ | exact (HB3.out.alloc HB3.out.size _).alloc (le_al HB3.out.size) _ | exact ((HB3.out.alloc HB3.out.size _).alloc (le_al HB3.out.size) _).alloc (le_al (le_al HB3.out.size)) _ | exact HB3.out.drew | exact (HB3.out.alloc HB3.out.size _).drew | exact ((HB3.out.alloc HB3.out.size _).alloc (le_al HB3.out.size) _).drew)).1 | go_keep) (first
          | (go_at_call 97; (with_reducible refine (HC.out _ (by first | exact HB3.out | exact HB3.out.alloc HB3.out.size _ | exact (HB3.out.alloc HB3.out.size _).alloc (le_al HB3.out.size) _ | exact ((HB3.out.alloc HB3.out.size _).alloc (le_al HB3.out.size) _).alloc (le_al (le_al HB3.out.size)) _ | exact HB3.out.drew | exact (HB3.out.alloc HB3.out.size _).drew | exact ((HB3.out.alloc HB3.out.size _).alloc (le_al HB3.out.size) _).drew | exact HB2.out | exact HB2.out.alloc HB2.out.size _ | exact (HB2.out.alloc HB2.out.size _).alloc (le_al HB2.out.size) _ | exact ((HB2.out.alloc HB2.out.size _).alloc (le_al HB2.out.size) _).alloc (le_al (le_al HB2.out.size)) _ | exact HB2.out.drew | exact (HB2.out.alloc HB2.out.size _).drew | exact ((HB2.out.alloc HB2.out.size _).alloc (le_al HB2.out.size) _).drew | exact HB1.out | exact HB1.out.alloc HB1.out.size _ | exact (HB1.out.alloc HB1.out.size _).alloc (le_al HB1.out.size) _ | exact ((HB1.out.alloc HB1.out.size _).alloc (le_al HB1.out.size) _).alloc (le_al (le_al HB1.out.size)) _ | exact HB1.out.drew | exact (HB1.out.alloc HB1.out.size _).drew | exact ((HB1.out.alloc HB1.out.size _).alloc (le_al HB1.out.size) _).drew | exact HB0.out | exact HB0.out.alloc HB0.out.size _ | exact (HB0.out.alloc HB0.out.size _).alloc (le_al HB0.out.size) _ | exact ((HB0.out.alloc HB0.out.size _).alloc (le_al HB0.out.size) _).alloc (le_al (le_al HB0.out.size)) _ | exact HB0.out.drew | exact (HB0.out.alloc HB0.out.size _).drew | exact ((HB0.out.alloc HB0.out.size _).alloc (le_al HB0.out.size) _).drew)).mono ?_); rintro e w4 ⟨vc, rfl, hrow, hb4⟩; obtain ⟨hc4, hf4⟩ := bcell hb4; have hs4 := hb4.size; (try simp only [size_drew] at hs4); (try simp only [World.size_alloc] at hs4); (try simp only [size_setCell'] at hs4); (try have le4_0 : W0.heap.size ≤ w4.heap.size := (by omega)); (try have lt4_0 : W0.heap.size < w4.heap.size := (by omega)); (try have le4_1 : w1.heap.size ≤ w4.heap.size := (by omega)); (try have lt4_1 : w1.heap.size < w4.heap.size := (by omega)); (try have le4_2 : w2.heap.size ≤ w4.heap.size := (by omega)); (try have lt4_2 : w2.heap.size < w4.heap.size := (by omega)); (try have le4_3 : w3.heap.size ≤ w4.heap.size := (by omega)); (try have lt4_3 : w3.heap.size < w4.heap.size := (by omega)); have HB4 : Hid (Below W0.heap.size W0 w4) := Lib.hid (Below.trans (by first | exact HB3.out | exact HB3.out.alloc HB3.out.size _ | exact (HB3.out.alloc HB3.out.size _).alloc (le_al HB3.out.size) _ | exact ((HB3.out.alloc HB3.out.size _).alloc (le_al HB3.out.size) _).alloc (le_al (le_al HB3.out.size)) _ | exact HB3.out.drew | exact (HB3.out.alloc HB3.out.size _).drew | exact ((HB3.out.alloc HB3.out.size _).alloc (le_al HB3.out.size) _).drew | exact HB2.out | exact HB2.out.alloc HB2.out.size _ | exact (HB2.out.alloc HB2.out.size _).alloc (le_al HB2.out.size) _ | exact ((HB2.out.alloc HB2.out.size _).alloc (le_al HB2.out.size) _).alloc (le_al (le_al HB2.out.size)) _ | exact HB2.out.drew | exact (HB2.out.alloc HB2.out.size _).drew | exact ((HB2.out.alloc HB2.out.size _).alloc (le_al HB2.out.size) _).drew | exact HB1.out | exact HB1.out.alloc HB1.out.size _ | exact (HB1.out.alloc HB1.out.size _).alloc (le_al HB1.out.size) _ | exact ((HB1.out.alloc HB1.out.size _).alloc (le_al HB1.out.size) _).alloc (le_al (le_al HB1.out.size)) _ | exact HB1.out.drew | exact (HB1.out.alloc HB1.out.size _).drew | exact ((HB1.out.alloc HB1.out.size _).alloc (le_al HB1.out.size) _).drew | exact HB0.out | exact HB0.out.alloc HB0.out.size _ | exact (HB0.out.alloc HB0.out.size _).alloc (le_al HB0.out.size) _ | exact ((HB0.out.alloc HB0.out.size _).alloc (le_al HB0.out.size) _).alloc (le_al (le_al HB0.out.size)) _ | exact HB0.out.drew | exact (HB0.out.alloc HB0.out.size _).drew | exact ((HB0.out.alloc HB0.out.size _).alloc (le_al HB0.out.size) _).drew) (hb4.mono (by (try simp only [size_drew]); (try simp only [World.size_alloc]); (try simp only [size_setCell']); omega))); have HN4 := Lib.hid hb4; clear hb4 hs4; have HR4 := Lib.hid hrow; obtain ⟨ca, cn, cc, rfl⟩ := row_form hrow; clear hrow)
          | (go_at_call 96; have ha := HIA.out w4 w3.heap.size _ HR4.out HB4.out (Nat.le_refl _) HN4.out.size; with_reducible refine Calls.mono ha ?_; rintro e w5 ⟨v5, rfl, hrow5, hb5⟩; have HR5 := Lib.hid hrow5; have HB5 := Lib.hid hb5; clear hrow5 hb5 ha)
          | (go_at_call 96; have ha := HIB.out w4 _ _ HR4.out HB4.out (by simp) HN4.out.size (HXB.out w4 ((w3.alloc (.cells #[.int .i64 o.stamp.t, .int .i64 o.stamp.r, .int .i64 o.kind, .int .i64 o.at_.t, .int .i64 o.at_.r, .int .i64 o.ino.t, .int .i64 o.ino.r, .int .i64 o.to.t, .int .i64 o.to.r, .string o.name, .string o.new, .int .i64 o.off, .string o.data] 47)).drew) rfl HN4.out); with_reducible refine Calls.mono ha ?_; rintro e w5 ⟨v5, rfl, hrow5, hb5⟩; have HR5 := Lib.hid hrow5; have HB5 := Lib.hid hb5; clear hrow5 hb5 ha))
        all_goals go_wp2
        all_goals (go_ret3; exact ⟨_, rfl, (fun e => by cases e), (fun _ => HR5.out HPB.out), HW.out.1.trans (HB5.out.mono HW.out.1.size)⟩)
    · have hkd : decide ((k : Int) < (l.length : Int)) = false := decide_eq_false (by omega)
      have hkd2 : decide (k < l.length) = false := decide_eq_false hk
      have hhit' : putB l o = true := by rw [hhit, decide_eq_false hk]; rfl
      rw [hhit']
      have HPB : Hid (putB l o = true) := Lib.hid hhit'
      clear hhit hhit' hk HPI
      go_enter Tryz.func37, Tryz.ntmps37
      go_wp2_with fail
      rw [← hW0]
      clear hW0
      obtain ⟨⟨_, _, _, _, _, _, _, _, _, _, _, _, _, _⟩, _⟩ := HJ.out W0 HB0.out
      go_wp2_with fail
      refine (HM.out _).mono ?_
      rintro e w1 ⟨rfl, hb1⟩
      obtain ⟨hc1, hf1⟩ := bcell hb1
      have hs1 := hb1.size
      try simp only [size_drew] at hs1
      try simp only [World.size_alloc] at hs1
      try simp only [size_setCell'] at hs1
      try have le1_0 : W0.heap.size ≤ w1.heap.size := (by omega)
      try have lt1_0 : W0.heap.size < w1.heap.size := (by omega)
      have HB1 : Hid (Below W0.heap.size W0 w1) := Lib.hid (Below.trans (by first | exact HB0.out | exact HB0.out.alloc HB0.out.size _ | exact (HB0.out.alloc HB0.out.size _).alloc (le_al HB0.out.size) _ | exact ((HB0.out.alloc HB0.out.size _).alloc (le_al HB0.out.size) _).alloc (le_al (le_al HB0.out.size)) _ | exact HB0.out.drew | exact (HB0.out.alloc HB0.out.size _).drew | exact ((HB0.out.alloc HB0.out.size _).alloc (le_al HB0.out.size) _).drew) (hb1.mono (by (try simp only [size_drew]); (try simp only [World.size_alloc]); (try simp only [size_setCell']); omega)))
      have HN1 := Lib.hid hb1
      clear hb1 hs1
      have HV1 := Lib.hid (HJ.out _ HB1.out)
      obtain ⟨⟨_, _, _, _, _, _, _, _, _, _, _, _, _, _⟩, _⟩ := HV1.out
      go_wp2_with fail
      refine (HSE.out _ (by first | exact HB1.out | exact HB1.out.alloc HB1.out.size _ | exact (HB1.out.alloc HB1.out.size _).alloc (le_al HB1.out.size) _ | exact ((HB1.out.alloc HB1.out.size _).alloc (le_al HB1.out.size) _).alloc (le_al (le_al HB1.out.size)) _ | exact HB1.out.drew | exact (HB1.out.alloc HB1.out.size _).drew | exact ((HB1.out.alloc HB1.out.size _).alloc (le_al HB1.out.size) _).drew | exact HB0.out | exact HB0.out.alloc HB0.out.size _ | exact (HB0.out.alloc HB0.out.size _).alloc (le_al HB0.out.size) _ | exact ((HB0.out.alloc HB0.out.size _).alloc (le_al HB0.out.size) _).alloc (le_al (le_al HB0.out.size)) _ | exact HB0.out.drew | exact (HB0.out.alloc HB0.out.size _).drew | exact ((HB0.out.alloc HB0.out.size _).alloc (le_al HB0.out.size) _).drew)).mono ?_
      rintro e w2 ⟨rfl, hb2⟩
      obtain ⟨hc2, hf2⟩ := bcell hb2
      have hs2 := hb2.size
      try simp only [size_drew] at hs2
      try simp only [World.size_alloc] at hs2
      try simp only [size_setCell'] at hs2
      try have le2_0 : W0.heap.size ≤ w2.heap.size := (by omega)
      try have lt2_0 : W0.heap.size < w2.heap.size := (by omega)
      try have le2_1 : w1.heap.size ≤ w2.heap.size := (by omega)
      try have lt2_1 : w1.heap.size < w2.heap.size := (by omega)
      have HB2 : Hid (Below W0.heap.size W0 w2) := Lib.hid (Below.trans (by first | exact HB1.out | exact HB1.out.alloc HB1.out.size _ | exact (HB1.out.alloc HB1.out.size _).alloc (le_al HB1.out.size) _ | exact ((HB1.out.alloc HB1.out.size _).alloc (le_al HB1.out.size) _).alloc (le_al (le_al HB1.out.size)) _ | exact HB1.out.drew | exact (HB1.out.alloc HB1.out.size _).drew | exact ((HB1.out.alloc HB1.out.size _).alloc (le_al HB1.out.size) _).drew | exact HB0.out | exact HB0.out.alloc HB0.out.size _ | exact (HB0.out.alloc HB0.out.size _).alloc (le_al HB0.out.size) _ | exact ((HB0.out.alloc HB0.out.size _).alloc (le_al HB0.out.size) _).alloc (le_al (le_al HB0.out.size)) _ | exact HB0.out.drew | exact (HB0.out.alloc HB0.out.size _).drew | exact ((HB0.out.alloc HB0.out.size _).alloc (le_al HB0.out.size) _).drew) (hb2.mono (by (try simp only [size_drew]); (try simp only [World.size_alloc]); (try simp only [size_setCell']); omega)))
      have HN2 := Lib.hid hb2
      clear hb2 hs2
      have HV2 := Lib.hid (HJ.out _ HB2.out)
      obtain ⟨⟨_, _, _, _, _, _, _, _, _, _, _, _, _, _⟩, _⟩ := HV2.out
      go_wp2_with fail
      go_quiet (fail)
      go_wp2_with fail
      obtain ⟨w3, hw3⟩ : ∃ w3, w3 = w2.drewN nq := ⟨_, rfl⟩
      rw [← hw3]
      have HB3 : Hid (Below W0.heap.size W0 w3) := Lib.hid (by rw [hw3]; exact HB2.out.trans ⟨rfl, rfl, rfl, Nat.le_refl _, fun _ _ => rfl⟩)
      have le3_0 : W0.heap.size ≤ w3.heap.size := HB3.out.size
      clear hw3
      obtain ⟨⟨_, _, _, _, _, _, _, _, _, _, _, _, _, _⟩, _⟩ := HJ.out w3 HB3.out
      have HIA : Hid (∀ (w4 : World) (B4 : Nat) (v4 : Value), w4.ownsRow B4 47 13 v4 l.length (l.flatMap Op.cells) → Below W0.heap.size W0 w4 → w3.heap.size ≤ B4 → B4 ≤ w4.heap.size → Calls Tryz.prog 96 #[v4, .int .i64 k, .slice (some ⟨w4.heap.size, 0, none⟩) 1 1] (w4.alloc (.cells #[.int .i64 o.stamp.t, .int .i64 o.stamp.r, .int .i64 o.kind, .int .i64 o.at_.t, .int .i64 o.at_.r, .int .i64 o.ino.t, .int .i64 o.ino.r, .int .i64 o.to.t, .int .i64 o.to.r, .string o.name, .string o.new, .int .i64 o.off, .string o.data] 47)) (fun e w' => ∃ v', e = .returned v' ∧ (putB l o = true → w'.ownsRow w.heap.size 47 13 v' (putOp l o).length ((putOp l o).flatMap Op.cells)) ∧ Below W0.heap.size W0 w')) := Lib.hid fun w4 B4 v4 h1 h2 h3 h4 =>
        (HI.out (w4.alloc (.cells #[.int .i64 o.stamp.t, .int .i64 o.stamp.r, .int .i64 o.kind, .int .i64 o.at_.t, .int .i64 o.at_.r, .int .i64 o.ino.t, .int .i64 o.ino.r, .int .i64 o.to.t, .int .i64 o.to.r, .string o.name, .string o.new, .int .i64 o.off, .string o.data] 47)) w4 w4.heap.size v4 B4 h1 (by have := HW.out.2; omega) (by simp only [World.size_alloc]; omega) (fun j _ hj => Below.heap_alloc _ _ j hj) (HX.out _) (.inr (Nat.le_refl _))).mono fun e w' ⟨v', k1, k2, k3⟩ => ⟨v', k1, k2, (h2.alloc h2.size _).trans (k3.mono (by omega))⟩
      have HIB : Hid (∀ (w4 : World) (B4 : Nat) (v4 : Value), w4.ownsRow B4 47 13 v4 l.length (l.flatMap Op.cells) → Below W0.heap.size W0 w4 → w3.heap.size < B4 → B4 ≤ w4.heap.size → w4.heap[w3.heap.size]? = some (.cells o.cells.toArray 47 (0, 0)) → Calls Tryz.prog 96 #[v4, .int .i64 k, .slice (some ⟨w3.heap.size, 0, none⟩) 1 1] w4 (fun e w' => ∃ v', e = .returned v' ∧ (putB l o = true → w'.ownsRow w.heap.size 47 13 v' (putOp l o).length ((putOp l o).flatMap Op.cells)) ∧ Below W0.heap.size W0 w')) := Lib.hid fun w4 B4 v4 h1 h2 h3 h4 h5 =>
        (HI.out w4 w4 w3.heap.size v4 B4 h1 (by have := HW.out.2; omega) h4 (fun j _ hj => rfl) h5 (.inl h3)).mono fun e w' ⟨v', k1, k2, k3⟩ => ⟨v', k1, k2, h2.trans (k3.mono (by omega))⟩
      have HXB : Hid (∀ (w4 V : World), V.heap = (w3.alloc (.cells #[.int .i64 o.stamp.t, .int .i64 o.stamp.r, .int .i64 o.kind, .int .i64 o.at_.t, .int .i64 o.at_.r, .int .i64 o.ino.t, .int .i64 o.ino.r, .int .i64 o.to.t, .int .i64 o.to.r, .string o.name, .string o.new, .int .i64 o.off, .string o.data] 47)).heap → Below V.heap.size V w4 → w4.heap[w3.heap.size]? = some (.cells o.cells.toArray 47 (0, 0))) := Lib.hid fun w4 V h1 h2 => (h2.block _ (by rw [h1]; simp)).trans (by rw [h1]; exact HX.out w3)
      go_region_held3 (fun W : World => W.cell? ⟨w.heap.size, 0, none⟩ = some (.slice a l.length c) ∧ W.cell? ⟨w.heap.size + 1, 0, none⟩ = some (.int .i64 o.stamp.t) ∧ W.cell? ⟨w.heap.size + 1, 1, none⟩ = some (.int .i64 o.stamp.r) ∧ W.cell? ⟨w.heap.size + 1, 2, none⟩ = some (.int .i64 o.kind) ∧ W.cell? ⟨w.heap.size + 1, 3, none⟩ = some (.int .i64 o.at_.t) ∧ W.cell? ⟨w.heap.size + 1, 4, none⟩ = some (.int .i64 o.at_.r) ∧ W.cell? ⟨w.heap.size + 1, 5, none⟩ = some (.int .i64 o.ino.t) ∧ W.cell? ⟨w.heap.size + 1, 6, none⟩ = some (.int .i64 o.ino.r) ∧ W.cell? ⟨w.heap.size + 1, 7, none⟩ = some (.int .i64 o.to.t) ∧ W.cell? ⟨w.heap.size + 1, 8, none⟩ = some (.int .i64 o.to.r) ∧ W.cell? ⟨w.heap.size + 1, 9, none⟩ = some (.string o.name) ∧ W.cell? ⟨w.heap.size + 1, 10, none⟩ = some (.string o.new) ∧ W.cell? ⟨w.heap.size + 1, 11, none⟩ = some (.int .i64 o.off) ∧ W.cell? ⟨w.heap.size + 1, 12, none⟩ = some (.string o.data)) (first | exact (HJ.out _ (by first | exact HB5.out | exact HB5.out.alloc HB5.out.size _ | exact (HB5.out.alloc HB5.out.size _).alloc (le_al HB5.out.size) _ | exact ((HB5.out.alloc HB5.out.size _).alloc (le_al HB5.out.size) _).alloc (le_al (le_al HB5.out.size)) _ | exact HB5.out.drew | exact (HB5.out.alloc HB5.out.size _).drew | exact ((HB5.out.alloc HB5.out.size _).alloc (le_al HB5.out.size) _).drew | exact HB4.out | exact HB4.out.alloc HB4.out.size _ | exact (HB4.out.alloc HB4.out.size _).alloc (le_al HB4.out.size) _ | exact ((HB4.out.alloc HB4.out.size _).alloc (le_al HB4.out.size) _).alloc (le_al (le_al HB4.out.size)) _ | exact HB4.out.drew | exact (HB4.out.alloc HB4.out.size _).drew | exact ((HB4.out.alloc HB4.out.size _).alloc (le_al HB4.out.size) _).drew | exact HB3.out | exact HB3.out.alloc HB3.out.size _ | exact (HB3.out.alloc HB3.out.size _).alloc (le_al HB3.out.size) _ | exact ((HB3.out.alloc HB3.out.size _).alloc (le_al HB3.out.size) _).alloc (le_al (le_al HB3.out.size)) _ | exact HB3.out.drew | exact (HB3.out.alloc HB3.out.size _).drew | exact ((HB3.out.alloc HB3.out.size _).alloc (le_al HB3.out.size) _).drew)).1 | go_keep) (first
        | (go_at_call 97; (with_reducible refine (HC.out _ (by first | exact HB3.out | exact HB3.out.alloc HB3.out.size _ | exact (HB3.out.alloc HB3.out.size _).alloc (le_al HB3.out.size) _ | exact ((HB3.out.alloc HB3.out.size _).alloc (le_al HB3.out.size) _).alloc (le_al (le_al HB3.out.size)) _ | exact HB3.out.drew | exact (HB3.out.alloc HB3.out.size _).drew | exact ((HB3.out.alloc HB3.out.size _).alloc (le_al HB3.out.size) _).drew | exact HB2.out | exact HB2.out.alloc HB2.out.size _ | exact (HB2.out.alloc HB2.out.size _).alloc (le_al HB2.out.size) _ | exact ((HB2.out.alloc HB2.out.size _).alloc (le_al HB2.out.size) _).alloc (le_al (le_al HB2.out.size)) _ | exact HB2.out.drew | exact (HB2.out.alloc HB2.out.size _).drew | exact ((HB2.out.alloc HB2.out.size _).alloc (le_al HB2.out.size) _).drew | exact HB1.out | exact HB1.out.alloc HB1.out.size _ | exact (HB1.out.alloc HB1.out.size _).alloc (le_al HB1.out.size) _ | exact ((HB1.out.alloc HB1.out.size _).alloc (le_al HB1.out.size) _).alloc (le_al (le_al HB1.out.size)) _ | exact HB1.out.drew | exact (HB1.out.alloc HB1.out.size _).drew | exact ((HB1.out.alloc HB1.out.size _).alloc (le_al HB1.out.size) _).drew | exact HB0.out | exact HB0.out.alloc HB0.out.size _ | exact (HB0.out.alloc HB0.out.size _).alloc (le_al HB0.out.size) _ | exact ((HB0.out.alloc HB0.out.size _).alloc (le_al HB0.out.size) _).alloc (le_al (le_al HB0.out.size)) _ | exact HB0.out.drew | exact (HB0.out.alloc HB0.out.size _).drew | exact ((HB0.out.alloc HB0.out.size _).alloc (le_al HB0.out.size) _).drew)).mono ?_); rintro e w4 ⟨vc, rfl, hrow, hb4⟩; obtain ⟨hc4, hf4⟩ := bcell hb4; have hs4 := hb4.size; (try simp only [size_drew] at hs4); (try simp only [World.size_alloc] at hs4); (try simp only [size_setCell'] at hs4); (try have le4_0 : W0.heap.size ≤ w4.heap.size := (by omega)); (try have lt4_0 : W0.heap.size < w4.heap.size := (by omega)); (try have le4_1 : w1.heap.size ≤ w4.heap.size := (by omega)); (try have lt4_1 : w1.heap.size < w4.heap.size := (by omega)); (try have le4_2 : w2.heap.size ≤ w4.heap.size := (by omega)); (try have lt4_2 : w2.heap.size < w4.heap.size := (by omega)); (try have le4_3 : w3.heap.size ≤ w4.heap.size := (by omega)); (try have lt4_3 : w3.heap.size < w4.heap.size := (by omega)); have HB4 : Hid (Below W0.heap.size W0 w4) := Lib.hid (Below.trans (by first | exact HB3.out | exact HB3.out.alloc HB3.out.size _ | exact (HB3.out.alloc HB3.out.size _).alloc (le_al HB3.out.size) _ | exact ((HB3.out.alloc HB3.out.size _).alloc (le_al HB3.out.size) _).alloc (le_al (le_al HB3.out.size)) _ | exact HB3.out.drew | exact (HB3.out.alloc HB3.out.size _).drew | exact ((HB3.out.alloc HB3.out.size _).alloc (le_al HB3.out.size) _).drew | exact HB2.out | exact HB2.out.alloc HB2.out.size _ | exact (HB2.out.alloc HB2.out.size _).alloc (le_al HB2.out.size) _ | exact ((HB2.out.alloc HB2.out.size _).alloc (le_al HB2.out.size) _).alloc (le_al (le_al HB2.out.size)) _ | exact HB2.out.drew | exact (HB2.out.alloc HB2.out.size _).drew | exact ((HB2.out.alloc HB2.out.size _).alloc (le_al HB2.out.size) _).drew | exact HB1.out | exact HB1.out.alloc HB1.out.size _ | exact (HB1.out.alloc HB1.out.size _).alloc (le_al HB1.out.size) _ | exact ((HB1.out.alloc HB1.out.size _).alloc (le_al HB1.out.size) _).alloc (le_al (le_al HB1.out.size)) _ | exact HB1.out.drew | exact (HB1.out.alloc HB1.out.size _).drew | exact ((HB1.out.alloc HB1.out.size _).alloc (le_al HB1.out.size) _).drew | exact HB0.out | exact HB0.out.alloc HB0.out.size _ | exact (HB0.out.alloc HB0.out.size _).alloc (le_al HB0.out.size) _ | exact ((HB0.out.alloc HB0.out.size _).alloc (le_al HB0.out.size) _).alloc (le_al (le_al HB0.out.size)) _ | exact HB0.out.drew | exact (HB0.out.alloc HB0.out.size _).drew | exact ((HB0.out.alloc HB0.out.size _).alloc (le_al HB0.out.size) _).drew) (hb4.mono (by (try simp only [size_drew]); (try simp only [World.size_alloc]); (try simp only [size_setCell']); omega))); have HN4 := Lib.hid hb4; clear hb4 hs4; have HR4 := Lib.hid hrow; obtain ⟨ca, cn, cc, rfl⟩ := row_form hrow; clear hrow)
        | (go_at_call 96; have ha := HIA.out w4 w3.heap.size _ HR4.out HB4.out (Nat.le_refl _) HN4.out.size; with_reducible refine Calls.mono ha ?_; rintro e w5 ⟨v5, rfl, hrow5, hb5⟩; have HR5 := Lib.hid hrow5; have HB5 := Lib.hid hb5; clear hrow5 hb5 ha)
        | (go_at_call 96; have ha := HIB.out w4 _ _ HR4.out HB4.out (by simp) HN4.out.size (HXB.out w4 ((w3.alloc (.cells #[.int .i64 o.stamp.t, .int .i64 o.stamp.r, .int .i64 o.kind, .int .i64 o.at_.t, .int .i64 o.at_.r, .int .i64 o.ino.t, .int .i64 o.ino.r, .int .i64 o.to.t, .int .i64 o.to.r, .string o.name, .string o.new, .int .i64 o.off, .string o.data] 47)).drew) rfl HN4.out); with_reducible refine Calls.mono ha ?_; rintro e w5 ⟨v5, rfl, hrow5, hb5⟩; have HR5 := Lib.hid hrow5; have HB5 := Lib.hid hb5; clear hrow5 hb5 ha))
      all_goals go_wp2
      all_goals (go_ret3; exact ⟨_, rfl, (fun e => by cases e), (fun _ => HR5.out HPB.out), HW.out.1.trans (HB5.out.mono HW.out.1.size)⟩)
end Go.Proofs.YtlokljaeknmdpaaGreat

/-! ## Fold -/
namespace Go.Proofs.YtlokljaeknmdpaaGreat
open Go.RowKit Go.Shelf Go.Proofs

theorem cellsOpF {w : World} {zs : List Op} {b off : Nat} (hc : ∀ j, j < zs.length → ∀ i u, (Op.cells zs[j]!)[i]? = some u → w.cell? ⟨b, off + j * 13 + i, none⟩ = some u) (j : Nat) (hj : j < zs.length) :
    w.cell? ⟨b, off + j * 13, none⟩ = some (.int .i64 zs[j]!.stamp.t) ∧ w.cell? ⟨b, off + j * 13 + 1, none⟩ = some (.int .i64 zs[j]!.stamp.r) ∧ w.cell? ⟨b, off + j * 13 + 2, none⟩ = some (.int .i64 zs[j]!.kind) ∧ w.cell? ⟨b, off + j * 13 + 3, none⟩ = some (.int .i64 zs[j]!.at_.t) ∧ w.cell? ⟨b, off + j * 13 + 4, none⟩ = some (.int .i64 zs[j]!.at_.r) ∧
      w.cell? ⟨b, off + j * 13 + 5, none⟩ = some (.int .i64 zs[j]!.ino.t) ∧ w.cell? ⟨b, off + j * 13 + 6, none⟩ = some (.int .i64 zs[j]!.ino.r) ∧ w.cell? ⟨b, off + j * 13 + 7, none⟩ = some (.int .i64 zs[j]!.to.t) ∧ w.cell? ⟨b, off + j * 13 + 8, none⟩ = some (.int .i64 zs[j]!.to.r) ∧ w.cell? ⟨b, off + j * 13 + 9, none⟩ = some (.string zs[j]!.name) ∧
      w.cell? ⟨b, off + j * 13 + 10, none⟩ = some (.string zs[j]!.new) ∧ w.cell? ⟨b, off + j * 13 + 11, none⟩ = some (.int .i64 zs[j]!.off) ∧ w.cell? ⟨b, off + j * 13 + 12, none⟩ = some (.string zs[j]!.data) :=
  ⟨hc j hj 0 _ rfl, hc j hj 1 _ rfl, hc j hj 2 _ rfl, hc j hj 3 _ rfl, hc j hj 4 _ rfl, hc j hj 5 _ rfl, hc j hj 6 _ rfl, hc j hj 7 _ rfl, hc j hj 8 _ rfl, hc j hj 9 _ rfl, hc j hj 10 _ rfl, hc j hj 11 _ rfl, hc j hj 12 _ rfl⟩

/-- a row of operations in order, of the call's own -/
def OpsRow (B : Nat) (v : Value) (l : List Op) (w : World) : Prop := w.ownsRow B 47 13 v l.length (l.flatMap Op.cells)
theorem OpsRow.sl {B : Nat} {v : Value} {l : List Op} {w : World} (h : OpsRow B v l w) : SlAt w 13 Op.cells v l := SlAt.of_row (fun _ => rfl) h
theorem OpsRow.shape {B : Nat} {v : Value} {l : List Op} {w : World} (h : OpsRow B v l w) : ∃ a c, v = .slice a l.length c := h.sl.len
theorem OpsRow.kept {B : Nat} {v : Value} {l : List Op} {w w' : World} (h : OpsRow B v l w) (hb : Below w.heap.size w w') : OpsRow B v l w' := ownsRow_keep h fun j _ hj => hb.block j hj
theorem OpsRow.mono {B C : Nat} {v : Value} {l : List Op} {w : World} (h : OpsRow B v l w) (hb : C ≤ B) : OpsRow C v l w := ownsRow_mono h hb

set_option maxRecDepth 100000 in
set_option maxHeartbeats 4000000 in
theorem sort_any (v : Value) (l : List Op) (w : World) (h : SlAt w 13 Op.cells v l) (hn : ∀ o ∈ l, o.Small) (hl : l.length ≤ 1000) :
    Calls Tryz.prog 36 #[v] w fun e w' => ∃ v', e = .returned v' ∧ OpsRow w.heap.size v' (sortOps l) w' ∧ Below w.heap.size w w' := by
  have HSL : Hid (∀ W, Below w.heap.size w W → SlAt W 13 Op.cells v l) := Lib.hid fun W hW => h.below hW
  obtain ⟨va, vc, rfl⟩ := h.len
  have HNM := Lib.hid hn
  clear h hn
  go_enter Tryz.func36, Tryz.ntmps36
  go_wp2
  go_loopg [3, 8] l.length (fun gg s3 s8 wr => ∃ i : Nat, s8 = .int .i64 i ∧ i ≤ l.length ∧ l.length - i ≤ gg ∧ Aside (OpsRow w.heap.size s3 (sortOps (l.take i)) wr) ∧ Aside (Below w.heap.size w wr))
  case atStart => exact ⟨0, rfl, Nat.zero_le _, by omega, (show Aside _ from World.ownsRow_nil _ _ _ _), (show Aside _ from Below.refl _ _)⟩
  case round =>
    obtain ⟨i, rfl, hil, hgg, hR, hB⟩ := hrel
    have hi0 : (0 : Int) ≤ (i : Int) := by omega
    have hwi : IntKind.i64.wrap ((i : Int) + 1) = (i : Int) + 1 := wrapNat (i + 1) (by omega)
    obtain ⟨ra, rc, rfl⟩ := hR.out.shape
    by_cases hlt : i < l.length
    · have hlti : (i : Int) < (l.length : Int) := by omega
      obtain ⟨bb, off, rfl, hbl, hcells⟩ := slAt_at (HSL.out wr hB.out) hlt
      obtain ⟨x0, x1, x2, x3, x4, x5, x6, x7, x8, x9, x10, x11, x12⟩ := cellsOpF hcells i hlt
      have hput := put_any _ (sortOps (l.take i)) l[i]! (wr.alloc (.cells #[.int .i64 l[i]!.stamp.t, .int .i64 l[i]!.stamp.r, .int .i64 l[i]!.kind, .int .i64 l[i]!.at_.t, .int .i64 l[i]!.at_.r, .int .i64 l[i]!.ino.t, .int .i64 l[i]!.ino.r, .int .i64 l[i]!.to.t, .int .i64 l[i]!.to.r, .string l[i]!.name, .string l[i]!.new, .int .i64 l[i]!.off, .string l[i]!.data] 47)) (hR.out.sl.below ((Below.refl _ wr).alloc (Nat.le_refl _) _)) (sort_rises _) (by have := sort_len (l.take i); rw [List.length_take] at this; omega) (HNM.out _ (getElem!_mem hlt))
      have HST := Lib.hid (sort_step l i hlt)
      clear hcells
      unfold Op.v at hput
      generalize l[i]! = x at x0 x1 x2 x3 x4 x5 x6 x7 x8 x9 x10 x11 x12 hput HST
      generalize sortOps (l.take i) = S at hR hput HST
      have HPUT := Lib.hid hput
      clear hput
      go_wp2_with (go_at_call 37; refine HPUT.out.mono ?_; rintro e w3 ⟨v3, rfl, hf3, ht3, hb3⟩; have HF3 := Lib.hid hf3; have HT3 := Lib.hid ht3; have HB3 := Lib.hid hb3; clear hf3 ht3 hb3)
      go_roundg (l.length - (i + 1))
      case measure => omega
      case rel =>
        have hz : wr.heap.size ≤ (wr.alloc (.cells #[.int .i64 x.stamp.t, .int .i64 x.stamp.r, .int .i64 x.kind, .int .i64 x.at_.t, .int .i64 x.at_.r, .int .i64 x.ino.t, .int .i64 x.ino.r, .int .i64 x.to.t, .int .i64 x.to.r, .string x.name, .string x.new, .int .i64 x.off, .string x.data] 47)).heap.size := by simp
        have hbw : Below w.heap.size w w3 := (hB.out.alloc hB.out.size _).trans (HB3.out.mono (Nat.le_trans hB.out.size hz))
        refine ⟨i + 1, by first | rfl | go_num, by omega, by omega, (show Aside _ from ?_), (show Aside _ from hbw)⟩
        rw [HST.out]
        cases hp : putB S x with
        | true => exact ownsRow_mono (HT3.out hp) (Nat.le_trans hB.out.size hz)
        | false =>
          rw [put_not hp, HF3.out hp]
          exact (hR.out.kept ((Below.refl _ wr).alloc (Nat.le_refl _) _)).kept HB3.out
    · have hlti : ¬ (i : Int) < (l.length : Int) := by omega
      have HGF : Hid (OpsRow w.heap.size (.slice ra (sortOps (l.take i)).length rc) (sortOps l) wr) := Lib.hid (by
        have e : l.take i = l := List.take_of_length_le (by omega)
        have := hR.out
        rw [e] at this ⊢
        exact this)
      clear hlt
      go_wp2
      go_ret
      exact ⟨_, rfl, HGF.out, hB.out⟩

theorem cmpSt_gtr {a b : St} : decide (cmpSt a.t a.r b.t b.r > 0) = decide (ltSt b a) := by
  have h1 := cmpSt_lt (a := a) (b := b)
  have h2 := cmpSt_zero (a := a) (b := b)
  by_cases h : ltSt b a
  · rw [decide_eq_true h, decide_eq_true_eq]
    have h3 : ¬ ltSt a b := strictSt.asymm h
    have h4 : a ≠ b := fun e => strictSt.irrefl _ (e ▸ h)
    have h5 : ¬ cmpSt a.t a.r b.t b.r < 0 := fun x => h3 (h1.1 x)
    have h6 : ¬ cmpSt a.t a.r b.t b.r = 0 := fun x => h4 (h2.1 x)
    omega
  · rw [decide_eq_false h, decide_eq_false_iff_not]
    rcases strictSt.tri a b with h3 | h3 | h3
    · have := h1.2 h3; omega
    · have := h2.2 h3; omega
    · exact absurd h3 h
theorem SlAt.turn {α : Type} [Inhabited α] {S : Nat → Prop} {w w' : World} {k : Nat} {enc : α → List Value} {v : Value} {zs : List α} (h : SlAt w k enc v zs) (ht : Turn S w w') : SlAt w' k enc v zs := by
  rcases h with h | ⟨b, off, c, rfl, h1, h2, h3, h4⟩
  · exact .inl h
  · exact .inr ⟨b, off, c, rfl, h1, h2, Nat.lt_of_lt_of_le h3 ht.size, fun j hj i u hu => (ht.cell ⟨b, _, none⟩ h3).trans (h4 j hj i u hu)⟩

set_option maxRecDepth 100000 in
set_option maxHeartbeats 4000000 in
theorem below_any (v : Value) (l : List Op) (s : St) (w : World) (h : SlAt w 13 Op.cells v l) (hl : l.length ≤ 1000) :
    Calls Tryz.prog 43 #[v, s.v] w fun e w' => e = .returned (.int .i64 (belowOps l s)) ∧ Below w.heap.size w w' := by
  have HSL : Hid (∀ W, Below w.heap.size w W → SlAt W 13 Op.cells v l) := Lib.hid fun W hW => h.below hW
  obtain ⟨va, vc, rfl⟩ := h.len
  have HB0 : Hid (Below w.heap.size w (w.alloc (.cells #[.int .i64 s.t, .int .i64 s.r] 31))) := Lib.hid ((Below.refl _ w).alloc (Nat.le_refl _) _)
  have hz : w.heap.size < (w.alloc (.cells #[.int .i64 s.t, .int .i64 s.r] 31)).heap.size := by simp
  have HS : Hid (∀ W, Below (w.alloc (.cells #[.int .i64 s.t, .int .i64 s.r] 31)).heap.size (w.alloc (.cells #[.int .i64 s.t, .int .i64 s.r] 31)) W → (W.cell? ⟨w.heap.size, 0, none⟩ = some (.int .i64 s.t) ∧ W.cell? ⟨w.heap.size, 1, none⟩ = some (.int .i64 s.r) ∧ w.heap.size < W.heap.size)) := Lib.hid fun W hW => ⟨(hW.cell (p := ⟨w.heap.size, 0, none⟩) hz).trans (cell_new _ _ rfl _ _ 0 _ rfl), (hW.cell (p := ⟨w.heap.size, 1, none⟩) hz).trans (cell_new _ _ rfl _ _ 1 _ rfl), Nat.lt_of_lt_of_le hz hW.size⟩
  clear h hz
  unfold St.v
  go_enter Tryz.func43, Tryz.ntmps43
  go_wp2
  go_loopg [9] l.length (fun gg s9 wr => ∃ i : Nat, s9 = .int .i64 i ∧ i ≤ l.length ∧ l.length - i ≤ gg ∧ Aside (∀ j, j < i → ¬ ltSt s l[j]!.stamp) ∧ Aside (Below (w.alloc (.cells #[.int .i64 s.t, .int .i64 s.r] 31)).heap.size (w.alloc (.cells #[.int .i64 s.t, .int .i64 s.r] 31)) wr))
  case atStart => exact ⟨0, rfl, Nat.zero_le _, by omega, (show Aside _ from fun j hj => absurd hj (Nat.not_lt_zero _)), (show Aside _ from Below.refl _ _)⟩
  case round =>
    obtain ⟨i, rfl, hil, hgg, hR, hB⟩ := hrel
    have hi0 : (0 : Int) ≤ (i : Int) := by omega
    have hwi : IntKind.i64.wrap ((i : Int) + 1) = (i : Int) + 1 := wrapNat (i + 1) (by omega)
    have hB' := HB0.out.trans (hB.out.mono HB0.out.size)
    by_cases hlt : i < l.length
    · have hlti : (i : Int) < (l.length : Int) := by omega
      obtain ⟨bb, off, rfl, hbl, hcells⟩ := slAt_at (HSL.out wr hB') hlt
      obtain ⟨x0, x1, x2, x3, x4, x5, x6, x7, x8, x9, x10, x11, x12⟩ := cellsOpF hcells i hlt
      obtain ⟨y0, y1, y2⟩ := HS.out wr hB.out
      have hcmp := cmpSt_gtr (a := l[i]!.stamp) (b := s)
      have HBW := Lib.hid hB'
      have HCM : Hid (∀ W, Calls Tryz.prog 59 #[.agg #[.int .i64 l[i]!.stamp.t, .int .i64 l[i]!.stamp.r], .agg #[.int .i64 s.t, .int .i64 s.r]] W fun e w' => e = .returned (.int .i64 (cmpSt l[i]!.stamp.t l[i]!.stamp.r s.t s.r)) ∧ Below W.heap.size W w') := Lib.hid fun W => (stCompare_any _ _ _ _ W).mono fun e w' h => ⟨h.1, h.2.below⟩
      clear hcells hB'
      by_cases hs : ltSt s l[i]!.stamp
      · have HL : Hid (belowOps l s = i) := Lib.hid (takeWhile_len _ l i (by omega) (fun j hj => by rw [Bool.not_eq_true', decide_eq_false_iff_not]; exact hR.out j hj) (fun _ => by rw [Bool.not_eq_false', decide_eq_true_eq]; exact hs))
        rw [decide_eq_true hs] at hcmp
        have hcmp2 : decide (0 < cmpSt l[i]!.stamp.t l[i]!.stamp.r s.t s.r) = true := hcmp
        clear hs
        generalize l[i]! = x at *
        generalize cmpSt x.stamp.t x.stamp.r s.t s.r = r at *
        go_wp2_with (go_at_call 59; refine (HCM.out _).mono ?_; rintro e w3 ⟨rfl, hb3⟩; have HB3 := Lib.hid hb3; clear hb3)
        go_ret
        rw [HL.out]
        exact ⟨rfl, (HBW.out.alloc HBW.out.size _).trans (HB3.out.mono (by have := HBW.out.size; simp only [World.size_alloc]; omega))⟩
      · have HR2 : Hid (∀ j, j < i + 1 → ¬ ltSt s l[j]!.stamp) := Lib.hid fun j hj => by
          by_cases e : j = i
          · rw [e]; exact hs
          · exact hR.out j (by omega)
        rw [decide_eq_false hs] at hcmp
        have hcmp2 : decide (0 < cmpSt l[i]!.stamp.t l[i]!.stamp.r s.t s.r) = false := hcmp
        clear hs
        generalize cmpSt l[i]!.stamp.t l[i]!.stamp.r s.t s.r = r at *
        generalize l[i]! = x at x0 x1 x2 x3 x4 x5 x6 x7 x8 x9 x10 x11 x12 HCM
        go_wp2_with (go_at_call 59; refine (HCM.out _).mono ?_; rintro e w3 ⟨rfl, hb3⟩; have HB3 := Lib.hid hb3; clear hb3)
        go_roundg (l.length - (i + 1))
        case measure => omega
        case rel => exact ⟨i + 1, by first | rfl | go_num, by omega, by omega, (show Aside _ from HR2.out), (show Aside _ from (hB.out.alloc hB.out.size _).trans (HB3.out.mono (by have := hB.out.size; simp only [World.size_alloc] at this ⊢; omega)))⟩
    · have hlti : ¬ (i : Int) < (l.length : Int) := by omega
      have HL : Hid (belowOps l s = l.length) := Lib.hid (takeWhile_len _ l l.length (Nat.le_refl _) (fun j hj => by rw [Bool.not_eq_true', decide_eq_false_iff_not]; exact hR.out j (by omega)) (fun hh => absurd hh (Nat.lt_irrefl _)))
      have HBW := Lib.hid hB'
      clear hlt hB'
      go_wp2
      go_ret
      rw [HL.out]
      exact ⟨rfl, HBW.out⟩

set_option maxRecDepth 100000 in
set_option maxHeartbeats 4000000 in
theorem on_any (gb mI mE : Nat) (g : Gr) (v : Value) (l : List Op) (w : World) (hg : GrAt w gb mI mE g) (hok : g.Ok) (hth : g.Thin) (h : SlAt w 13 Op.cells v l) (hn : ∀ o ∈ l, o.Small) (hl : l.length ≤ 1000) :
    Calls Tryz.prog 44 #[.pointer (some ⟨gb, 0, none⟩), v] w (MadeGr w (onOps g l)) := by
  have HSL : Hid (∀ W, Below w.heap.size w W → SlAt W 13 Op.cells v l) := Lib.hid fun W hW => h.below hW
  have HNM := Lib.hid hn
  have HCP := Lib.hid (copy_g gb mI mE g w hg)
  have HOK := Lib.hid hok
  have HTH := Lib.hid hth
  obtain ⟨va, vc, rfl⟩ := h.len
  clear h hn hg hok hth
  go_enter Tryz.func44, Tryz.ntmps44
  go_wp2_with fail
  refine HCP.out.mono ?_
  rintro e w2 ⟨v2, rfl, ⟨cb, nI, nE, rfl, hG, h1, h2, h3⟩, hb⟩
  have HG := Lib.hid hG
  have HB2 := Lib.hid hb
  have HM : Hid (w.heap.size ≤ cb ∧ w.heap.size ≤ nI ∧ w.heap.size ≤ nE) := Lib.hid ⟨h1, h2, h3⟩
  clear hG hb h1 h2 h3
  go_wp2_with fail
  refine (sort_any _ l w2 (HSL.out _ HB2.out) HNM.out hl).mono ?_
  rintro e w3 ⟨v3, rfl, hrow, hb3⟩
  obtain ⟨sa, sc, rfl⟩ := hrow.shape
  have HSS : Hid (∀ S W, Turn S w3 W → SlAt W 13 Op.cells (.slice sa (sortOps l).length sc) (sortOps l)) := Lib.hid fun S W hW => hrow.sl.turn hW
  have HNS : Hid (∀ o ∈ sortOps l, o.Small) := Lib.hid fun o ho => HNM.out o (sort_sub ho)
  have HLS : (sortOps l).length ≤ 1000 := Nat.le_trans (sort_len l) hl
  have HG3 : Hid (GrAt w3 cb nI nE g) := Lib.hid (HG.out.below hb3)
  have HB3 : Hid (Below w.heap.size w w3) := Lib.hid (HB2.out.trans (hb3.mono HB2.out.size))
  clear hrow hb3
  have HON : Hid (onOps g l = (sortOps l).foldl Gr.apply g) := Lib.hid rfl
  generalize onOps g l = R at *
  generalize sortOps l = L at *
  go_wp2
  go_loopg [13] L.length (fun gg s13 wr => ∃ i : Nat, s13 = .int .i64 i ∧ i ≤ L.length ∧ L.length - i ≤ gg ∧ Aside (GrAt wr cb nI nE ((L.take i).foldl Gr.apply g)) ∧ Aside (Turn (Maps2 nI nE) w3 wr))
  case atStart => exact ⟨0, rfl, Nat.zero_le _, by omega, (show Aside _ from HG3.out), (show Aside _ from Turn.refl _ _)⟩
  case round =>
    obtain ⟨i, rfl, hil, hgg, hG, hT⟩ := hrel
    have hi0 : (0 : Int) ≤ (i : Int) := by omega
    have hwi : IntKind.i64.wrap ((i : Int) + 1) = (i : Int) + 1 := wrapNat (i + 1) (by omega)
    by_cases hlt : i < L.length
    · have hlti : (i : Int) < (L.length : Int) := by omega
      obtain ⟨bb, off, rfl, hbl, hcells⟩ := slAt_at (HSS.out _ wr hT.out) hlt
      obtain ⟨x0, x1, x2, x3, x4, x5, x6, x7, x8, x9, x10, x11, x12⟩ := cellsOpF hcells i hlt
      have hdo := apply_any cb nI nE ((L.take i).foldl Gr.apply g) L[i]! (wr.alloc (.cells #[.int .i64 L[i]!.stamp.t, .int .i64 L[i]!.stamp.r, .int .i64 L[i]!.kind, .int .i64 L[i]!.at_.t, .int .i64 L[i]!.at_.r, .int .i64 L[i]!.ino.t, .int .i64 L[i]!.ino.r, .int .i64 L[i]!.to.t, .int .i64 L[i]!.to.r, .string L[i]!.name, .string L[i]!.new, .int .i64 L[i]!.off, .string L[i]!.data] 47)) (hG.out.new (New.alloc' _ _)) (runs_ok _ HOK.out) (runs_thin _ HTH.out) (HNS.out _ (getElem!_mem hlt))
      have HST := Lib.hid (fold_step g L i hlt)
      clear hcells
      unfold Op.v at hdo
      generalize L[i]! = x at x0 x1 x2 x3 x4 x5 x6 x7 x8 x9 x10 x11 x12 hdo HST
      generalize (L.take i).foldl Gr.apply g = G at hdo HST hG
      have HDO := Lib.hid hdo
      clear hdo
      go_wp2_with (go_at_call 40; refine HDO.out.mono ?_; rintro e w5 ⟨rfl, hG5, hT5⟩; have HG5 := Lib.hid hG5; have HT5 := Lib.hid hT5; clear hG5 hT5)
      go_roundg (L.length - (i + 1))
      case measure => omega
      case rel => exact ⟨i + 1, by first | rfl | go_num, by omega, by omega, (show Aside _ from by rw [HST.out]; exact HG5.out), (show Aside _ from hT.out.trans (((New.alloc' _ _).turn _).trans HT5.out))⟩
    · have HGF : Hid (GrAt wr cb nI nE R) := Lib.hid (by
        have := hG.out
        rw [show L.take i = L from List.take_of_length_le (by omega)] at this
        rw [HON.out]; exact this)
      have hlti : ¬ (i : Int) < (L.length : Int) := by omega
      clear hlt
      go_wp2
      go_ret
      exact ⟨_, rfl, ⟨cb, nI, nE, rfl, HGF.out, HM.out.1, HM.out.2.1, HM.out.2.2⟩, HB3.out.trans (own_below hT.out HM.out.2.1 HM.out.2.2 HB3.out.size)⟩

set_option maxRecDepth 100000 in
set_option maxHeartbeats 4000000 in
theorem of_any (v : Value) (l : List Op) (w : World) (h : SlAt w 13 Op.cells v l) (hn : ∀ o ∈ l, o.Small) (hl : l.length ≤ 1000) : Calls Tryz.prog 38 #[v] w (MadeGr w (ofOps l)) := by
  have HSL : Hid (∀ W, Below w.heap.size w W → SlAt W 13 Op.cells v l) := Lib.hid fun W hW => h.below hW
  have HNM := Lib.hid hn
  obtain ⟨va, vc, rfl⟩ := h.len
  clear h hn
  go_enter Tryz.func38, Tryz.ntmps38
  go_wp2_with fail
  refine (new_g w).mono ?_
  rintro e w2 ⟨v2, rfl, ⟨cb, nI, nE, rfl, hG, h1, h2, h3⟩, hb⟩
  have HG := Lib.hid hG
  have HB2 := Lib.hid hb
  clear hG hb h1 h2 h3
  go_wp2_with fail
  refine (on_any cb nI nE Gr.new _ l w2 HG.out Gr.Ok.new Gr.Thin.new (HSL.out _ HB2.out) HNM.out hl).mono ?_
  rintro e w3 ⟨v3, rfl, ⟨c3, pI, pE, rfl, hG, h1, h2, h3⟩, hb⟩
  have HG3 := Lib.hid hG
  have HB3 := Lib.hid hb
  have HM3 : Hid (w2.heap.size ≤ c3 ∧ w2.heap.size ≤ pI ∧ w2.heap.size ≤ pE) := Lib.hid ⟨h1, h2, h3⟩
  clear hG hb h1 h2 h3
  go_wp2
  go_ret
  have hz := HB2.out.size
  exact ⟨_, rfl, ⟨c3, pI, pE, rfl, HG3.out, by have := HM3.out; omega, by have := HM3.out; omega, by have := HM3.out; omega⟩, HB2.out.trans (HB3.out.mono hz)⟩
end Go.Proofs.YtlokljaeknmdpaaGreat

/-! ## SlCut -/
namespace Go.Proofs.YtlokljaeknmdpaaGreat
open Go.RowKit Go.Shelf Go.Proofs

theorem SlAt.take {α : Type} [Inhabited α] {w : World} {n : Nat} {enc : α → List Value} {a : Option Addr} {m c : Nat} {zs : List α} (h : SlAt w n enc (.slice a m c) zs) {k : Nat} (hk : k ≤ zs.length) : SlAt w n enc (.slice a k c) (zs.take k) := by
  have hl : (zs.take k).length = k := by rw [List.length_take]; omega
  rcases h with ⟨a', c', h0, rfl⟩ | ⟨b, off, c', h0, h1, h2, h3, h4⟩
  · have : k = 0 := by simpa using hk
    subst this
    exact .inl ⟨a, c, rfl, rfl⟩
  · simp only [Value.slice.injEq] at h0
    obtain ⟨rfl, rfl, rfl⟩ := h0
    refine .inr ⟨b, off, c, by rw [hl], by omega, h2, h3, fun j hj i u hu => h4 j (by omega) i u ?_⟩
    rw [getElem!_pos _ j hj, List.getElem_take] at hu
    rw [getElem!_pos zs j (by omega)]; exact hu
theorem SlAt.drop {α : Type} [Inhabited α] {w : World} {n : Nat} {enc : α → List Value} {b off m c : Nat} {zs : List α} (h : SlAt w n enc (.slice (some ⟨b, off, none⟩) m c) zs) {k : Nat} (hk : k < zs.length) : SlAt w n enc (.slice (some ⟨b, off + k * n, none⟩) (m - k) (c - k)) (zs.drop k) := by
  rcases h with ⟨_, _, _, h0⟩ | ⟨b', off', c', h0, h1, h2, h3, h4⟩
  · rw [h0] at hk; exact absurd hk (Nat.not_lt_zero _)
  · simp only [Value.slice.injEq, Option.some.injEq, Addr.mk.injEq, and_true] at h0
    obtain ⟨⟨rfl, rfl⟩, rfl, rfl⟩ := h0
    have hl : (zs.drop k).length = zs.length - k := List.length_drop
    refine .inr ⟨b, off + k * n, c - k, by rw [hl], by rw [hl]; omega, by omega, h3, fun j hj i u hu => ?_⟩
    rw [getElem!_pos _ j hj, List.getElem_drop] at hu
    have := h4 (k + j) (by omega) i u (by rw [getElem!_pos zs (k + j) (by omega)]; exact hu)
    rw [← this]
    congr 2
    rw [Nat.add_mul]; omega
theorem SlAt.none_drop {α : Type} [Inhabited α] {w : World} {n : Nat} {enc : α → List Value} {a : Option Addr} {c : Nat} {zs : List α} {k : Nat} (hk : zs.length ≤ k) : SlAt w n enc (.slice a 0 c) (zs.drop k) := .inl ⟨a, c, rfl, List.drop_eq_nil_of_le hk⟩
/-- a row's two shapes -/
theorem OpsRow.two {B : Nat} {v : Value} {l : List Op} {w : World} (h : OpsRow B v l w) : (v = .slice none 0 0 ∧ l = []) ∨ ∃ g c, v = .slice (some ⟨g, 0, none⟩) l.length c ∧ l.length ≤ c ∧ c ≤ maxLen := by
  rcases h.2 with ⟨rfl, h0⟩ | ⟨g, cap, cur, rfl, _, _, h1, h2, _⟩
  · exact .inl ⟨rfl, List.eq_nil_of_length_eq_zero h0⟩
  · exact .inr ⟨g, cap, rfl, h1, h2⟩
theorem OpsRow.turn2 {B mI mE : Nat} {v : Value} {l : List Op} {w w' : World} (h : OpsRow B v l w) (ht : Turn (Maps2 mI mE) w w') (h1 : mI < B) (h2 : mE < B) : OpsRow B v l w' :=
  ownsRow_keep h fun j hj hl => ht.block j hl fun hm => by rcases hm with e | e <;> omega
end Go.Proofs.YtlokljaeknmdpaaGreat
