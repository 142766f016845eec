/-
  Lists that rise by a key, plainly: finding, putting, taking out; no condition.
-/
import Derived.Test.YtmnkaohhjhjciaaMaps
import Derived.Test.YtmnkaohhjhjciaaCmp
import Derived.Sort.Walk0
namespace Go.Proofs.Ytmnkaohhjhjciaa

/-- a strict order in which any two are one way or the other -/
structure Strict {K : Type} (lt : K → K → Prop) : Prop where
  irrefl : ∀ a, ¬ lt a a
  trans : ∀ a b c, lt a b → lt b c → lt a c
  tri : ∀ a b, lt a b ∨ a = b ∨ lt b a

theorem Strict.asymm {K : Type} {lt : K → K → Prop} (h : Strict lt) {a b : K} (h1 : lt a b) : ¬ lt b a := fun h2 => h.irrefl a (h.trans a b a h1 h2)

section
variable {α K : Type} (key : α → K) (lt : K → K → Prop)

/-- the keys rise -/
def RisesK (l : List α) : Prop := l.Pairwise fun a b => lt (key a) (key b)

theorem RisesK.filter {key : α → K} {lt : K → K → Prop} {l : List α} (h : RisesK key lt l) (p : α → Bool) : RisesK key lt (l.filter p) := h.sublist List.filter_sublist
theorem RisesK.map {key : α → K} {lt : K → K → Prop} {l : List α} (h : RisesK key lt l) (f : α → α) (hf : ∀ x, key (f x) = key x) : RisesK key lt (l.map f) := by
  unfold RisesK
  rw [List.pairwise_map]
  simp only [hf]
  exact h
theorem RisesK.apart {key : α → K} {lt : K → K → Prop} (S : Strict lt) : ∀ {l : List α}, RisesK key lt l → ∀ {a b : α}, a ∈ l → b ∈ l → key a = key b → a = b
  | [], _, _, _, ha, _, _ => by cases ha
  | x :: l, h, a, b, ha, hb, he => by
    have h' := List.pairwise_cons.1 h
    rcases List.mem_cons.1 ha with ha | ha <;> rcases List.mem_cons.1 hb with hb | hb
    · rw [ha, hb]
    · have := h'.1 b hb; rw [← ha, he] at this; exact absurd this (S.irrefl _)
    · have := h'.1 a ha; rw [← hb, he] at this; exact absurd this (S.irrefl _)
    · exact RisesK.apart S h'.2 ha hb he
theorem RisesK.nodup {key : α → K} {lt : K → K → Prop} (S : Strict lt) {l : List α} (h : RisesK key lt l) : (l.map key).Nodup := by
  rw [List.nodup_iff_pairwise_ne, List.pairwise_map]
  exact h.imp fun hab he => by rw [he] at hab; exact S.irrefl _ hab
theorem RisesK.nodup' {key : α → K} {lt : K → K → Prop} (S : Strict lt) {l : List α} (h : RisesK key lt l) : l.Nodup := by
  rw [List.nodup_iff_pairwise_ne]
  exact h.imp fun hab he => by rw [he] at hab; exact S.irrefl _ hab

/-- two that rise and hold the same are the same -/
theorem RisesK.eq {key : α → K} {lt : K → K → Prop} (S : Strict lt) : ∀ {l m : List α}, RisesK key lt l → RisesK key lt m → l.Perm m → l = m
  | [], m, _, _, hp => hp.nil_eq
  | x :: l, [], _, _, hp => absurd hp.symm.nil_eq (by simp)
  | x :: l, y :: m, hl, hm, hp => by
    have hl' := List.pairwise_cons.1 hl
    have hm' := List.pairwise_cons.1 hm
    have e : x = y := by
      have hx : x ∈ y :: m := hp.mem_iff.1 (List.mem_cons_self)
      have hy : y ∈ x :: l := hp.mem_iff.2 (List.mem_cons_self)
      rcases List.mem_cons.1 hx with h | h
      · exact h
      · rcases List.mem_cons.1 hy with h2 | h2
        · exact h2.symm
        · exact absurd (hm'.1 x h) (S.asymm (hl'.1 y h2))
    subst e
    rw [RisesK.eq S hl'.2 hm'.2 (List.Perm.cons_inv hp)]

theorem find_key [DecidableEq K] {key : α → K} {lt : K → K → Prop} (S : Strict lt) {l : List α} (h : RisesK key lt l) {k : K} {x : α} : l.find? (fun a => decide (key a = k)) = some x ↔ x ∈ l ∧ key x = k := by
  constructor
  · intro hf
    exact ⟨List.mem_of_find?_eq_some hf, by simpa using List.find?_some hf⟩
  · rintro ⟨hx, rfl⟩
    cases hf : l.find? (fun a => decide (key a = key x)) with
    | none => exact absurd (List.find?_eq_none.1 hf x hx) (by simp)
    | some y =>
      have h1 := List.mem_of_find?_eq_some hf
      have h2 : key y = key x := by simpa using List.find?_some hf
      rw [RisesK.apart S h h1 hx h2]

/-- with one more, at its place -/
def putIn [DecidableRel lt] (x : α) (l : List α) : List α := l.takeWhile (fun a => decide (lt (key a) (key x))) ++ x :: l.dropWhile (fun a => decide (lt (key a) (key x)))

variable {key lt}

theorem putIn_perm [DecidableRel lt] (x : α) (l : List α) : (putIn key lt x l).Perm (x :: l) := by
  unfold putIn
  refine List.perm_middle.trans ?_
  rw [List.takeWhile_append_dropWhile]
theorem putIn_mem [DecidableRel lt] {x y : α} {l : List α} : y ∈ putIn key lt x l ↔ y = x ∨ y ∈ l := by
  rw [(putIn_perm x l).mem_iff, List.mem_cons]
theorem putIn_len [DecidableRel lt] (x : α) (l : List α) : (putIn key lt x l).length = l.length + 1 := by rw [(putIn_perm x l).length_eq]; rfl
theorem takeWhile_all {β : Type} (p : β → Bool) : ∀ (l : List β), ∀ a ∈ l.takeWhile p, p a = true
  | [], a, h => by cases h
  | x :: l, a, h => by
    rw [List.takeWhile_cons] at h
    split at h
    · rename_i hx
      rcases List.mem_cons.1 h with rfl | h
      · exact hx
      · exact takeWhile_all p l a h
    · cases h
theorem dropWhile_rises [DecidableRel lt] (S : Strict lt) (k : K) : ∀ {l : List α}, RisesK key lt l → ∀ a ∈ l.dropWhile (fun a => decide (lt (key a) k)), ¬ lt (key a) k
  | [], _, a, h => by cases h
  | x :: l, hr, a, h => by
    have h' := List.pairwise_cons.1 hr
    rw [List.dropWhile_cons] at h
    split at h
    · exact dropWhile_rises S k h'.2 a h
    · rename_i hx
      have hx' : ¬ lt (key x) k := by simpa using hx
      rcases List.mem_cons.1 h with rfl | h
      · exact hx'
      · exact fun hak => hx' (S.trans _ _ _ (h'.1 a h) hak)
theorem putIn_rises [DecidableRel lt] (S : Strict lt) {x : α} {l : List α} (h : RisesK key lt l) (hx : ∀ a ∈ l, key a ≠ key x) : RisesK key lt (putIn key lt x l) := by
  unfold putIn RisesK
  have h0 : RisesK key lt (l.takeWhile (fun a => decide (lt (key a) (key x))) ++ l.dropWhile (fun a => decide (lt (key a) (key x)))) := by
    rw [List.takeWhile_append_dropWhile]; exact h
  have h1 := List.pairwise_append.1 h0
  have hd := dropWhile_rises S (key x) h
  have ht := takeWhile_all (fun a => decide (lt (key a) (key x))) l
  rw [List.pairwise_append, List.pairwise_cons]
  have hgt : ∀ a ∈ l.dropWhile (fun a => decide (lt (key a) (key x))), lt (key x) (key a) := by
    intro a ha
    rcases S.tri (key x) (key a) with h2 | h2 | h2
    · exact h2
    · exact absurd h2.symm (hx a (List.dropWhile_sublist _ |>.mem ha))
    · exact absurd h2 (hd a ha)
  refine ⟨h1.1, ⟨hgt, h1.2.1⟩, ?_⟩
  intro a ha b hb
  have hax : lt (key a) (key x) := by simpa using ht a ha
  rcases List.mem_cons.1 hb with rfl | hb
  · exact hax
  · exact S.trans _ _ _ hax (hgt b hb)
end

/-! ### the order of stamps, of names, of places -/
def ltSt (a b : St) : Prop := a.t < b.t ∨ (a.t = b.t ∧ a.r < b.r)
instance : DecidableRel ltSt := fun a b => by unfold ltSt; infer_instance
theorem strictSt : Strict ltSt where
  irrefl a h := by unfold ltSt at h; omega
  trans a b c h1 h2 := by unfold ltSt at *; omega
  tri a b := by
    obtain ⟨a1, a2⟩ := a
    obtain ⟨b1, b2⟩ := b
    simp only [ltSt, St.mk.injEq]
    omega
theorem cmpSt_lt {a b : St} : cmpSt a.t a.r b.t b.r < 0 ↔ ltSt a b := by
  unfold cmpSt orI cmpI ltSt
  by_cases h1 : a.t < b.t
  · simp [h1]
  · by_cases h2 : b.t < a.t
    · simp [h1, h2]; omega
    · have h3 : a.t = b.t := by omega
      rw [h3]
      by_cases h4 : a.r < b.r
      · simp [h4]
      · by_cases h5 : b.r < a.r <;> simp [h4, h5]
theorem cmpSt_zero {a b : St} : cmpSt a.t a.r b.t b.r = 0 ↔ a = b := by
  obtain ⟨a1, a2⟩ := a
  obtain ⟨b1, b2⟩ := b
  unfold cmpSt orI cmpI
  simp only [St.mk.injEq]
  by_cases h1 : a1 < b1
  · simp [h1]; omega
  · by_cases h2 : b1 < a1
    · simp [h1, h2]; omega
    · by_cases h4 : a2 < b2
      · simp [h1, h2, h4]; omega
      · by_cases h5 : b2 < a2 <;> simp [h1, h2, h4, h5] <;> omega

def ltB (a b : ByteArray) : Prop := Op.bytesLess a.toList b.toList = true
instance : DecidableRel ltB := fun a b => by unfold ltB; infer_instance
theorem bytesLess_irrefl : ∀ (x : List UInt8), Op.bytesLess x x = false
  | [] => rfl
  | a :: x => by
    unfold Op.bytesLess
    rw [bytesLess_irrefl x]
    simp
theorem bytesLess_trans : ∀ (x y z : List UInt8), Op.bytesLess x y = true → Op.bytesLess y z = true → Op.bytesLess x z = true
  | _, _, [], _, h => by cases ‹List UInt8› <;> simp [Op.bytesLess] at h
  | [], _, _ :: _, _, _ => rfl
  | _ :: _, [], _ :: _, h, _ => by simp [Op.bytesLess] at h
  | a :: x, b :: y, c :: z, h1, h2 => by
    unfold Op.bytesLess at *
    simp only [Bool.or_eq_true, Bool.and_eq_true, decide_eq_true_eq, beq_iff_eq] at *
    rcases h1 with h1 | ⟨rfl, h1⟩ <;> rcases h2 with h2 | ⟨rfl, h2⟩
    · left
      rw [UInt8.lt_iff_toNat_lt] at *
      omega
    · exact .inl h1
    · exact .inl h2
    · exact .inr ⟨rfl, bytesLess_trans x y z h1 h2⟩
theorem bytesLess_tri : ∀ (x y : List UInt8), Op.bytesLess x y = true ∨ x = y ∨ Op.bytesLess y x = true
  | [], [] => .inr (.inl rfl)
  | [], _ :: _ => .inl rfl
  | _ :: _, [] => .inr (.inr rfl)
  | a :: x, b :: y => by
    unfold Op.bytesLess
    simp only [Bool.or_eq_true, Bool.and_eq_true, decide_eq_true_eq, beq_iff_eq]
    by_cases h1 : a < b
    · exact .inl (.inl h1)
    · by_cases h2 : b < a
      · exact .inr (.inr (.inl h2))
      · have e : a = b := by
          apply UInt8.toNat_inj.1
          rw [UInt8.lt_iff_toNat_lt] at h1 h2
          omega
        subst e
        rcases bytesLess_tri x y with h | h | h
        · exact .inl (.inr ⟨rfl, h⟩)
        · exact .inr (.inl (by rw [h]))
        · exact .inr (.inr (.inr ⟨rfl, h⟩))
theorem toList_ext {a b : ByteArray} (h : a.toList = b.toList) : a = b := by
  have := toList_inj a b
  rw [h] at this
  simpa using this.symm
theorem strictB : Strict ltB where
  irrefl a h := by unfold ltB at h; rw [bytesLess_irrefl] at h; cases h
  trans a b c h1 h2 := bytesLess_trans _ _ _ h1 h2
  tri a b := by
    rcases bytesLess_tri a.toList b.toList with h | h | h
    · exact .inl h
    · exact .inr (.inl (toList_ext h))
    · exact .inr (.inr h)
theorem cmpB_lt {a b : ByteArray} : cmpB a b < 0 ↔ ltB a b := by
  unfold cmpB ltB lessB
  by_cases h : Op.bytesLess a.toList b.toList = true
  · simp [h]
  · rw [if_neg h]
    by_cases h2 : (!Op.bytesLess a.toList b.toList && !(a.toList == b.toList)) = true
    · rw [if_pos h2]; simp [h]
    · rw [if_neg h2]; simp [h]

def ltPl (a b : Pl) : Prop := ltSt a.at_ b.at_ ∨ (a.at_ = b.at_ ∧ ltB a.name b.name)
instance : DecidableRel ltPl := fun a b => by unfold ltPl; infer_instance
theorem strictPl : Strict ltPl where
  irrefl a h := by rcases h with h | h; exact strictSt.irrefl _ h; exact strictB.irrefl _ h.2
  trans a b c h1 h2 := by
    unfold ltPl at *
    rcases h1 with h1 | ⟨e1, h1⟩ <;> rcases h2 with h2 | ⟨e2, h2⟩
    · exact .inl (strictSt.trans _ _ _ h1 h2)
    · rw [← e2]; exact .inl h1
    · rw [e1]; exact .inl h2
    · exact .inr ⟨e1.trans e2, strictB.trans _ _ _ h1 h2⟩
  tri a b := by
    obtain ⟨a1, a2⟩ := a
    obtain ⟨b1, b2⟩ := b
    simp only [ltPl, Pl.mk.injEq]
    rcases strictSt.tri a1 b1 with h | h | h
    · exact .inl (.inl h)
    · subst h
      rcases strictB.tri a2 b2 with h | h | h
      · exact .inl (.inr ⟨rfl, h⟩)
      · exact .inr (.inl ⟨rfl, h⟩)
      · exact .inr (.inr (.inr ⟨rfl, h⟩))
    · exact .inr (.inr (.inl h))
def Ent.pl (x : Ent) : Pl := ⟨x.at_, x.name⟩
/-- how entries are held against each other -/
def cmpEn (x y : Ent) : Int := orI (cmpSt x.at_.t x.at_.r y.at_.t y.at_.r) (cmpB x.name y.name)
def cmpIn (x y : Ino) : Int := cmpSt x.id.t x.id.r y.id.t y.id.r
theorem cmpEn_lt {x y : Ent} : cmpEn x y < 0 ↔ ltPl x.pl y.pl := by
  unfold cmpEn ltPl Ent.pl orI
  by_cases h : cmpSt x.at_.t x.at_.r y.at_.t y.at_.r = 0
  · rw [if_pos h, cmpB_lt]
    have h1 := cmpSt_zero.1 h
    rw [h1]
    constructor
    · intro h2; exact .inr ⟨rfl, h2⟩
    · rintro (h2 | h2)
      · exact absurd h2 (strictSt.irrefl _)
      · exact h2.2
  · rw [if_neg h, cmpSt_lt]
    constructor
    · intro h2; exact .inl h2
    · rintro (h2 | h2)
      · exact h2
      · exact absurd (cmpSt_zero.2 h2.1) h
theorem cmpIn_lt {x y : Ino} : cmpIn x y < 0 ↔ ltSt x.id y.id := cmpSt_lt

abbrev RisesN (l : List Ino) : Prop := RisesK Ino.id ltSt l
abbrev RisesE (l : List Ent) : Prop := RisesK Ent.pl ltPl l
end Go.Proofs.Ytmnkaohhjhjciaa
