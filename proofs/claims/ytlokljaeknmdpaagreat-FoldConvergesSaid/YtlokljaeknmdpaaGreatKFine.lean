/-
  What is fine, in plain words; no condition. · In what is fine each directory leads up to the root; no condition. · In what is fine links together are as many as entries; no condition.
-/
import Derived.Test.YtlokljaeknmdpaaGreatQAudJ
/-! ## FineLaw -/
namespace Go.Proofs.YtlokljaeknmdpaaGreat
open Go.RowKit

theorem faultsOf_nil {bs : List Bool} {k : Nat} (h : faultsOf bs k = []) : ∀ i, i < k → bs[i]! = true := by
  induction k with
  | zero => intro i hi; exact absurd hi (Nat.not_lt_zero _)
  | succ k ih =>
    rw [faultsOf_succ, List.append_eq_nil_iff] at h
    intro i hi
    by_cases e : i = k
    · subst e
      cases hb : bs[i]! with
      | true => rfl
      | false => have h2 := h.2; rw [hb] at h2; simp at h2
    · exact ih h.1 i (by omega)

structure FineIs (n : List Ino) (e : List Ent) : Prop where
  order : orderB n e = true
  shape : shapeB n e = true
  lost : (!e.any (lostB n)) = true
  count : (!n.any (countB e)) = true
  many : (!n.any (manyB e)) = true
  apart : apartB n e = true
  bounds : allBoundsB n = true

theorem fine_is {n : List Ino} {e : List Ent} (h : fineB n e = true) : FineIs n e := by
  have h0 : faults n e = [] := by
    unfold fineB at h
    simp only [beq_iff_eq] at h
    exact List.eq_nil_of_length_eq_zero (by omega)
  have hall := faultsOf_nil h0
  exact ⟨hall 0 (by omega), hall 1 (by omega), hall 2 (by omega), hall 3 (by omega), hall 4 (by omega), hall 5 (by omega), hall 6 (by omega)⟩

theorem cmpSt_neg {a b c d : Int} : cmpSt a b c d < 0 ↔ a < c ∨ (a = c ∧ b < d) := by
  unfold cmpSt orI cmpI
  by_cases h1 : a < c
  · simp [h1]
  · by_cases h2 : c < a
    · simp [h1, h2]; omega
    · have h3 : a = c := by omega
      subst h3
      by_cases h4 : b < d
      · simp [h4]
      · by_cases h5 : d < b <;> simp [h4, h5]

theorem rises_at {α : Type} [Inhabited α] {c : α → α → Int} {l : List α} (h : risesBy c l = true) (i : Nat) (hi : i + 1 < l.length) : c l[i]! l[i + 1]! < 0 := by
  unfold risesBy at h
  rw [List.all_eq_true] at h
  have := h i (List.mem_range.2 (by omega))
  simpa using this

theorem rises_lt {n : List Ino} (h : risesBy cmpIno n = true) : ∀ (d i : Nat), i + d + 1 < n.length → cmpIno n[i]! n[i + d + 1]! < 0
  | 0, i, hi => rises_at h i hi
  | d + 1, i, hi => by
    have h1 := rises_lt h d i (by omega)
    have h2 := rises_at h (i + d + 1) (by omega)
    unfold cmpIno at h1 h2 ⊢
    rw [cmpSt_neg] at h1 h2 ⊢
    have e : i + (d + 1) + 1 = i + d + 1 + 1 := by omega
    rw [e]
    omega

theorem ids_apart {n : List Ino} (h : risesBy cmpIno n = true) {i j : Nat} (hi : i < n.length) (hj : j < n.length) (hne : i ≠ j) : n[i]!.id ≠ n[j]!.id := by
  have key : ∀ i j, i < j → j < n.length → n[i]!.id ≠ n[j]!.id := by
    intro i j hij hj he
    have h1 := rises_lt h (j - i - 1) i (by omega)
    have e : i + (j - i - 1) + 1 = j := by omega
    rw [e] at h1
    unfold cmpIno at h1
    rw [he, cmpSt_neg] at h1
    omega
  by_cases hij : i < j
  · exact key i j hij hj
  · exact fun he => key j i (by omega) hi he.symm

theorem kindOf_some {n : List Ino} {id : St} : (kindOf n id).isSome = true ↔ ∃ i, i < n.length ∧ n[i]!.id = id := by
  unfold kindOf
  rw [Option.isSome_map, List.find?_isSome]
  constructor
  · rintro ⟨x, hx, he⟩
    obtain ⟨i, hi, rfl⟩ := List.getElem_of_mem hx
    exact ⟨i, hi, by rw [getElem!_pos n i hi]; simpa using he⟩
  · rintro ⟨i, hi, he⟩
    exact ⟨n[i], List.getElem_mem hi, by rw [getElem!_pos n i hi] at he; simpa using he⟩

theorem mem_any_false {α : Type} {l : List α} {p : α → Bool} (h : (!l.any p) = true) {x : α} (hx : x ∈ l) : p x = false := by
  rw [Bool.not_eq_true', List.any_eq_false] at h
  simpa using h x hx

theorem getElem!_mem {α : Type} [Inhabited α] {l : List α} {i : Nat} (h : i < l.length) : l[i]! ∈ l := by
  rw [getElem!_pos l i h]; exact List.getElem_mem h

/-- an inode that is not the root has an entry -/
theorem FineIs.entry {n : List Ino} {e : List Ent} (h : FineIs n e) {z : Ino} (hz : z ∈ n) (hr : z.id ≠ ⟨0, 0⟩) : ∃ x ∈ e, x.ino = z.id := by
  have hm := mem_any_false h.many hz
  unfold manyB at hm
  rw [if_neg hr] at hm
  have h1 : 1 ≤ linksTo e z.id := by
    by_cases hk : z.kind = 1
    · rw [if_pos hk] at hm
      simp at hm; omega
    · rw [if_neg hk] at hm
      simp at hm; omega
  unfold linksTo at h1
  obtain ⟨x, hx⟩ := List.exists_mem_of_length_pos h1
  have := List.mem_filter.1 hx
  exact ⟨x, this.1, by simpa using this.2⟩

theorem less_get {α : Type} [Inhabited α] {l : List α} {i j : Nat} (hi : i < l.length) (hj : j < (l.take i ++ l.drop (i + 1)).length) : ∃ k, k < l.length ∧ k ≠ i ∧ (l.take i ++ l.drop (i + 1))[j]! = l[k]! := by
  have hl : (l.take i ++ l.drop (i + 1)).length = l.length - 1 := by simp; omega
  rw [getElem!_pos _ j hj]
  by_cases h : j < i
  · refine ⟨j, by omega, by omega, ?_⟩
    rw [List.getElem_append_left (by simp; omega), getElem!_pos l j (by omega)]
    simp
  · refine ⟨j + 1, by omega, by omega, ?_⟩
    rw [List.getElem_append_right (by simp; omega), getElem!_pos l (j + 1) (by omega)]
    simp only [List.getElem_drop, List.length_take]
    congr 1
    omega

theorem less_inode {n : List Ino} {e : List Ent} (h : fineB n e = true) {i : Nat} (hi : i < n.length) : fineB (n.take i ++ n.drop (i + 1)) e = false := by
  rw [Bool.eq_false_iff]
  intro h2
  have hf := fine_is h
  have hg := fine_is h2
  have ho : risesBy cmpIno n = true := by
    have := hf.order
    unfold orderB at this
    simp only [Bool.and_eq_true] at this
    exact this.1
  have hgone : ¬ (kindOf (n.take i ++ n.drop (i + 1)) n[i]!.id).isSome = true := by
    rw [kindOf_some]
    rintro ⟨j, hj, he⟩
    obtain ⟨k, hk, hne, hk2⟩ := less_get hi hj
    rw [hk2] at he
    exact ids_apart ho hk hi hne he
  by_cases hr : n[i]!.id = ⟨0, 0⟩
  · have hs := hg.shape
    unfold shapeB at hs
    simp only [Bool.and_eq_true, decide_eq_true_eq] at hs
    rw [hr, hs.1] at hgone
    exact hgone rfl
  · obtain ⟨x, hx, hxe⟩ := hf.entry (getElem!_mem hi) hr
    have hl := mem_any_false hg.lost hx
    unfold lostB at hl
    simp only [Bool.or_eq_false_iff, Bool.not_eq_false'] at hl
    rw [hxe] at hl
    exact hgone hl.2

theorem less_links {e : List Ent} {j : Nat} (hj : j < e.length) : linksTo e e[j]!.ino = linksTo (e.take j ++ e.drop (j + 1)) e[j]!.ino + 1 := by
  have es : e = e.take j ++ e[j]! :: e.drop (j + 1) := by
    rw [getElem!_pos e j hj]; simp
  generalize e[j]! = x at *
  unfold linksTo
  conv => lhs; rw [es]
  simp only [List.filter_append, List.length_append, List.filter_cons]
  simp
  omega

theorem less_entry {n : List Ino} {e : List Ent} (h : fineB n e = true) {j : Nat} (hj : j < e.length) : fineB n (e.take j ++ e.drop (j + 1)) = false := by
  rw [Bool.eq_false_iff]
  intro h2
  have hf := fine_is h
  have hg := fine_is h2
  have hl := mem_any_false hf.lost (getElem!_mem hj)
  unfold lostB at hl
  simp only [Bool.or_eq_false_iff, Bool.not_eq_false'] at hl
  obtain ⟨i, hi, he⟩ := kindOf_some.1 hl.2
  have h1 := mem_any_false hf.count (getElem!_mem hi)
  have h3 := mem_any_false hg.count (getElem!_mem hi)
  unfold countB at h1 h3
  simp only [bne_eq_false_iff_eq] at h1 h3
  rw [he] at h1 h3
  have := less_links hj
  omega

theorem fine_alone {n : List Ino} (h : fineB n [] = true) : n.length = 1 := by
  have hf := fine_is h
  have ho : risesBy cmpIno n = true := by
    have := hf.order
    unfold orderB at this
    simp only [Bool.and_eq_true] at this
    exact this.1
  have hall : ∀ i, i < n.length → n[i]!.id = ⟨0, 0⟩ := by
    intro i hi
    by_cases hr : n[i]!.id = ⟨0, 0⟩
    · exact hr
    · obtain ⟨x, hx, _⟩ := hf.entry (getElem!_mem hi) hr
      cases hx
  have hs := hf.shape
  unfold shapeB at hs
  simp only [Bool.and_eq_true, decide_eq_true_eq] at hs
  have h1 : (kindOf n ⟨0, 0⟩).isSome = true := by rw [hs.1]; rfl
  obtain ⟨i, hi, _⟩ := kindOf_some.1 h1
  by_cases h2 : n.length = 1
  · exact h2
  · have h01 := ids_apart ho (i := 0) (j := 1) (by omega) (by omega) (by omega)
    rw [hall 0 (by omega), hall 1 (by omega)] at h01
    exact absurd rfl h01

theorem fine_some {n : List Ino} {e : List Ent} (h : fineB n e = true) : 0 < n.length := by
  have hs := (fine_is h).shape
  unfold shapeB at hs
  simp only [Bool.and_eq_true, decide_eq_true_eq] at hs
  have h1 : (kindOf n ⟨0, 0⟩).isSome = true := by rw [hs.1]; rfl
  obtain ⟨i, hi, _⟩ := kindOf_some.1 h1
  omega
end Go.Proofs.YtlokljaeknmdpaaGreat

/-! ## TreeLaw -/
namespace Go.Proofs.YtlokljaeknmdpaaGreat
open Go.RowKit

/-- one step up, as the loop over the entries finds it -/
def stepUp (e : List Ent) (d : St) : St := e.foldl (fun id x => if x.ino = d then x.at_ else id) d
def iterUp (e : List Ent) : Nat → St → St
  | 0, d => d
  | m + 1, d => iterUp e m (stepUp e d)

theorem iterUp_add (e : List Ent) : ∀ (a b : Nat) (d : St), iterUp e (a + b) d = iterUp e b (iterUp e a d)
  | 0, b, d => by simp [iterUp]
  | a + 1, b, d => by rw [Nat.succ_add]; simp only [iterUp]; exact iterUp_add e a b _
theorem iterUp_last (e : List Ent) (m : Nat) (d : St) : iterUp e (m + 1) d = stepUp e (iterUp e m d) := by rw [iterUp_add]; rfl

theorem fold_none (d : St) : ∀ (l : List Ent) (s : St), (∀ x ∈ l, x.ino ≠ d) → l.foldl (fun id x => if x.ino = d then x.at_ else id) s = s
  | [], _, _ => rfl
  | x :: l, s, h => by
    rw [List.foldl_cons, if_neg (h x (by simp))]
    exact fold_none d l s (fun y hy => h y (by simp [hy]))

/-- where one entry leads to d, the step finds it -/
theorem fold_one (d : St) : ∀ (l : List Ent) (s : St) (x : Ent), x ∈ l → x.ino = d → (l.filter fun y => decide (y.ino = d)).length ≤ 1 → l.foldl (fun id x => if x.ino = d then x.at_ else id) s = x.at_
  | [], _, _, h, _, _ => by cases h
  | y :: l, s, x, hx, hd, hl => by
    rw [List.foldl_cons]
    by_cases hy : y.ino = d
    · rw [if_pos hy]
      have hn : ∀ z ∈ l, z.ino ≠ d := by
        intro z hz he
        rw [List.filter_cons, if_pos (by simpa using hy)] at hl
        have : 0 < (l.filter fun y => decide (y.ino = d)).length := List.length_pos_of_mem (List.mem_filter.2 ⟨hz, by simpa using he⟩)
        simp only [List.length_cons] at hl
        omega
      rw [fold_none d l _ hn]
      rcases List.mem_cons.1 hx with e | e
      · rw [e]
      · exact absurd hd (hn x e)
    · rw [if_neg hy]
      rw [List.filter_cons, if_neg (by simpa using hy)] at hl
      rcases List.mem_cons.1 hx with e | e
      · rw [e] at hd; exact absurd hd hy
      · exact fold_one d l s x e hd hl

theorem kindOf_at {n : List Ino} (ho : risesBy cmpIno n = true) {i : Nat} (hi : i < n.length) : kindOf n n[i]!.id = some n[i]!.kind := by
  have hs : (kindOf n n[i]!.id).isSome = true := kindOf_some.2 ⟨i, hi, rfl⟩
  unfold kindOf at hs ⊢
  cases hf : n.find? (fun j => decide (j.id = n[i]!.id)) with
  | none => rw [hf] at hs; cases hs
  | some z =>
    have hz := List.find?_some hf
    have hm := List.mem_of_find?_eq_some hf
    obtain ⟨j, hj, rfl⟩ := List.getElem_of_mem hm
    have he : n[j]!.id = n[i]!.id := by rw [getElem!_pos n j hj]; simpa using hz
    have : j = i := by
      by_cases h : j = i
      · exact h
      · exact absurd he (ids_apart ho hj hi h)
    subst this
    simp [getElem!_pos n j hj]

theorem FineIs.rises {n : List Ino} {e : List Ent} (h : FineIs n e) : risesBy cmpIno n = true := by
  have := h.order
  unfold orderB at this
  simp only [Bool.and_eq_true] at this
  exact this.1

/-- a directory that is not the root has one entry -/
theorem FineIs.one {n : List Ino} {e : List Ent} (h : FineIs n e) {d : St} (hd : kindOf n d = some 1) (hr : d ≠ ⟨0, 0⟩) : linksTo e d = 1 := by
  obtain ⟨i, hi, he⟩ := kindOf_some.1 (by rw [hd]; rfl : (kindOf n d).isSome = true)
  have hk := kindOf_at h.rises hi
  rw [he, hd] at hk
  have hm := mem_any_false h.many (getElem!_mem hi)
  unfold manyB at hm
  rw [he, if_neg hr, if_pos (Option.some.inj hk).symm] at hm
  simp at hm
  omega

theorem FineIs.up {n : List Ino} {e : List Ent} (h : FineIs n e) {x : Ent} (hx : x ∈ e) (hd : kindOf n x.ino = some 1) (hr : x.ino ≠ ⟨0, 0⟩) : stepUp e x.ino = x.at_ := by
  have h1 := h.one hd hr
  unfold linksTo at h1
  exact fold_one x.ino e x.ino x hx rfl (by omega)

theorem FineIs.top {n : List Ino} {e : List Ent} (h : FineIs n e) {d : St} (hR : Reached n e d) : kindOf n d = some 1 → ∃ m, iterUp e m d = ⟨0, 0⟩ := by
  induction hR with
  | root _ => intro _; exact ⟨0, rfl⟩
  | step x hx _ h2 _ ih =>
    intro hd
    by_cases hr : x.ino = ⟨0, 0⟩
    · exact ⟨0, hr⟩
    · obtain ⟨m, hm⟩ := ih h2
      exact ⟨m + 1, by simp only [iterUp]; rw [h.up hx hd hr]; exact hm⟩

/-- a step up from a directory that is not the root is a directory -/
theorem FineIs.dir {n : List Ino} {e : List Ent} (h : FineIs n e) {d : St} (hd : kindOf n d = some 1) (hr : d ≠ ⟨0, 0⟩) : kindOf n (stepUp e d) = some 1 := by
  have h1 := h.one hd hr
  unfold linksTo at h1
  obtain ⟨x, hx⟩ := List.exists_mem_of_length_pos (by omega : 0 < (e.filter fun y => decide (y.ino = d)).length)
  obtain ⟨hxe, hxd⟩ := List.mem_filter.1 hx
  have hxd' : x.ino = d := by simpa using hxd
  subst hxd'
  rw [h.up hxe hd hr]
  have hl := mem_any_false h.lost hxe
  unfold lostB at hl
  simp only [Bool.or_eq_false_iff, Bool.not_eq_false', decide_eq_true_eq] at hl
  exact hl.1

/-- **each directory leads to the root in fewer steps than there are inodes** -/
theorem FineIs.root {n : List Ino} {e : List Ent} (h : FineIs n e) {d : St} (hd : kindOf n d = some 1) (hR : Reached n e d) : ∃ m, m < n.length ∧ iterUp e m d = ⟨0, 0⟩ ∧ ∀ j, j < m → iterUp e j d ≠ ⟨0, 0⟩ := by
  have hex : ∃ m, iterUp e m d = ⟨0, 0⟩ := h.top hR hd
  obtain ⟨m, hm, hmin⟩ : ∃ m, iterUp e m d = ⟨0, 0⟩ ∧ ∀ j, j < m → iterUp e j d ≠ ⟨0, 0⟩ := by
    obtain ⟨m0, h0⟩ := hex
    induction m0 using Nat.strongRecOn with
    | _ m0 ih =>
      by_cases hj : ∃ j, j < m0 ∧ iterUp e j d = ⟨0, 0⟩
      · obtain ⟨j, hj1, hj2⟩ := hj
        exact ih j hj1 hj2
      · exact ⟨m0, h0, fun j hj1 hj2 => hj ⟨j, hj1, hj2⟩⟩
  have hdirs : ∀ j, j ≤ m → kindOf n (iterUp e j d) = some 1 := by
    intro j
    induction j with
    | zero => intro _; exact hd
    | succ j ih =>
      intro hj
      rw [iterUp_last]
      exact h.dir (ih (by omega)) (hmin j (by omega))
  have hinj : ∀ a b, a < b → b ≤ m → iterUp e a d ≠ iterUp e b d := by
    intro a b hab hbm heq
    have : iterUp e (a + (m - b)) d = ⟨0, 0⟩ := by
      rw [iterUp_add, heq, ← iterUp_add, show b + (m - b) = m by omega]
      exact hm
    exact hmin _ (by omega) this
  have hnd : ((List.range (m + 1)).map fun j => iterUp e j d).Nodup := by
    rw [List.Nodup, List.pairwise_map]
    refine List.pairwise_iff_getElem.2 fun a b ha hb hab => ?_
    simp only [List.length_range] at ha hb
    simp only [List.getElem_range]
    exact hinj a b hab (by omega)
  have hsub : ∀ a ∈ (List.range (m + 1)).map (fun j => iterUp e j d), a ∈ n.map (·.id) := by
    intro a ha
    obtain ⟨j, hj, rfl⟩ := List.mem_map.1 ha
    have hs : (kindOf n (iterUp e j d)).isSome = true := by rw [hdirs j (by have := List.mem_range.1 hj; omega)]; rfl
    obtain ⟨i, hi, he⟩ := kindOf_some.1 hs
    exact List.mem_map.2 ⟨n[i]!, getElem!_mem hi, he⟩
  have hlen := nodup_len _ _ hnd hsub
  simp at hlen
  exact ⟨m, by omega, hm, hmin⟩

theorem ids_nodup {n : List Ino} (ho : risesBy cmpIno n = true) : (n.map (·.id)).Nodup := by
  rw [List.Nodup, List.pairwise_map]
  refine List.pairwise_iff_getElem.2 fun a b ha hb hab => ?_
  have := ids_apart ho ha hb (by omega)
  rwa [getElem!_pos n a ha, getElem!_pos n b hb] at this

/-- who is reached is there -/
theorem reached_there {n : List Ino} {e : List Ent} {d : St} (h : Reached n e d) : (kindOf n d).isSome = true := by
  cases h with
  | root h => exact h
  | step x _ _ _ h => exact h

theorem FineIs.reached {n : List Ino} {e : List Ent} (h : FineIs n e) {x : Ino} (hx : x ∈ n) : Reached n e x.id := by
  have := h.apart
  unfold apartB at this
  rw [List.all_eq_true] at this
  exact (@decide_eq_true_iff _ (_)).1 (this x hx)

/-- **as many are reached as there are** -/
theorem FineIs.reach_len {n : List Ino} {e : List Ent} (h : FineIs n e) {zs : List St} (hz : zs.Nodup) (hm : ∀ id, id ∈ zs ↔ Reached n e id) : zs.length = n.length := by
  have h1 := nodup_len zs (n.map (·.id)) hz fun a ha => by
    obtain ⟨i, hi, he⟩ := kindOf_some.1 (reached_there ((hm a).1 ha))
    exact List.mem_map.2 ⟨n[i]!, getElem!_mem hi, he⟩
  have h2 := nodup_len (n.map (·.id)) zs (ids_nodup h.rises) fun a ha => by
    obtain ⟨x, hx, rfl⟩ := List.mem_map.1 ha
    exact (hm _).2 (h.reached hx)
  simp at h1 h2
  omega
end Go.Proofs.YtlokljaeknmdpaaGreat

/-! ## SumLaw -/
namespace Go.Proofs.YtlokljaeknmdpaaGreat

def sumTo (e : List Ent) : List St → Nat
  | [] => 0
  | d :: l => linksTo e d + sumTo e l

theorem linksTo_cons (x : Ent) (e : List Ent) (d : St) : linksTo (x :: e) d = linksTo e d + (if x.ino = d then 1 else 0) := by
  unfold linksTo
  rw [List.filter_cons]
  by_cases h : x.ino = d <;> simp [h]

theorem sumTo_nil (l : List St) : sumTo [] l = 0 := by
  induction l with
  | nil => rfl
  | cons d l ih => simp [sumTo, ih, linksTo]

theorem sumTo_out (x : Ent) (e : List Ent) : ∀ (l : List St), x.ino ∉ l → sumTo (x :: e) l = sumTo e l
  | [], _ => rfl
  | d :: l, h => by
    simp only [List.mem_cons, not_or] at h
    simp only [sumTo]
    rw [linksTo_cons, if_neg h.1, sumTo_out x e l h.2]; rfl

theorem sumTo_in (x : Ent) (e : List Ent) : ∀ (l : List St), l.Nodup → x.ino ∈ l → sumTo (x :: e) l = sumTo e l + 1
  | [], _, h => by cases h
  | d :: l, hn, h => by
    rw [List.nodup_cons] at hn
    simp only [sumTo]
    rw [linksTo_cons]
    by_cases hd : x.ino = d
    · rw [if_pos hd, sumTo_out x e l (by rw [hd]; exact hn.1)]; omega
    · rw [if_neg hd, sumTo_in x e l hn.2 (by rcases List.mem_cons.1 h with e | e; exact absurd e hd; exact e)]; omega

theorem sumTo_all (l : List St) (hn : l.Nodup) : ∀ e : List Ent, (∀ x ∈ e, x.ino ∈ l) → sumTo e l = e.length
  | [], _ => by rw [sumTo_nil]; rfl
  | x :: e, h => by
    rw [sumTo_in x e l hn (h x (by simp)), sumTo_all l hn e (fun y hy => h y (by simp [hy]))]; rfl

theorem sumTo_append (e : List Ent) : ∀ (a b : List St), sumTo e (a ++ b) = sumTo e a + sumTo e b
  | [], b => by simp [sumTo]
  | d :: a, b => by simp only [List.cons_append, sumTo]; rw [sumTo_append e a b]; omega

theorem FineIs.sum {n : List Ino} {e : List Ent} (h : FineIs n e) : sumTo e (n.map (·.id)) = e.length := by
  refine sumTo_all _ (ids_nodup h.rises) e fun x hx => ?_
  have hl := mem_any_false h.lost hx
  unfold lostB at hl
  simp only [Bool.or_eq_false_iff, Bool.not_eq_false'] at hl
  obtain ⟨i, hi, he⟩ := kindOf_some.1 hl.2
  exact List.mem_map.2 ⟨n[i]!, getElem!_mem hi, he⟩

/-- the links of the first i inodes, together -/
def linksSum (n : List Ino) (e : List Ent) (i : Nat) : Nat := sumTo e ((n.take i).map (·.id))

theorem FineIs.links {n : List Ino} {e : List Ent} (h : FineIs n e) {i : Nat} (hi : i < n.length) : n[i]!.links = (linksTo e n[i]!.id : Int) := by
  have := mem_any_false h.count (getElem!_mem hi)
  unfold countB at this
  simpa using this

theorem linksSum_succ {n : List Ino} {e : List Ent} {i : Nat} (hi : i < n.length) : linksSum n e (i + 1) = linksSum n e i + linksTo e n[i]!.id := by
  unfold linksSum
  have et : n.take (i + 1) = n.take i ++ [n[i]!] := by rw [getElem!_pos n i hi]; exact List.take_succ_eq_append_getElem hi
  rw [et, List.map_append, sumTo_append]
  simp [sumTo]

theorem linksSum_le {n : List Ino} {e : List Ent} (h : FineIs n e) (i : Nat) : linksSum n e i ≤ e.length := by
  have := h.sum
  rw [← List.take_append_drop i n, List.map_append, sumTo_append] at this
  unfold linksSum
  omega

theorem linksSum_all {n : List Ino} {e : List Ent} (h : FineIs n e) : linksSum n e n.length = e.length := by
  unfold linksSum
  rw [List.take_length]; exact h.sum
end Go.Proofs.YtlokljaeknmdpaaGreat
