/-
  In what is fine each directory leads up to the root; no condition.
-/
import Derived.Test.YtmnkaohhjhjciaaFineLaw
namespace Go.Proofs.Ytmnkaohhjhjciaa
open Go.RowKit

/-- one step up, as the loop over the entries finds it -/
def stepUp (e : List Ent) (d : St) : St := e.foldl (fun id x => if x.ino = d then x.at_ else id) d
def iterUp (e : List Ent) : Nat → St → St
  | 0, d => d
  | m + 1, d => iterUp e m (stepUp e d)

theorem iterUp_add (e : List Ent) : ∀ (a b : Nat) (d : St), iterUp e (a + b) d = iterUp e b (iterUp e a d)
  | 0, b, d => by simp [iterUp]
  | a + 1, b, d => by rw [Nat.succ_add]; simp only [iterUp]; exact iterUp_add e a b _
theorem iterUp_last (e : List Ent) (m : Nat) (d : St) : iterUp e (m + 1) d = stepUp e (iterUp e m d) := by rw [iterUp_add]; rfl

theorem fold_none (d : St) : ∀ (l : List Ent) (s : St), (∀ x ∈ l, x.ino ≠ d) → l.foldl (fun id x => if x.ino = d then x.at_ else id) s = s
  | [], _, _ => rfl
  | x :: l, s, h => by
    rw [List.foldl_cons, if_neg (h x (by simp))]
    exact fold_none d l s (fun y hy => h y (by simp [hy]))

/-- where one entry leads to d, the step finds it -/
theorem fold_one (d : St) : ∀ (l : List Ent) (s : St) (x : Ent), x ∈ l → x.ino = d → (l.filter fun y => decide (y.ino = d)).length ≤ 1 → l.foldl (fun id x => if x.ino = d then x.at_ else id) s = x.at_
  | [], _, _, h, _, _ => by cases h
  | y :: l, s, x, hx, hd, hl => by
    rw [List.foldl_cons]
    by_cases hy : y.ino = d
    · rw [if_pos hy]
      have hn : ∀ z ∈ l, z.ino ≠ d := by
        intro z hz he
        rw [List.filter_cons, if_pos (by simpa using hy)] at hl
        have : 0 < (l.filter fun y => decide (y.ino = d)).length := List.length_pos_of_mem (List.mem_filter.2 ⟨hz, by simpa using he⟩)
        simp only [List.length_cons] at hl
        omega
      rw [fold_none d l _ hn]
      rcases List.mem_cons.1 hx with e | e
      · rw [e]
      · exact absurd hd (hn x e)
    · rw [if_neg hy]
      rw [List.filter_cons, if_neg (by simpa using hy)] at hl
      rcases List.mem_cons.1 hx with e | e
      · rw [e] at hd; exact absurd hd hy
      · exact fold_one d l s x e hd hl

theorem kindOf_at {n : List Ino} (ho : risesBy cmpIno n = true) {i : Nat} (hi : i < n.length) : kindOf n n[i]!.id = some n[i]!.kind := by
  have hs : (kindOf n n[i]!.id).isSome = true := kindOf_some.2 ⟨i, hi, rfl⟩
  unfold kindOf at hs ⊢
  cases hf : n.find? (fun j => decide (j.id = n[i]!.id)) with
  | none => rw [hf] at hs; cases hs
  | some z =>
    have hz := List.find?_some hf
    have hm := List.mem_of_find?_eq_some hf
    obtain ⟨j, hj, rfl⟩ := List.getElem_of_mem hm
    have he : n[j]!.id = n[i]!.id := by rw [getElem!_pos n j hj]; simpa using hz
    have : j = i := by
      by_cases h : j = i
      · exact h
      · exact absurd he (ids_apart ho hj hi h)
    subst this
    simp [getElem!_pos n j hj]

theorem FineIs.rises {n : List Ino} {e : List Ent} (h : FineIs n e) : risesBy cmpIno n = true := by
  have := h.order
  unfold orderB at this
  simp only [Bool.and_eq_true] at this
  exact this.1

/-- a directory that is not the root has one entry -/
theorem FineIs.one {n : List Ino} {e : List Ent} (h : FineIs n e) {d : St} (hd : kindOf n d = some 1) (hr : d ≠ ⟨0, 0⟩) : linksTo e d = 1 := by
  obtain ⟨i, hi, he⟩ := kindOf_some.1 (by rw [hd]; rfl : (kindOf n d).isSome = true)
  have hk := kindOf_at h.rises hi
  rw [he, hd] at hk
  have hm := mem_any_false h.many (getElem!_mem hi)
  unfold manyB at hm
  rw [he, if_neg hr, if_pos (Option.some.inj hk).symm] at hm
  simp at hm
  omega

theorem FineIs.up {n : List Ino} {e : List Ent} (h : FineIs n e) {x : Ent} (hx : x ∈ e) (hd : kindOf n x.ino = some 1) (hr : x.ino ≠ ⟨0, 0⟩) : stepUp e x.ino = x.at_ := by
  have h1 := h.one hd hr
  unfold linksTo at h1
  exact fold_one x.ino e x.ino x hx rfl (by omega)

theorem FineIs.top {n : List Ino} {e : List Ent} (h : FineIs n e) {d : St} (hR : Reached n e d) : kindOf n d = some 1 → ∃ m, iterUp e m d = ⟨0, 0⟩ := by
  induction hR with
  | root _ => intro _; exact ⟨0, rfl⟩
  | step x hx _ h2 _ ih =>
    intro hd
    by_cases hr : x.ino = ⟨0, 0⟩
    · exact ⟨0, hr⟩
    · obtain ⟨m, hm⟩ := ih h2
      exact ⟨m + 1, by simp only [iterUp]; rw [h.up hx hd hr]; exact hm⟩

/-- a step up from a directory that is not the root is a directory -/
theorem FineIs.dir {n : List Ino} {e : List Ent} (h : FineIs n e) {d : St} (hd : kindOf n d = some 1) (hr : d ≠ ⟨0, 0⟩) : kindOf n (stepUp e d) = some 1 := by
  have h1 := h.one hd hr
  unfold linksTo at h1
  obtain ⟨x, hx⟩ := List.exists_mem_of_length_pos (by omega : 0 < (e.filter fun y => decide (y.ino = d)).length)
  obtain ⟨hxe, hxd⟩ := List.mem_filter.1 hx
  have hxd' : x.ino = d := by simpa using hxd
  subst hxd'
  rw [h.up hxe hd hr]
  have hl := mem_any_false h.lost hxe
  unfold lostB at hl
  simp only [Bool.or_eq_false_iff, Bool.not_eq_false', decide_eq_true_eq] at hl
  exact hl.1

/-- **each directory leads to the root in fewer steps than there are inodes** -/
theorem FineIs.root {n : List Ino} {e : List Ent} (h : FineIs n e) {d : St} (hd : kindOf n d = some 1) (hR : Reached n e d) : ∃ m, m < n.length ∧ iterUp e m d = ⟨0, 0⟩ ∧ ∀ j, j < m → iterUp e j d ≠ ⟨0, 0⟩ := by
  have hex : ∃ m, iterUp e m d = ⟨0, 0⟩ := h.top hR hd
  obtain ⟨m, hm, hmin⟩ : ∃ m, iterUp e m d = ⟨0, 0⟩ ∧ ∀ j, j < m → iterUp e j d ≠ ⟨0, 0⟩ := by
    obtain ⟨m0, h0⟩ := hex
    induction m0 using Nat.strongRecOn with
    | _ m0 ih =>
      by_cases hj : ∃ j, j < m0 ∧ iterUp e j d = ⟨0, 0⟩
      · obtain ⟨j, hj1, hj2⟩ := hj
        exact ih j hj1 hj2
      · exact ⟨m0, h0, fun j hj1 hj2 => hj ⟨j, hj1, hj2⟩⟩
  have hdirs : ∀ j, j ≤ m → kindOf n (iterUp e j d) = some 1 := by
    intro j
    induction j with
    | zero => intro _; exact hd
    | succ j ih =>
      intro hj
      rw [iterUp_last]
      exact h.dir (ih (by omega)) (hmin j (by omega))
  have hinj : ∀ a b, a < b → b ≤ m → iterUp e a d ≠ iterUp e b d := by
    intro a b hab hbm heq
    have : iterUp e (a + (m - b)) d = ⟨0, 0⟩ := by
      rw [iterUp_add, heq, ← iterUp_add, show b + (m - b) = m by omega]
      exact hm
    exact hmin _ (by omega) this
  have hnd : ((List.range (m + 1)).map fun j => iterUp e j d).Nodup := by
    rw [List.Nodup, List.pairwise_map]
    refine List.pairwise_iff_getElem.2 fun a b ha hb hab => ?_
    simp only [List.length_range] at ha hb
    simp only [List.getElem_range]
    exact hinj a b hab (by omega)
  have hsub : ∀ a ∈ (List.range (m + 1)).map (fun j => iterUp e j d), a ∈ n.map (·.id) := by
    intro a ha
    obtain ⟨j, hj, rfl⟩ := List.mem_map.1 ha
    have hs : (kindOf n (iterUp e j d)).isSome = true := by rw [hdirs j (by have := List.mem_range.1 hj; omega)]; rfl
    obtain ⟨i, hi, he⟩ := kindOf_some.1 hs
    exact List.mem_map.2 ⟨n[i]!, getElem!_mem hi, he⟩
  have hlen := nodup_len _ _ hnd hsub
  simp at hlen
  exact ⟨m, by omega, hm, hmin⟩

theorem ids_nodup {n : List Ino} (ho : risesBy cmpIno n = true) : (n.map (·.id)).Nodup := by
  rw [List.Nodup, List.pairwise_map]
  refine List.pairwise_iff_getElem.2 fun a b ha hb hab => ?_
  have := ids_apart ho ha hb (by omega)
  rwa [getElem!_pos n a ha, getElem!_pos n b hb] at this

/-- who is reached is there -/
theorem reached_there {n : List Ino} {e : List Ent} {d : St} (h : Reached n e d) : (kindOf n d).isSome = true := by
  cases h with
  | root h => exact h
  | step x _ _ _ h => exact h

theorem FineIs.reached {n : List Ino} {e : List Ent} (h : FineIs n e) {x : Ino} (hx : x ∈ n) : Reached n e x.id := by
  have := h.apart
  unfold apartB at this
  rw [List.all_eq_true] at this
  exact (@decide_eq_true_iff _ (_)).1 (this x hx)

/-- **as many are reached as there are** -/
theorem FineIs.reach_len {n : List Ino} {e : List Ent} (h : FineIs n e) {zs : List St} (hz : zs.Nodup) (hm : ∀ id, id ∈ zs ↔ Reached n e id) : zs.length = n.length := by
  have h1 := nodup_len zs (n.map (·.id)) hz fun a ha => by
    obtain ⟨i, hi, he⟩ := kindOf_some.1 (reached_there ((hm a).1 ha))
    exact List.mem_map.2 ⟨n[i]!, getElem!_mem hi, he⟩
  have h2 := nodup_len (n.map (·.id)) zs (ids_nodup h.rises) fun a ha => by
    obtain ⟨x, hx, rfl⟩ := List.mem_map.1 ha
    exact (hm _).2 (h.reached hx)
  simp at h1 h2
  omega
end Go.Proofs.Ytmnkaohhjhjciaa
