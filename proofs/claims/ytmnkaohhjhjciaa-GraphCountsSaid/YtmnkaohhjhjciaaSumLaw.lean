/-
  In what is fine links together are as many as entries; no condition.
-/
import Derived.Test.YtmnkaohhjhjciaaTreeLaw
namespace Go.Proofs.Ytmnkaohhjhjciaa

def sumTo (e : List Ent) : List St → Nat
  | [] => 0
  | d :: l => linksTo e d + sumTo e l

theorem linksTo_cons (x : Ent) (e : List Ent) (d : St) : linksTo (x :: e) d = linksTo e d + (if x.ino = d then 1 else 0) := by
  unfold linksTo
  rw [List.filter_cons]
  by_cases h : x.ino = d <;> simp [h]

theorem sumTo_nil (l : List St) : sumTo [] l = 0 := by
  induction l with
  | nil => rfl
  | cons d l ih => simp [sumTo, ih, linksTo]

theorem sumTo_out (x : Ent) (e : List Ent) : ∀ (l : List St), x.ino ∉ l → sumTo (x :: e) l = sumTo e l
  | [], _ => rfl
  | d :: l, h => by
    simp only [List.mem_cons, not_or] at h
    simp only [sumTo]
    rw [linksTo_cons, if_neg h.1, sumTo_out x e l h.2]; rfl

theorem sumTo_in (x : Ent) (e : List Ent) : ∀ (l : List St), l.Nodup → x.ino ∈ l → sumTo (x :: e) l = sumTo e l + 1
  | [], _, h => by cases h
  | d :: l, hn, h => by
    rw [List.nodup_cons] at hn
    simp only [sumTo]
    rw [linksTo_cons]
    by_cases hd : x.ino = d
    · rw [if_pos hd, sumTo_out x e l (by rw [hd]; exact hn.1)]; omega
    · rw [if_neg hd, sumTo_in x e l hn.2 (by rcases List.mem_cons.1 h with e | e; exact absurd e hd; exact e)]; omega

theorem sumTo_all (l : List St) (hn : l.Nodup) : ∀ e : List Ent, (∀ x ∈ e, x.ino ∈ l) → sumTo e l = e.length
  | [], _ => by rw [sumTo_nil]; rfl
  | x :: e, h => by
    rw [sumTo_in x e l hn (h x (by simp)), sumTo_all l hn e (fun y hy => h y (by simp [hy]))]; rfl

theorem sumTo_append (e : List Ent) : ∀ (a b : List St), sumTo e (a ++ b) = sumTo e a + sumTo e b
  | [], b => by simp [sumTo]
  | d :: a, b => by simp only [List.cons_append, sumTo]; rw [sumTo_append e a b]; omega

theorem FineIs.sum {n : List Ino} {e : List Ent} (h : FineIs n e) : sumTo e (n.map (·.id)) = e.length := by
  refine sumTo_all _ (ids_nodup h.rises) e fun x hx => ?_
  have hl := mem_any_false h.lost hx
  unfold lostB at hl
  simp only [Bool.or_eq_false_iff, Bool.not_eq_false'] at hl
  obtain ⟨i, hi, he⟩ := kindOf_some.1 hl.2
  exact List.mem_map.2 ⟨n[i]!, getElem!_mem hi, he⟩

/-- the links of the first i inodes, together -/
def linksSum (n : List Ino) (e : List Ent) (i : Nat) : Nat := sumTo e ((n.take i).map (·.id))

theorem FineIs.links {n : List Ino} {e : List Ent} (h : FineIs n e) {i : Nat} (hi : i < n.length) : n[i]!.links = (linksTo e n[i]!.id : Int) := by
  have := mem_any_false h.count (getElem!_mem hi)
  unfold countB at this
  simpa using this

theorem linksSum_succ {n : List Ino} {e : List Ent} {i : Nat} (hi : i < n.length) : linksSum n e (i + 1) = linksSum n e i + linksTo e n[i]!.id := by
  unfold linksSum
  have et : n.take (i + 1) = n.take i ++ [n[i]!] := by rw [getElem!_pos n i hi]; exact List.take_succ_eq_append_getElem hi
  rw [et, List.map_append, sumTo_append]
  simp [sumTo]

theorem linksSum_le {n : List Ino} {e : List Ent} (h : FineIs n e) (i : Nat) : linksSum n e i ≤ e.length := by
  have := h.sum
  rw [← List.take_append_drop i n, List.map_append, sumTo_append] at this
  unfold linksSum
  omega

theorem linksSum_all {n : List Ino} {e : List Ent} (h : FineIs n e) : linksSum n e n.length = e.length := by
  unfold linksSum
  rw [List.take_length]; exact h.sum
end Go.Proofs.Ytmnkaohhjhjciaa
