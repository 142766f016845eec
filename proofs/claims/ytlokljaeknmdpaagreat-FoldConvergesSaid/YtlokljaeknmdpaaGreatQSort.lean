/-
  slices.SortFunc at a slice of structs that the call itself has made; no condition but its length.
-/
import Derived.Test.YtlokljaeknmdpaaGreatQApp
import Derived.Test.YtlokljaeknmdpaaGreatQCmp
import Derived.Test.YtlokljaeknmdpaaGreatKFine
import Derived.Shelf.SlSortCmp.NoneTotal
namespace Go.Proofs.YtlokljaeknmdpaaGreat
open Go.RowKit Go.Shelf Go.Proofs
open Go.Sort (HoldsK putRowK flatK get_flatK size_flatK SWO PermIn SortedIn)

section
variable {α : Type} [Inhabited α] {enc : α → List Value} {k : Nat} {W : World} {B g : Nat} {t : TypeId}

theorem holds_of_row {cur : Array Value} (hk : ∀ x, (enc x).length = k) (hk0 : 0 < k) {zs : List α} (hh : W.heap[g]? = some (.cells cur t (0, 0))) (hc : cur.toList.take (zs.length * k) = zs.flatMap enc) : HoldsK enc k W g 0 zs.toArray := by
  intro j hj
  rw [size_flatK] at hj
  have hj' : j < zs.length * k := by simpa using hj
  refine ⟨?_, ?_⟩
  · have hlt : j / k < zs.length := Nat.div_lt_of_lt_mul (by rw [Nat.mul_comm]; exact hj')
    have h1 := flatMap_at enc k hk zs (j / k) (j % k) hlt (Nat.mod_lt _ hk0)
    have hdm := Nat.div_add_mod j k
    rw [Nat.mul_comm] at hdm
    rw [hdm, ← hc, List.getElem?_take, if_pos hj'] at h1
    rw [get_flatK enc k zs.toArray j (by simpa using hj)]
    have h2 : (enc zs[j / k]!)[j % k]? = some ((enc zs[j / k]!)[j % k]!) := by
      have hm : j % k < (enc zs[j / k]!).length := by rw [hk]; exact Nat.mod_lt _ hk0
      rw [getElem!_pos (enc zs[j / k]!) (j % k) hm]
      exact List.getElem?_eq_getElem hm
    rw [h2] at h1
    have e : zs.toArray[j / k]! = zs[j / k]! := by simp
    rw [e]
    unfold World.cell?
    simp only [hh]
    simpa using h1
  · unfold World.frozen?
    simp only [hh]
    simp

theorem heap_sorted {n : Nat} {d : Array α} {os : Array Obj} {j : Nat} (hj : j ≠ g) (hl : j < W.heap.size) : (sortWorldK enc k W g 0 n d os).heap[j]? = W.heap[j]? := by
  unfold sortWorldK putRowK
  show ((Sort.mapBlock _ _ _).heap ++ os)[j]? = _
  rw [Array.getElem?_append_left (by simp [Sort.mapBlock, Sort.ahead]; exact hl)]
  simp [Sort.mapBlock, Sort.ahead, Array.getElem?_modify, Ne.symm hj]

theorem slAt_sorted (hk : ∀ x, (enc x).length = k) (hk0 : 0 < k) {n : Nat} {d d' : Array α} {os : Array Obj} {cap : Nat} (hH : HoldsK enc k W g 0 d) (hg : g < W.heap.size) (hs : d'.size = d.size) (hc : d.size ≤ cap) (hm : cap ≤ maxLen) :
    SlAt (sortWorldK enc k W g 0 n d' os) k enc (.slice (some ⟨g, 0, none⟩) d.size cap) d'.toList := by
  have hh := holdsK_sortWorldK_c enc k W g 0 d d' n os hH hg hs
  refine .inr ⟨g, 0, cap, by simp [hs], by simpa [hs] using hc, hm, Nat.lt_of_lt_of_le hg (size_sortWorldK_c enc k W g 0 n d' os), fun j hj i u hu => ?_⟩
  have hj' : j < d'.size := by simpa using hj
  have hi : i < k := by have := (List.getElem?_eq_some_iff.1 hu).1; rw [hk] at this; exact this
  have hlt : j * k + i < d'.size * k := by
    have : (j + 1) * k ≤ d'.size * k := Nat.mul_le_mul_right k hj'
    rw [Nat.succ_mul] at this; omega
  have h := (hh (j * k + i) (by rw [size_flatK]; exact hlt)).1
  rw [get_flatK enc k d' _ hlt] at h
  have e1 : (j * k + i) / k = j := by rw [Nat.mul_comm, Nat.mul_add_div hk0, Nat.div_eq_of_lt hi, Nat.add_zero]
  have e2 : (j * k + i) % k = i := by rw [Nat.mul_comm, Nat.mul_add_mod, Nat.mod_eq_of_lt hi]
  rw [e1, e2] at h
  have e3 : d'.toList[j]! = d'[j]! := by rw [getElem!_pos _ j hj, getElem!_pos d' j hj']; simp
  rw [e3] at hu
  rw [Nat.add_assoc]
  rw [h]
  have hm' : i < (enc d'[j]!).length := by rw [hk]; exact hi
  rw [List.getElem?_eq_getElem hm'] at hu
  simp only [id]
  rw [getElem!_pos (enc d'[j]!) i hm']
  exact hu

theorem below_sorted {n : Nat} {d' : Array α} {os : Array Obj} (hB : B ≤ g) (hg : g < W.heap.size) : Below B W (sortWorldK enc k W g 0 n d' os) :=
  ⟨rfl, rfl, rfl, size_sortWorldK_c enc k W g 0 n d' os, fun j hj => heap_sorted (by omega) (by omega)⟩
end

def cmpSts (x y : St) : Int := cmpSt x.t x.r y.t y.r
theorem swoSt : SWO (ltOf cmpSts) where
  irrefl x := by simp only [ltOf, cmpSts, decide_eq_false_iff_not, cmpSt_neg]; omega
  trans x y z h1 h2 := by simp only [ltOf, cmpSts, decide_eq_true_eq, cmpSt_neg] at *; omega
  ntrans x y z h1 h2 := by simp only [ltOf, cmpSts, decide_eq_false_iff_not, cmpSt_neg] at *; omega

/-- none is less than one ahead of it -/
def Rising (zs : List St) : Prop := ∀ i j, i < j → j < zs.length → ¬ cmpSts zs[j]! zs[i]! < 0

end Go.Proofs.YtlokljaeknmdpaaGreat
