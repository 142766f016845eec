/-
  slices.SortFunc at a slice of structs that the call itself has made; no condition but its length. · audit.Reach; condition: that of audit.made. · Rows of a call's own that are kept; no condition.
-/
import Derived.Test.YtfbjiaedfmdcfaaGreatDoorKY13
import Derived.Test.YtfbjiaedfmdcfaaGreatDoorKY0
import Derived.Test.YtfbjiaedfmdcfaaGreatDoorKY14
import Derived.Shelf.SlSortCmp.NoneTotal
import Derived.Test.YtfbjiaedfmdcfaaGreatDoorKY15
/-! ## Sort -/
namespace Go.Proofs.YtfbjiaedfmdcfaaGreatDoor
open Go.RowKit Go.Shelf Go.Proofs
open Go.Sort (HoldsK putRowK flatK get_flatK size_flatK SWO PermIn SortedIn)

section
variable {α : Type} [Inhabited α] {enc : α → List Value} {k : Nat} {W : World} {B g : Nat} {t : TypeId}

theorem holds_of_row {cur : Array Value} (hk : ∀ x, (enc x).length = k) (hk0 : 0 < k) {zs : List α} (hh : W.heap[g]? = some (.cells cur t (0, 0))) (hc : cur.toList.take (zs.length * k) = zs.flatMap enc) : HoldsK enc k W g 0 zs.toArray := by
  intro j hj
  rw [size_flatK] at hj
  have hj' : j < zs.length * k := by simpa using hj
  refine ⟨?_, ?_⟩
  · have hlt : j / k < zs.length := Nat.div_lt_of_lt_mul (by rw [Nat.mul_comm]; exact hj')
    have h1 := flatMap_at enc k hk zs (j / k) (j % k) hlt (Nat.mod_lt _ hk0)
    have hdm := Nat.div_add_mod j k
    rw [Nat.mul_comm] at hdm
    rw [hdm, ← hc, List.getElem?_take, if_pos hj'] at h1
    rw [get_flatK enc k zs.toArray j (by simpa using hj)]
    have h2 : (enc zs[j / k]!)[j % k]? = some ((enc zs[j / k]!)[j % k]!) := by
      have hm : j % k < (enc zs[j / k]!).length := by rw [hk]; exact Nat.mod_lt _ hk0
      rw [getElem!_pos (enc zs[j / k]!) (j % k) hm]
      exact List.getElem?_eq_getElem hm
    rw [h2] at h1
    have e : zs.toArray[j / k]! = zs[j / k]! := by simp
    rw [e]
    unfold World.cell?
    simp only [hh]
    simpa using h1
  · unfold World.frozen?
    simp only [hh]
    simp

theorem heap_sorted {n : Nat} {d : Array α} {os : Array Obj} {j : Nat} (hj : j ≠ g) (hl : j < W.heap.size) : (sortWorldK enc k W g 0 n d os).heap[j]? = W.heap[j]? := by
  unfold sortWorldK putRowK
  show ((Sort.mapBlock _ _ _).heap ++ os)[j]? = _
  rw [Array.getElem?_append_left (by simp [Sort.mapBlock, Sort.ahead]; exact hl)]
  simp [Sort.mapBlock, Sort.ahead, Array.getElem?_modify, Ne.symm hj]

theorem below_sorted {n : Nat} {d' : Array α} {os : Array Obj} (hB : B ≤ g) (hg : g < W.heap.size) : Below B W (sortWorldK enc k W g 0 n d' os) :=
  ⟨rfl, rfl, rfl, size_sortWorldK_c enc k W g 0 n d' os, fun j hj => heap_sorted (by omega) (by omega)⟩
end

end Go.Proofs.YtfbjiaedfmdcfaaGreatDoor

/-! ## Reach -/
namespace Go.Proofs.YtfbjiaedfmdcfaaGreatDoor
open Go.RowKit Go.Shelf

theorem ownsRow_heap {W W' : World} {base : Nat} {t : TypeId} {size : Nat} {v : Value} {k : Nat} {xs : List Value} (h : W.ownsRow base t size v k xs) (hb : ∀ j, base ≤ j → W'.heap[j]? = W.heap[j]?) : W'.ownsRow base t size v k xs := by
  refine ⟨h.1, ?_⟩
  rcases h.2 with h0 | ⟨g, cap, cur, hv, hg, hh, rest⟩
  · exact .inl h0
  · exact .inr ⟨g, cap, cur, hv, hg, (hb g hg).trans hh, rest⟩

end Go.Proofs.YtfbjiaedfmdcfaaGreatDoor

/-! ## Kept -/
namespace Go.Proofs.YtfbjiaedfmdcfaaGreatDoor
open Go.RowKit Go.Proofs

theorem ownsRow_keep {W W' : World} {base : Nat} {t : TypeId} {size : Nat} {v : Value} {k : Nat} {xs : List Value} (h : W.ownsRow base t size v k xs) (hb : ∀ j, base ≤ j → j < W.heap.size → W'.heap[j]? = W.heap[j]?) : W'.ownsRow base t size v k xs := by
  refine ⟨h.1, ?_⟩
  rcases h.2 with h0 | ⟨g, cap, cur, hv, hg, hh, rest⟩
  · exact .inl h0
  · exact .inr ⟨g, cap, cur, hv, hg, (hb g hg (Array.getElem?_eq_some_iff.1 hh).1).trans hh, rest⟩
theorem row_form {W : World} {base : Nat} {t : TypeId} {size : Nat} {v : Value} {k : Nat} {xs : List Value} (h : W.ownsRow base t size v k xs) : ∃ a n c, v = .slice a n c := by
  rcases h.2 with ⟨rfl, _⟩ | ⟨g, cap, cur, rfl, _⟩
  · exact ⟨_, _, _, rfl⟩
  · exact ⟨_, _, _, rfl⟩
end Go.Proofs.YtfbjiaedfmdcfaaGreatDoor
