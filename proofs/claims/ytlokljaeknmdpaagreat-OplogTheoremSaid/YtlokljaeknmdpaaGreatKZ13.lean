/-
  The iterator of slices.Backward at a list of inodes; condition: at most 1000 of them. · m[k] op= x: mapEntry and entryStore; no condition. · The audit's order, shape, lost, count, many, bounds; condition: at most 1000 of each, and names no longer than a string may be. · Which inodes are reached, in plain words; no condition. · The audit's reach; condition: at most 1000 entries.
-/
import Derived.Test.YtlokljaeknmdpaaGreatKZ9
import Derived.Test.YtlokljaeknmdpaaGreatKZ12
import Derived.Test.YtlokljaeknmdpaaGreatKZ0
import Derived.Test.YtlokljaeknmdpaaGreatKZ10
/-! ## Back -/
namespace Go.Proofs.YtlokljaeknmdpaaGreat
open Go.RowKit Go.Shelf

attribute [local go_sem] Oper.semAt_some

/-- what cells lie below n₁ lies on -/
structure CellsKept (n₁ : Nat) (A B : World) : Prop where
  size : A.heap.size ≤ B.heap.size
  cell : ∀ a : Addr, a.block < n₁ → B.cell? a = A.cell? a

theorem CellsKept.refl (n₁ : Nat) (A : World) : CellsKept n₁ A A := ⟨Nat.le_refl _, fun _ _ => rfl⟩
theorem CellsKept.trans {n₁ : Nat} {A B C : World} (h : CellsKept n₁ A B) (k : CellsKept n₁ B C) : CellsKept n₁ A C := ⟨Nat.le_trans h.size k.size, fun a ha => (k.cell a ha).trans (h.cell a ha)⟩

theorem wrapInt (i : Int) (h1 : -9223372036854775808 ≤ i) (h2 : i < 9223372036854775808) : IntKind.i64.wrap i = i := by
  rw [IntWalk.i64_left]
  unfold wrap64
  omega

def intOf : Value → Int | .int _ i => i | _ => 0

end Go.Proofs.YtlokljaeknmdpaaGreat

/-! ## Entry -/
namespace Go.Proofs.YtlokljaeknmdpaaGreat
open Go.RowKit

section
variable {K V : Type} [DecidableEq K] {P : Program} {kt et T : TypeId} {enc : K → Value} {encV : V → Value} {kv : List (K × V)} {w : World} {b : Nat}

end
end Go.Proofs.YtlokljaeknmdpaaGreat

/-! ## AudF -/
namespace Go.Proofs.YtlokljaeknmdpaaGreat
open Go.RowKit Go.Shelf

instance : Inhabited {x : Ent // x.name.size ≤ maxLen} := ⟨⟨⟨⟨0, 0⟩, ⟨#[]⟩, ⟨0, 0⟩⟩, by decide⟩⟩

end Go.Proofs.YtlokljaeknmdpaaGreat

/-! ## Seen -/
namespace Go.Proofs.YtlokljaeknmdpaaGreat

theorem nodup_len {α : Type} [DecidableEq α] : ∀ (l m : List α), l.Nodup → (∀ a ∈ l, a ∈ m) → l.length ≤ m.length
  | [], _, _, _ => Nat.zero_le _
  | a :: l, m, h, hs => by
    rw [List.nodup_cons] at h
    have ha : a ∈ m := hs a (by simp)
    have ih := nodup_len l (m.erase a) h.2 (fun b hb => (List.mem_erase_of_ne (fun e : b = a => h.1 (by rw [← e]; exact hb))).2 (hs b (by simp [hb])))
    have := List.length_erase_of_mem ha
    have : 0 < m.length := List.length_pos_of_mem ha
    simp only [List.length_cons]
    omega

end Go.Proofs.YtlokljaeknmdpaaGreat

/-! ## AudG -/
namespace Go.Proofs.YtlokljaeknmdpaaGreat
open Go.RowKit Go.Shelf

theorem mapAt_new {K V : Type} (w : World) (enc : K → Value) (encV : V → Value) : MapAt (w.alloc (.map #[] 0)) w.heap.size enc encV [] :=
  ⟨#[], 0, World.alloc_heap_new w _, rfl, by simp [BornOk]⟩

end Go.Proofs.YtlokljaeknmdpaaGreat
