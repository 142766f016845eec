/-
  What the laws of chapter 12 share: few, made, same; conditions: texts within reach. · The example at the head of the laws of chapter 12; and what all records have. · A slice's first elements; no condition but their number. · A row of records of what operations turned, plainly laid; no condition.
-/
import Derived.Test.YtlokljaeknmdpaaGreatKZ31
import Derived.Test.YtlokljaeknmdpaaGreatKZ23
import Derived.Test.YtlokljaeknmdpaaGreatKZ34
import Derived.Test.YtlokljaeknmdpaaGreatKZ39
import Derived.Test.YtlokljaeknmdpaaGreatKZ26
import Derived.Test.YtlokljaeknmdpaaGreatKZ8
/-! ## L12 -/
namespace Go.Proofs.YtlokljaeknmdpaaGreat.L12
open Go.RowKit Go.Shelf Go.Proofs

end Go.Proofs.YtlokljaeknmdpaaGreat.L12

/-! ## L12S -/
namespace Go.Proofs.YtlokljaeknmdpaaGreat.L12
open Go.RowKit Go.Shelf Go.Proofs

theorem name_small' {s : ByteArray} (h : nameOk s = true) : s.size ≤ maxLen := by
  unfold nameOk at h
  simp only [Bool.and_eq_true, decide_eq_true_eq] at h
  unfold maxLen; omega
theorem diff_small {a b : Gr} (ha : a.Ok) (hb : b.Ok) : ((diffOf a b).lost.length ≤ 1000 ∧ (diffOf a b).made.length ≤ 1000 ∧ (diffOf a b).was.length ≤ 1000 ∧ (diffOf a b).new.length ≤ 1000) ∧ ∀ x ∈ (diffOf a b).lost, x.name.size ≤ maxLen := by
  have h1 := ha.few
  have h2 := hb.few
  have h3 := ha.len
  have h4 := hb.len
  refine ⟨⟨Nat.le_trans (alone_len _ _ _) (by omega), Nat.le_trans (alone_len _ _ _) (by omega), Nat.le_trans (alone_len _ _ _) (by omega), ?_⟩, fun x hx => name_small' (ha.names x (mem_lost.1 hx).1)⟩
  show (newOf a b).length ≤ 1000
  unfold newOf; rw [List.length_map]; exact Nat.le_trans (alone_len _ _ _) (by omega)

end Go.Proofs.YtlokljaeknmdpaaGreat.L12

/-! ## SlTake -/
namespace Go.Proofs.YtlokljaeknmdpaaGreat
open Go.RowKit Go.Proofs

end Go.Proofs.YtlokljaeknmdpaaGreat

/-! ## Recs -/
namespace Go.Proofs.YtlokljaeknmdpaaGreat.L12
open Go.RowKit Go.Shelf Go.Proofs

/-- a record as it lies in a row -/
structure Raw where
  a : Value
  b : Value
  c : Value
  d : Value
  e : Int
instance : Inhabited Raw := ⟨⟨.slice none 0 0, .slice none 0 0, .slice none 0 0, .slice none 0 0, 0⟩⟩
def Raw.cells (r : Raw) : List Value := [r.a, r.b, r.c, r.d, .int .i64 r.e]
theorem infoRec : (Tryz.prog.info? 44).map (fun i => (i.zero, i.size, i.bytes)) = some (some (.agg #[.slice none 0 0, .slice none 0 0, .slice none 0 0, .slice none 0 0, .int .i64 0]), 5, 104) := by kernel_rfl
end Go.Proofs.YtlokljaeknmdpaaGreat.L12
