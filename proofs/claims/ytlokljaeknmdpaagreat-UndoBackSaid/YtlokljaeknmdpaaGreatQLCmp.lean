/-
  Comparisons of like structures; no condition.
-/
import Derived.Test.YtlokljaeknmdpaaGreatQOpM
namespace Go.Proofs.YtlokljaeknmdpaaGreat.L11
open Go.RowKit Go.Shelf Go.Proofs

theorem eq_ino_self (p : Ino) (w : World) : (Op.equal 62 (.agg #[.int .i64 p.id.t, .int .i64 p.id.r, .int .i64 p.kind, .int .i64 p.links, .int .i64 p.mode, .string p.data]) (.agg #[.int .i64 p.id.t, .int .i64 p.id.r, .int .i64 p.kind, .int .i64 p.links, .int .i64 p.mode, .string p.data])).run Tryz.prog w = .ok true w := by
  show (Op.equalIn (9999 + 1) 62 _ _).run Tryz.prog w = _
  have hu := Tryz.underlying2
  have hv := Tryz.underlying3
  have hs := Tryz.underlying9
  have ha := Tryz.underlying31
  obtain ⟨⟨p0, p1⟩, p2, p3, p4, p5⟩ := p
  simp only
  go_simp
theorem neq_ino_self (p : Ino) (w : World) : (binOp .neq 62 (.agg #[.int .i64 p.id.t, .int .i64 p.id.r, .int .i64 p.kind, .int .i64 p.links, .int .i64 p.mode, .string p.data]) (.agg #[.int .i64 p.id.t, .int .i64 p.id.r, .int .i64 p.kind, .int .i64 p.links, .int .i64 p.mode, .string p.data])).run Tryz.prog w = .ok (.bool false) w := by
  simp only [binOp]
  simp [eq_ino_self p w]
theorem neq_st_self (p : St) (w : World) : (binOp .neq 31 (.agg #[.int .i64 p.t, .int .i64 p.r]) (.agg #[.int .i64 p.t, .int .i64 p.r])).run Tryz.prog w = .ok (.bool false) w := by
  rw [neq_st]; simp
theorem eql_st_self (p : St) (w : World) : (binOp .eql 31 (.agg #[.int .i64 p.t, .int .i64 p.r]) (.agg #[.int .i64 p.t, .int .i64 p.r])).run Tryz.prog w = .ok (.bool true) w := by
  rw [eql_st]; simp
theorem eql_st_no (p q : St) (h : p ≠ q) (w : World) : (binOp .eql 31 (.agg #[.int .i64 p.t, .int .i64 p.r]) (.agg #[.int .i64 q.t, .int .i64 q.r])).run Tryz.prog w = .ok (.bool false) w := by
  rw [eql_st]; simp [h]
end Go.Proofs.YtlokljaeknmdpaaGreat.L11
