/-
  Operations, plainly: what they make is fine; no condition.
-/
import Derived.Test.YtlokljaeknmdpaaGreatKZ6
import Derived.Test.YtlokljaeknmdpaaGreatKZ14
/-! ## OpFine -/
namespace Go.Proofs.YtlokljaeknmdpaaGreat

section
variable {g : Gr}
/-! ### what is fine, the audit calls fine -/
end
end Go.Proofs.YtlokljaeknmdpaaGreat
