/-
  Opening a parameter that is a slice of bytes, or of whole numbers; no condition.
-/
import Derived.Test.YtlokljaeknmdpaaGreatQOpen
namespace Go.Proofs.YtlokljaeknmdpaaGreat
open Go.RowKit Go.ChangeShapes Go.Deep

def U8.cells (n : Int) : List Value := [.int .u8 n]
def I64.cells (n : Int) : List Value := [.int .i64 n]

section
variable {H : Type} {enc : TypeId × Value → H} {w : World} {base : Nat} {spare : Nat → Bool} {held : Bool}
theorem open_u8' {t : TypeId} {fuel : Nat} {cs : List Value} {x : DataW H × List MemPlace} (ht : Tryz.prog.underlying t = some (.int .u8)) (h : DataW.trod enc Tryz.prog w base spare held fuel t cs = some x) : ∃ n : Int, cs = [.int .u8 n] ∧ (Lit.int .u8 n).wf = true := by
  cases fuel with
  | zero => simp [DataW.trod] at h
  | succ n =>
    unfold DataW.trod at h
    rw [ht] at h
    split at h <;> simp_all
theorem open_u8 {fuel : Nat} {cs : List Value} {x : DataW H × List MemPlace} (h : DataW.trod enc Tryz.prog w base spare held fuel 5 cs = some x) : ∃ n : Int, cs = U8.cells n ∧ (Lit.int .u8 n).wf = true := open_u8' Tryz.underlying5 h
theorem open_int64 {fuel : Nat} {cs : List Value} {x : DataW H × List MemPlace} (h : DataW.trod enc Tryz.prog w base spare held fuel 3 cs = some x) : ∃ n : Int, cs = I64.cells n ∧ True := by
  obtain ⟨n, hn⟩ := open_i64 Tryz.underlying3 h
  exact ⟨n, hn, trivial⟩
end
end Go.Proofs.YtlokljaeknmdpaaGreat
