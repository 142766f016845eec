/-
  A file's data, plainly: written, cut, read; no condition.
-/
import Derived.Test.YtfbjiaedfmdcfaaGreatDoorKY0
import Derived.Laws.CopyOwn
/-! ## ExtPl -/
namespace Go.Proofs.YtfbjiaedfmdcfaaGreatDoor
open Go.RowKit

/-- the first n bytes of l, zeros behind -/
def fit (l : List UInt8) (n : Nat) : List UInt8 := l.take n ++ List.replicate (n - l.length) 0
theorem fit_length (l : List UInt8) (n : Nat) : (fit l n).length = n := by simp [fit]; omega

def readF (d : ByteArray) (off many : Int) : ByteArray :=
  if off < 0 ∨ many < 1 ∨ (d.size : Int) ≤ off then ⟨#[]⟩ else d.extract off.toNat (off.toNat + (min many (d.size - off)).toNat)

def truncF (d : ByteArray) (n : Int) : ByteArray × Int :=
  if n < 0 then (d, 1) else if 64 < n ∨ 64 < d.size then (d, 11) else (⟨(fit d.data.toList n.toNat).toArray⟩, 0)

def writeF (d : ByteArray) (off : Int) (s : ByteArray) : ByteArray × Int :=
  if off < 0 ∨ s.data.toList = [] then (d, 1)
  else if 64 < off ∨ 64 - off < s.size ∨ 64 < d.size then (d, 11)
  else (⟨(splice (fit d.data.toList (max d.size (off.toNat + s.size))) off.toNat s.data.toList).toArray⟩, 0)

end Go.Proofs.YtfbjiaedfmdcfaaGreatDoor
