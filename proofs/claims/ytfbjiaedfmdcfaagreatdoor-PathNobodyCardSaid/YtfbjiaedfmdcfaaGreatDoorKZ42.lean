/-
  Opening operations; no condition.
-/
import Derived.Test.YtfbjiaedfmdcfaaGreatDoorKZ41
import Derived.Test.YtfbjiaedfmdcfaaGreatDoorKZ3
/-! ## OpenO -/
namespace Go.Proofs.YtfbjiaedfmdcfaaGreatDoor
open Go.RowKit Go.ChangeShapes Go.Deep

section
variable {H : Type} {enc : TypeId × Value → H} {w : World} {base : Nat} {spare : Nat → Bool} {held : Bool}
end
end Go.Proofs.YtfbjiaedfmdcfaaGreatDoor
