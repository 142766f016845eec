/-
  The library contracts laid at this program (none here); no condition.
-/
import Derived.Test.YtfbjiaedfmdcfaaGreatDoorProg
import Derived.Shelf.Abstract
import Derived.Below
/-! ## Lay -/
namespace Go.Proofs.YtfbjiaedfmdcfaaGreatDoor
end Go.Proofs.YtfbjiaedfmdcfaaGreatDoor
