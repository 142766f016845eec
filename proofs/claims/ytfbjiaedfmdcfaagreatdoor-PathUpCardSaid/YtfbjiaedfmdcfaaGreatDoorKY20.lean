/-
  The library contracts laid at this program (tools/mklay.sh); no condition.
-/
import Derived.Shelf.SlicesQ.IndexFunc
import Derived.Ground.SlgfProg
import Derived.Test.YtfbjiaedfmdcfaaGreatDoorProg
/-! ## LayD -/
namespace Go.Proofs.YtfbjiaedfmdcfaaGreatDoor
open Go.Shelf Go.Proofs
def lIdxEnt_ren : Go.Shelf.Ren := ⟨fun | 6 => 150 | n => n, fun | 22 => 86 | 23 => 125 | 25 => 160 | 3 => 3 | 0 => 0 | 4 => 4 | n => n, fun | n => n⟩
theorem lIdxEnt : Go.Proofs.SlLaysH0.n6 Tryz.prog lIdxEnt_ren := {
  mixed := by kernel_rfl
  f6 := ⟨Tryz.f150.name, by decide, Tryz.func150.trans (congrArg some (by kernel_rfl))⟩
  t0 := Tryz.underlying0
  a0 := Tryz.isAgg0
  z0 := Tryz.sizeOf0
  v0 := Tryz.zeroValue0
  t3 := Tryz.underlying3
  a3 := Tryz.isAgg3
  z3 := Tryz.sizeOf3
  v3 := Tryz.zeroValue3
  t4 := Tryz.underlying4
  a4 := Tryz.isAgg4
  z4 := Tryz.sizeOf4
  v4 := Tryz.zeroValue4
  t22 := Tryz.underlying86
  a22 := Tryz.isAgg86
  z22 := Tryz.sizeOf86
  v22 := Tryz.zeroValue86
  t25 := Tryz.underlying160
  a25 := Tryz.isAgg160
  z25 := Tryz.sizeOf160
  v25 := Tryz.zeroValue160 }
end Go.Proofs.YtfbjiaedfmdcfaaGreatDoor
