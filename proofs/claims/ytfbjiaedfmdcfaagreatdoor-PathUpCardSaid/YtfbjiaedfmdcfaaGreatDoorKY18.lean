/-
  The library contracts laid at this program (tools/mklay.sh); no condition.
-/
import Derived.Shelf.Spec.SlicesGrow
import Derived.Shelf.Strings.OnBuilder
import Derived.Shelf.Slices.ReverseS
import Derived.Ground.Names8Prog
import Derived.Ground.Names2Prog
import Derived.Ground.NamesProg
import Derived.Test.YtfbjiaedfmdcfaaGreatDoorProg
/-! ## LayP -/
namespace Go.Proofs.YtfbjiaedfmdcfaaGreatDoor
open Go.Shelf Go.Proofs
def lGrowStr_ren : Go.Shelf.Ren := ⟨fun | 4 => 142 | n => n, fun | 22 => 47 | 25 => 9 | 3 => 3 | 4 => 4 | 9 => 9 | 20 => 20 | 0 => 0 | n => n, fun | n => n⟩
theorem lGrowStr : Go.Proofs.Lays8.n4 Tryz.prog lGrowStr_ren := {
  mixed := by kernel_rfl
  f4 := ⟨Tryz.f142.name, by decide, Tryz.func142.trans (congrArg some (by kernel_rfl))⟩
  t0 := Tryz.underlying0
  a0 := Tryz.isAgg0
  z0 := Tryz.sizeOf0
  v0 := Tryz.zeroValue0
  t3 := Tryz.underlying3
  a3 := Tryz.isAgg3
  z3 := Tryz.sizeOf3
  v3 := Tryz.zeroValue3
  t4 := Tryz.underlying4
  a4 := Tryz.isAgg4
  z4 := Tryz.sizeOf4
  v4 := Tryz.zeroValue4
  t9 := Tryz.underlying9
  a9 := Tryz.isAgg9
  z9 := Tryz.sizeOf9
  v9 := Tryz.zeroValue9
  t20 := Tryz.underlying20
  a20 := Tryz.isAgg20
  z20 := Tryz.sizeOf20
  v20 := Tryz.zeroValue20
  t22 := Tryz.underlying47
  a22 := Tryz.isAgg47
  z22 := Tryz.sizeOf47
  v22 := Tryz.zeroValue47 }
def lJoin_ren : Go.Shelf.Ren := ⟨fun | 156 => 74 | 165 => 112 | 166 => 113 | 169 => 114 | 240 => 151 | 241 => 152 | 276 => 193 | 277 => 194 | n => n, fun | 31 => 47 | 9 => 9 | 3 => 3 | 4 => 4 | 0 => 0 | 20 => 20 | 72 => 163 | 76 => 167 | 70 => 161 | 37 => 90 | 75 => 166 | 127 => 196 | 164 => 224 | 5 => 5 | 80 => 169 | n => n, fun | n => n⟩
theorem lJoin : Go.Proofs.Lays.n156 Tryz.prog lJoin_ren := {
  mixed := by kernel_rfl
  f156 := Tryz.func74.trans (congrArg some (by kernel_rfl))
  f165 := Tryz.func112.trans (congrArg some (by kernel_rfl))
  f166 := Tryz.func113.trans (congrArg some (by kernel_rfl))
  f169 := Tryz.func114.trans (congrArg some (by kernel_rfl))
  f240 := Tryz.func151.trans (congrArg some (by kernel_rfl))
  f241 := Tryz.func152.trans (congrArg some (by kernel_rfl))
  f276 := Tryz.func193.trans (congrArg some (by kernel_rfl))
  f277 := Tryz.func194.trans (congrArg some (by kernel_rfl))
  t0 := Tryz.underlying0
  a0 := Tryz.isAgg0
  z0 := Tryz.sizeOf0
  v0 := Tryz.zeroValue0
  t3 := Tryz.underlying3
  a3 := Tryz.isAgg3
  z3 := Tryz.sizeOf3
  v3 := Tryz.zeroValue3
  t4 := Tryz.underlying4
  a4 := Tryz.isAgg4
  z4 := Tryz.sizeOf4
  v4 := Tryz.zeroValue4
  t9 := Tryz.underlying9
  a9 := Tryz.isAgg9
  z9 := Tryz.sizeOf9
  v9 := Tryz.zeroValue9
  t20 := Tryz.underlying20
  a20 := Tryz.isAgg20
  z20 := Tryz.sizeOf20
  v20 := Tryz.zeroValue20
  t31 := Tryz.underlying47
  a31 := Tryz.isAgg47
  z31 := Tryz.sizeOf47
  v31 := Tryz.zeroValue47
  t37 := Tryz.underlying90
  a37 := Tryz.isAgg90
  z37 := Tryz.sizeOf90
  v37 := Tryz.zeroValue90
  t70 := Tryz.underlying161
  a70 := Tryz.isAgg161
  z70 := Tryz.sizeOf161
  v70 := Tryz.zeroValue161
  t72 := Tryz.underlying163
  a72 := Tryz.isAgg163
  z72 := Tryz.sizeOf163
  v72 := Tryz.zeroValue163
  t75 := Tryz.underlying166
  a75 := Tryz.isAgg166
  z75 := Tryz.sizeOf166
  v75 := Tryz.zeroValue166
  t76 := Tryz.underlying167
  a76 := Tryz.isAgg167
  z76 := Tryz.sizeOf167
  v76 := Tryz.zeroValue167
  t127 := Tryz.underlying196
  a127 := Tryz.isAgg196
  z127 := Tryz.sizeOf196
  v127 := Tryz.zeroValue196
  t164 := Tryz.underlying224
  a164 := Tryz.isAgg224
  z164 := Tryz.sizeOf224
  v164 := Tryz.zeroValue224 }
def lRev_ren : Go.Shelf.Ren := ⟨fun | 17 => 73 | n => n, fun | 24 => 47 | 9 => 9 | 3 => 3 | 4 => 4 | 0 => 0 | n => n, fun | n => n⟩
theorem lRev : Go.Proofs.Lays2.n17 Tryz.prog lRev_ren := {
  mixed := by kernel_rfl
  f17 := Tryz.func73.trans (congrArg some (by kernel_rfl))
  t0 := Tryz.underlying0
  a0 := Tryz.isAgg0
  z0 := Tryz.sizeOf0
  v0 := Tryz.zeroValue0
  t3 := Tryz.underlying3
  a3 := Tryz.isAgg3
  z3 := Tryz.sizeOf3
  v3 := Tryz.zeroValue3
  t4 := Tryz.underlying4
  a4 := Tryz.isAgg4
  z4 := Tryz.sizeOf4
  v4 := Tryz.zeroValue4
  t9 := Tryz.underlying9
  a9 := Tryz.isAgg9
  z9 := Tryz.sizeOf9
  v9 := Tryz.zeroValue9
  t24 := Tryz.underlying47
  a24 := Tryz.isAgg47
  z24 := Tryz.sizeOf47
  v24 := Tryz.zeroValue47 }
end Go.Proofs.YtfbjiaedfmdcfaaGreatDoor
