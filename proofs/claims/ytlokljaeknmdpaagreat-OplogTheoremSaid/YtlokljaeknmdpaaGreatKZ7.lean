/-
  The library contracts laid at this program (tools/mklay.sh); no condition.
-/
import Derived.Shelf.SlicesQ.IndexFunc
import Derived.Ground.SlgfProg
import Derived.Test.YtlokljaeknmdpaaGreatProg
/-! ## Lay -/
namespace Go.Proofs.YtlokljaeknmdpaaGreat
open Go.Shelf Go.Proofs
def lHasIno_ren : Go.Shelf.Ren := ⟨fun | 8 => 116 | 6 => 161 | n => n, fun | 22 => 36 | 23 => 62 | 25 => 142 | 4 => 4 | 3 => 3 | 0 => 0 | n => n, fun | n => n⟩
theorem lHasIno : Go.Proofs.SlLaysH0.n8 Tryz.prog lHasIno_ren := {
  mixed := by kernel_rfl
  f6 := ⟨Tryz.f161.name, by decide, Tryz.func161.trans (congrArg some (by kernel_rfl))⟩
  f8 := ⟨Tryz.f116.name, by decide, Tryz.func116.trans (congrArg some (by kernel_rfl))⟩
  t0 := Tryz.underlying0
  a0 := Tryz.isAgg0
  z0 := Tryz.sizeOf0
  v0 := Tryz.zeroValue0
  t3 := Tryz.underlying3
  a3 := Tryz.isAgg3
  z3 := Tryz.sizeOf3
  v3 := Tryz.zeroValue3
  t4 := Tryz.underlying4
  a4 := Tryz.isAgg4
  z4 := Tryz.sizeOf4
  v4 := Tryz.zeroValue4
  t22 := Tryz.underlying36
  a22 := Tryz.isAgg36
  z22 := Tryz.sizeOf36
  v22 := Tryz.zeroValue36
  t25 := Tryz.underlying142
  a25 := Tryz.isAgg142
  z25 := Tryz.sizeOf142
  v25 := Tryz.zeroValue142 }
def lHasEnt_ren : Go.Shelf.Ren := ⟨fun | 8 => 118 | 6 => 162 | n => n, fun | 22 => 24 | 23 => 34 | 25 => 150 | 4 => 4 | 3 => 3 | 0 => 0 | n => n, fun | n => n⟩
theorem lHasEnt : Go.Proofs.SlLaysH0.n8 Tryz.prog lHasEnt_ren := {
  mixed := by kernel_rfl
  f6 := ⟨Tryz.f162.name, by decide, Tryz.func162.trans (congrArg some (by kernel_rfl))⟩
  f8 := ⟨Tryz.f118.name, by decide, Tryz.func118.trans (congrArg some (by kernel_rfl))⟩
  t0 := Tryz.underlying0
  a0 := Tryz.isAgg0
  z0 := Tryz.sizeOf0
  v0 := Tryz.zeroValue0
  t3 := Tryz.underlying3
  a3 := Tryz.isAgg3
  z3 := Tryz.sizeOf3
  v3 := Tryz.zeroValue3
  t4 := Tryz.underlying4
  a4 := Tryz.isAgg4
  z4 := Tryz.sizeOf4
  v4 := Tryz.zeroValue4
  t22 := Tryz.underlying24
  a22 := Tryz.isAgg24
  z22 := Tryz.sizeOf24
  v22 := Tryz.zeroValue24
  t25 := Tryz.underlying150
  a25 := Tryz.isAgg150
  z25 := Tryz.sizeOf150
  v25 := Tryz.zeroValue150 }
end Go.Proofs.YtlokljaeknmdpaaGreat
