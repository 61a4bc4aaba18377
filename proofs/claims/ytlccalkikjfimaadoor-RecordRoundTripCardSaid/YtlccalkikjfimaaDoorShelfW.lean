/- Contracts of the library, at the numbers of this translation: laid by program. -/
import Derived.Shelf.Strings.Builder1
import Derived.Shelf.Small.Wraps
import Derived.Test.YtlccalkikjfimaaDoorProg
namespace Go.Proofs.YtlccalkikjfimaaDoor
open Go.Shelf
def Tryd.laysSt_ren : Go.Shelf.Ren := ⟨fun | 169 => 29 | n => n, fun | 70 => 55 | 9 => 9 | 0 => 0 | 72 => 57 | 37 => 53 | 127 => 79 | 3 => 3 | 5 => 5 | n => n, fun | n => n⟩
theorem Tryd.laysSt : Go.Proofs.Lays.n169 Tryd.prog Tryd.laysSt_ren := {
  mixed := by kernel_rfl
  f169 := Tryd.func29.trans (congrArg some (by kernel_rfl))
  t0 := Tryd.underlying0
  a0 := Tryd.isAgg0
  z0 := Tryd.sizeOf0
  v0 := Tryd.zeroValue0
  t3 := Tryd.underlying3
  a3 := Tryd.isAgg3
  z3 := Tryd.sizeOf3
  v3 := Tryd.zeroValue3
  t9 := Tryd.underlying9
  a9 := Tryd.isAgg9
  z9 := Tryd.sizeOf9
  v9 := Tryd.zeroValue9
  t37 := Tryd.underlying53
  a37 := Tryd.isAgg53
  z37 := Tryd.sizeOf53
  v37 := Tryd.zeroValue53
  t70 := Tryd.underlying55
  a70 := Tryd.isAgg55
  z70 := Tryd.sizeOf55
  v70 := Tryd.zeroValue55
  t72 := Tryd.underlying57
  a72 := Tryd.isAgg57
  z72 := Tryd.sizeOf57
  v72 := Tryd.zeroValue57
  t127 := Tryd.underlying79
  a127 := Tryd.isAgg79
  z127 := Tryd.sizeOf79
  v127 := Tryd.zeroValue79 }
def Tryd.laysCS_ren : Go.Shelf.Ren := ⟨fun | 104 => 30 | 211 => 44 | 207 => 54 | n => n, fun | 9 => 9 | 4 => 4 | 24 => 63 | 3 => 3 | n => n, fun | n => n⟩
theorem Tryd.laysCS : Go.Proofs.Lays.n104 Tryd.prog Tryd.laysCS_ren := {
  mixed := by kernel_rfl
  f104 := Tryd.func30.trans (congrArg some (by kernel_rfl))
  f207 := Tryd.func54.trans (congrArg some (by kernel_rfl))
  f211 := Tryd.func44.trans (congrArg some (by kernel_rfl))
  t3 := Tryd.underlying3
  a3 := Tryd.isAgg3
  z3 := Tryd.sizeOf3
  v3 := Tryd.zeroValue3
  t4 := Tryd.underlying4
  a4 := Tryd.isAgg4
  z4 := Tryd.sizeOf4
  v4 := Tryd.zeroValue4
  t9 := Tryd.underlying9
  a9 := Tryd.isAgg9
  z9 := Tryd.sizeOf9
  v9 := Tryd.zeroValue9
  t24 := Tryd.underlying63
  a24 := Tryd.isAgg63
  z24 := Tryd.sizeOf63
  v24 := Tryd.zeroValue63 }
end Go.Proofs.YtlccalkikjfimaaDoor
