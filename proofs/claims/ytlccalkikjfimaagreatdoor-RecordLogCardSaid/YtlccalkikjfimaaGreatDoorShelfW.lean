/- Contracts of the library, at the numbers of this translation: laid by program. -/
import Derived.Shelf.Strings.Builder1
import Derived.Shelf.Small.Wraps
import Derived.Test.YtlccalkikjfimaaGreatDoorProg
namespace Go.Proofs.YtlccalkikjfimaaGreatDoor
open Go.Shelf
def Tryz.laysSt_ren : Go.Shelf.Ren := ⟨fun | 169 => 23 | n => n, fun | 70 => 51 | 9 => 9 | 0 => 0 | 72 => 53 | 37 => 41 | 127 => 67 | 3 => 3 | 5 => 5 | n => n, fun | n => n⟩
theorem Tryz.laysSt : Go.Proofs.Lays.n169 Tryz.prog Tryz.laysSt_ren := {
  mixed := by kernel_rfl
  f169 := Tryz.func23.trans (congrArg some (by kernel_rfl))
  t0 := Tryz.underlying0
  a0 := Tryz.isAgg0
  z0 := Tryz.sizeOf0
  v0 := Tryz.zeroValue0
  t3 := Tryz.underlying3
  a3 := Tryz.isAgg3
  z3 := Tryz.sizeOf3
  v3 := Tryz.zeroValue3
  t9 := Tryz.underlying9
  a9 := Tryz.isAgg9
  z9 := Tryz.sizeOf9
  v9 := Tryz.zeroValue9
  t37 := Tryz.underlying41
  a37 := Tryz.isAgg41
  z37 := Tryz.sizeOf41
  v37 := Tryz.zeroValue41
  t70 := Tryz.underlying51
  a70 := Tryz.isAgg51
  z70 := Tryz.sizeOf51
  v70 := Tryz.zeroValue51
  t72 := Tryz.underlying53
  a72 := Tryz.isAgg53
  z72 := Tryz.sizeOf53
  v72 := Tryz.zeroValue53
  t127 := Tryz.underlying67
  a127 := Tryz.isAgg67
  z127 := Tryz.sizeOf67
  v127 := Tryz.zeroValue67 }
def Tryz.laysCS_ren : Go.Shelf.Ren := ⟨fun | 104 => 24 | 211 => 33 | 207 => 45 | n => n, fun | 9 => 9 | 4 => 4 | 24 => 59 | 3 => 3 | n => n, fun | n => n⟩
theorem Tryz.laysCS : Go.Proofs.Lays.n104 Tryz.prog Tryz.laysCS_ren := {
  mixed := by kernel_rfl
  f104 := Tryz.func24.trans (congrArg some (by kernel_rfl))
  f207 := Tryz.func45.trans (congrArg some (by kernel_rfl))
  f211 := Tryz.func33.trans (congrArg some (by kernel_rfl))
  t3 := Tryz.underlying3
  a3 := Tryz.isAgg3
  z3 := Tryz.sizeOf3
  v3 := Tryz.zeroValue3
  t4 := Tryz.underlying4
  a4 := Tryz.isAgg4
  z4 := Tryz.sizeOf4
  v4 := Tryz.zeroValue4
  t9 := Tryz.underlying9
  a9 := Tryz.isAgg9
  z9 := Tryz.sizeOf9
  v9 := Tryz.zeroValue9
  t24 := Tryz.underlying59
  a24 := Tryz.isAgg59
  z24 := Tryz.sizeOf59
  v24 := Tryz.zeroValue59 }
end Go.Proofs.YtlccalkikjfimaaGreatDoor
