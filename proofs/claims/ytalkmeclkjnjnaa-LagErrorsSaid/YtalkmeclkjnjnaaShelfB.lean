/- Contracts of the library, at the numbers of this translation: laid by program. -/
import Derived.Shelf.Bits.Mul64
import Derived.Test.YtalkmeclkjnjnaaProg
namespace Go.Proofs.Ytalkmeclkjnjnaa
open Go.Shelf
def Try.mul64_ren : Go.Shelf.Ren := ⟨fun | 264 => 60 | n => n, fun | 53 => 77 | 46 => 88 | n => n, fun | n => n⟩
theorem Try.mul64 : Go.Proofs.Lays.n264 Try.prog Try.mul64_ren := {
  mixed := by kernel_rfl
  f264 := Try.func60.trans (congrArg some (by kernel_rfl))
  t46 := Try.underlying88
  a46 := Try.isAgg88
  z46 := Try.sizeOf88
  v46 := Try.zeroValue88
  t53 := Try.underlying77
  a53 := Try.isAgg77
  z53 := Try.sizeOf77
  v53 := Try.zeroValue77 }
end Go.Proofs.Ytalkmeclkjnjnaa
