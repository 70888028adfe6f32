/- Of the text DeR, what this law uses. -/
import Derived.Shelf.Slices.Reverse
import Derived.Test.YtmacdhkfgoahcaaProg
/- slices.Reverse laid at this program (in lay-plain's form, by hand). -/
namespace Go.Proofs
open Go.Shelf
def Try.revI_ren : Go.Shelf.Ren := ⟨fun | 112 => 36 | n => n, fun | 28 => 22 | n => n, fun | n => n⟩
theorem Try.revI : Go.Proofs.Lays.n112 Try.prog Try.revI_ren := {
  mixed := by kernel_rfl
  f112 := Try.func36.trans (congrArg some (by kernel_rfl))
  t0 := Try.underlying0
  a0 := Try.isAgg0
  z0 := Try.sizeOf0
  v0 := Try.zeroValue0
  t3 := Try.underlying3
  a3 := Try.isAgg3
  z3 := Try.sizeOf3
  v3 := Try.zeroValue3
  t4 := Try.underlying4
  a4 := Try.isAgg4
  z4 := Try.sizeOf4
  v4 := Try.zeroValue4
  t28 := Try.underlying22
  a28 := Try.isAgg22
  z28 := Try.sizeOf22
  v28 := Try.zeroValue22
}
end Go.Proofs

