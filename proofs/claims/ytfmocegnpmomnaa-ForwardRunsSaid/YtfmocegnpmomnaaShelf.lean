/- maps.DeleteFunc of the kit's shelf, laid at this seat's numbers. -/
import Derived.Shelf.SlMaps.DeleteFunc
import Derived.Test.YtfmocegnpmomnaaProg
namespace Go.Proofs
open Go.Shelf
def Try.delII_ren : Go.Shelf.Ren := ⟨fun | 5 => 96 | n => n, fun | 23 => 95 | 26 => 3 | 24 => 3 | 27 => 84 | 0 => 0 | 4 => 4 | n => n, fun | n => n⟩
theorem Try.delII : Go.Proofs.SlLaysDf.n5 Try.prog Try.delII_ren := {
  mixed := by kernel_rfl
  f5 := ⟨Try.f96.name, by decide, Try.func96.trans (congrArg some (by kernel_rfl))⟩
  t0 := Try.underlying0
  a0 := Try.isAgg0
  z0 := Try.sizeOf0
  v0 := Try.zeroValue0
  t4 := Try.underlying4
  a4 := Try.isAgg4
  z4 := Try.sizeOf4
  v4 := Try.zeroValue4
  t23 := Try.underlying95
  a23 := Try.isAgg95
  z23 := Try.sizeOf95
  v23 := Try.zeroValue95
  a24 := Try.isAgg3
  z24 := Try.sizeOf3
  a26 := Try.isAgg3
  z26 := Try.sizeOf3
  t27 := Try.underlying84
  a27 := Try.isAgg84
  z27 := Try.sizeOf84
  v27 := Try.zeroValue84 }
end Go.Proofs
