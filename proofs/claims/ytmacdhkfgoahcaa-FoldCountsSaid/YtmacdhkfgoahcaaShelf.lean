/-
  DERIVED: THE SHELF's CONTRACTS AT THIS DUMP, IN PLAIN WORDS (tools/lay-plain.mjs out of 'TryShelf.lean', which tools/lay-shelf.mjs wrote): THE SAME DECLARATIONS UNDER THE SAME NAMES: 'import', 'namespace', 'open', 'def', 'theorem' AND NOTHING ELSE: no command of the shelf's: FOR A HAND-IN. Each laying: the table of numbers ('.._ren') and one theorem, a field a fact of the dump's own or the kernel's comparison; each contract: ONE APPLICATION.
-/
import Derived.Shelf.SlMaps.DeleteFunc
import Derived.Test.YtmacdhkfgoahcaaProg
namespace Go.Proofs
open Go.Shelf
def Try.delII_ren : Go.Shelf.Ren := ⟨fun | 5 => 80 | n => n, fun | 23 => 80 | 26 => 3 | 24 => 3 | 27 => 78 | 0 => 0 | 4 => 4 | n => n, fun | n => n⟩
theorem Try.delII : Go.Proofs.SlLaysDf.n5 Try.prog Try.delII_ren := {
  mixed := by kernel_rfl
  f5 := ⟨Try.f80.name, by decide, Try.func80.trans (congrArg some (by kernel_rfl))⟩
  t0 := Try.underlying0
  a0 := Try.isAgg0
  z0 := Try.sizeOf0
  v0 := Try.zeroValue0
  t4 := Try.underlying4
  a4 := Try.isAgg4
  z4 := Try.sizeOf4
  v4 := Try.zeroValue4
  t23 := Try.underlying80
  a23 := Try.isAgg80
  z23 := Try.sizeOf80
  v23 := Try.zeroValue80
  a24 := Try.isAgg3
  z24 := Try.sizeOf3
  a26 := Try.isAgg3
  z26 := Try.sizeOf3
  t27 := Try.underlying78
  a27 := Try.isAgg78
  z27 := Try.sizeOf78
  v27 := Try.zeroValue78 }
end Go.Proofs
