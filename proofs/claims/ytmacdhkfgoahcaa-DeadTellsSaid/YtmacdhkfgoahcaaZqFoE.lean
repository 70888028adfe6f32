/- Of the text FoE, what this law uses. -/
import Derived.Test.YtmacdhkfgoahcaaZqFoD
/- Contract, walked by hand: an operation reckoned by what is known (reckon). For every map, every operation. -/
set_option linter.unusedVariables false
set_option linter.unusedSimpArgs false
namespace Go.Proofs.Ytmacdhkfgoahcaa.Fo
open Go Go.RowKit Go.Maps Go.Proofs.Ytmacdhkfgoahcaa.Q Go.Proofs.YtmacdhkfgoahcaaW.PrintWords Go.Proofs.YtmacdhkfgoahcaaW.PrintLast Go.Proofs.YtmacdhkfgoahcaaW.PrintMore
def constS (x : S30) (n : Int) : S30 := ⟨1, x.f1, 0, 0, n, []⟩
def moveS (x : S30) (a : Int) : S30 := ⟨3, x.f1, a, 0, 0, []⟩
theorem below_un {B n : Nat} {a w : World} (h : Below B a w) : Below B a (w.drewN n) := ⟨h.os, h.tape, h.output, h.size, h.block⟩
end Go.Proofs.Ytmacdhkfgoahcaa.Fo

