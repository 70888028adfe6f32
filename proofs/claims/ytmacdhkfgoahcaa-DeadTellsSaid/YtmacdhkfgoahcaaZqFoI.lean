/- Of the text FoI, what this law uses. -/
import Derived.Laws.AppendOwn
import Derived.Lib.SliceRun
import Derived.Test.YtmacdhkfgoahcaaZqFoD
/- Contract: slices.Clone of ints, in the walks' words. -/
set_option linter.unusedVariables false
set_option linter.unusedSimpArgs false
namespace Go.Proofs.Ytmacdhkfgoahcaa.Fo
open Go Go.RowKit Go.Maps Go.Proofs.Ytmacdhkfgoahcaa.Q Go.Proofs.YtmacdhkfgoahcaaW.PrintWords Go.Proofs.YtmacdhkfgoahcaaW.PrintLast Go.Proofs.YtmacdhkfgoahcaaW.PrintMore
theorem below_unI {B n : Nat} {a w : World} (h : Below B a w) : Below B a (w.drewN n) := ⟨h.os, h.tape, h.output, h.size, h.block⟩
theorem reps_ints (R : Int → List Value → Prop) (hR : ∀ x, R x [.int .i64 x]) (l : List Int) : Reps R 1 l (l.map (Value.int .i64)) := by
  induction l with
  | nil => exact Reps.none _ _
  | cons a r ih => exact Reps.one (hR a) ih
end Go.Proofs.Ytmacdhkfgoahcaa.Fo

