/- Of the text FoD, what this law uses. -/
import Derived.Test.YtmacdhkfgoahcaaZqFoC
/- Contract, walked by hand: an operation on two that are known (both). For every map, every operation. -/
set_option linter.unusedVariables false
set_option linter.unusedSimpArgs false
namespace Go.Proofs.Ytmacdhkfgoahcaa.Fo
open Go Go.RowKit Go.Maps Go.Proofs.Ytmacdhkfgoahcaa.Q Go.Proofs.YtmacdhkfgoahcaaW.PrintWords Go.Proofs.YtmacdhkfgoahcaaW.PrintLast Go.Proofs.YtmacdhkfgoahcaaW.PrintMore
def bothR (m : Fn) (x : S30) : Int × Bool := match m x.f2, m x.f3 with
  | some a, some b => ((doR x.f4 a b).1, (doR x.f4 a b).2 == 0)
  | _, _ => (0, false)
/-- An operation, as a value. -/
def opV (x : S30) (v5 : Value) : Value := .agg #[.int .i64 x.f0, .int .i64 x.f1, .int .i64 x.f2, .int .i64 x.f3, .int .i64 x.f4, v5]
end Go.Proofs.Ytmacdhkfgoahcaa.Fo

