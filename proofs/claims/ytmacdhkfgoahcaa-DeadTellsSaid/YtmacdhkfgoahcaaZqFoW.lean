/- Of the text FoW, what this law uses. -/
import Derived.RegionCalls
import Derived.BigCall
import Derived.Test.YtmacdhkfgoahcaaZqFoE
import Derived.Test.YtmacdhkfgoahcaaZqFoI
/- Operations whose numbers are of their kind: as in FoL, for the texts of chapter 23, which want no more of chapter 24's. -/
set_option linter.unusedVariables false
set_option linter.unusedSimpArgs false
namespace Go.Proofs.Ytmacdhkfgoahcaa.Fo
open Go Go.RowKit Go.Maps Go.Proofs.Ytmacdhkfgoahcaa.Q Go.Proofs.YtmacdhkfgoahcaaW.PrintWords Go.Proofs.YtmacdhkfgoahcaaW.PrintLast Go.Proofs.YtmacdhkfgoahcaaW.PrintMore
/-- All numbers of an operation are of their kind. -/
structure WfOp (x : S30) : Prop where
  h1 : wf x.f1
  h2 : wf x.f2
  h3 : wf x.f3
  h4 : wf x.f4
  h5 : ∀ r ∈ x.f5, wf r
end Go.Proofs.Ytmacdhkfgoahcaa.Fo

