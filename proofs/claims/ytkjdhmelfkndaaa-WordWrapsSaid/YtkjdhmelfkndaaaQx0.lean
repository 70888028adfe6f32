-- Written by a program of this work (wip/tools/mp.py), not by print.sh.
import Derived.Test.YtkjdhmelfkndaaaProg
import Derived.Below
import Derived.Deep.Draws
import Derived.Deep.AppendLies
import Derived.Maps.AppendAt
import Derived.OwnWalk
import Derived.Laws.BytesArg
import Derived.Laws.MakeOwn
import Derived.Laws.OwnMore
import Derived.Deep.OwnRows
import Derived.Tactics
import Derived.Lib.ConvBytes
import Derived.Laws.Slices
import Derived.WalkKit
import Derived.KernelRfl
import Derived.RowKit3
import Derived.Deep.LoopGhost
import Derived.Deep.QuietTactic
import Derived.BigQuiet
import Derived.WideLaws
import Derived.Deep.DeepCutAuto
import Derived.Deep.CutBlock
import Derived.Deep.RegionHeld3
import Derived.Laws.Rows
import Derived.Lib.AppendStr
import Derived.ArgAppend
import Derived.Laws.IdiomCopy
import Derived.OrdersHeld
import Derived.Laws.BitsLemmas
import Derived.RowKit
import Derived.Test.YtkjdhmelfkndaaaGivenWord
import Derived.Test.YtkjdhmelfkndaaaWWords
import Derived.Test.YtkjdhmelfkndaaaWLast
import Derived.Test.YtkjdhmelfkndaaaWTab
import Derived.Test.YtkjdhmelfkndaaaWFour
import Derived.Test.YtkjdhmelfkndaaaWQPut
import Derived.Test.YtkjdhmelfkndaaaWApart
import Derived.Test.YtkjdhmelfkndaaaWArr
import Derived.Test.YtkjdhmelfkndaaaWZeros
import Derived.Test.YtkjdhmelfkndaaaWFoot
import Derived.Test.YtkjdhmelfkndaaaWKept
import Derived.Test.YtkjdhmelfkndaaaWShare
import Derived.Test.YtkjdhmelfkndaaaWN
import Derived.Test.YtkjdhmelfkndaaaWFootNe
import Derived.Test.YtkjdhmelfkndaaaWAt
import Derived.Test.YtkjdhmelfkndaaaWEqStruct
import Derived.Test.YtkjdhmelfkndaaaWRepsOne
import Derived.Test.YtkjdhmelfkndaaaWInv
import Derived.Test.YtkjdhmelfkndaaaWInvWords
import Derived.Test.YtkjdhmelfkndaaaWGuard
import Derived.Test.YtkjdhmelfkndaaaWNEv
import Derived.Test.YtkjdhmelfkndaaaWMore
namespace Go.Proofs.Ytkjdhmelfkndaaa.Q
open Go.RowKit Go.Proofs.YtkjdhmelfkndaaaW.PrintWords Go.Proofs.YtkjdhmelfkndaaaW.PrintLast Go.Proofs.YtkjdhmelfkndaaaW.PrintMore
attribute [local go_sem] max2_int min2_int max_two min_two max_three min_three max_four min_four   -- for this text's walks alone
set_option linter.unusedVariables false
set_option linter.unusedSimpArgs false



def errW : Option Int → Value
  | none => .nilIface
  | some c => .iface 0 (.int .i64 c)
theorem errW_none : errW none = .nilIface := rfl
theorem errW_some (c : Int) : errW (some c) = .iface 0 (.int .i64 c) := rfl

-- the values' own types

end Go.Proofs.Ytkjdhmelfkndaaa.Q
