/-
  No cell of these rows narrows 'for every input' (looked for: loops, veiled, ifaces, maps, wideKeys, modest, calm, conditions, laid).
  DERIVED. THE GIVEN ROWS OF THIS SEAT. 6 by the template 'for every input the law returns true; each argument reads behind the call as it read before'; 0 by the template 'total and deterministic' (their statements: YtmacdhkfgoahcaaTotals.lean).
  GIVEN WITH THE SEED: the statements are not yours to turn. If you find one false, say at which input.
  Laid BY PROGRAM, IN A SANDBOX (cutbox-rows.mjs): the forced cells as the released guide's own fill.sh prints them over the translation c18f16709294c574… (all of the seat's roots in one cut). By AI agents, Wed Nov 11 2026. No macro, syntax, notation, axiom, sorry.
-/
import Derived.Test.YtmacdhkfgoahcaaChecked
import GoSem.Claim
import GoSem.ClaimJoined
import GoSem.ClaimMapViews
import Derived.JoinedTies
import Derived.KernelRfl
namespace Go.Proofs.Ytmacdhkfgoahcaa
/- THE CELL 'sum', in the pinned program and in every row, IS THE sha256 OF THE DUMP (.gsa) THAT YtmacdhkfgoahcaaProg.lean LOADS. Nothing in Lean hashes anything: it is a label: what it is worth is what the hold of that sum in a sandbox is worth. -/
noncomputable def Try.pinned : Pinned := { name := "ytmacdhkfgoahcaa", sum := "c18f16709294c574e29f70740e998237080c54a4c8f9faf87f7b5bcaa269973b", checked := Try.checked }
namespace Rows
def none {H : Type} : Left H := { results := [], args := [] }

/-- 'swagelaw23.DeadChain': WHATEVER THE INPUT: true; the input reads as it did. -/
def deadChainSpec : ChangeSpec := { name := "deadChain", fn := fun _ => fun
  | [d] => { results := [.lit (.bool true)], args := [d] }
  | _ => none }
def deadChainRow : OpenClaim := { program := "ytmacdhkfgoahcaa", sum := "c18f16709294c574e29f70740e998237080c54a4c8f9faf87f7b5bcaa269973b", func := "swage/swagelaw23.DeadChain", spec := "deadChain", unfollowed := true, recurses := true, plainKeys := false, apart := false }
def DeadChainSaid : Prop := deadChainRow.holds Try.pinned (OpenSpec.ofChange deadChainSpec)

/-- ITS FALSE NEIGHBOUR: 'it returns false'. Refute it at one input. -/
def deadChainWrong : ChangeSpec := { name := "deadChain", fn := fun _ => fun
  | [d] => { results := [.lit (.bool false)], args := [d] }
  | _ => none }
def DeadChainWrongFalsely : Prop := deadChainRow.holds Try.pinned (OpenSpec.ofChange deadChainWrong)

/-- 'swagelaw23.DeadTells': WHATEVER THE INPUT: true; the input reads as it did. -/
def deadTellsSpec : ChangeSpec := { name := "deadTells", fn := fun _ => fun
  | [d] => { results := [.lit (.bool true)], args := [d] }
  | _ => none }
def deadTellsRow : OpenClaim := { program := "ytmacdhkfgoahcaa", sum := "c18f16709294c574e29f70740e998237080c54a4c8f9faf87f7b5bcaa269973b", func := "swage/swagelaw23.DeadTells", spec := "deadTells", unfollowed := true, recurses := true, plainKeys := false, apart := false }
def DeadTellsSaid : Prop := deadTellsRow.holds Try.pinned (OpenSpec.ofChange deadTellsSpec)

/-- ITS FALSE NEIGHBOUR: 'it returns false'. Refute it at one input. -/
def deadTellsWrong : ChangeSpec := { name := "deadTells", fn := fun _ => fun
  | [d] => { results := [.lit (.bool false)], args := [d] }
  | _ => none }
def DeadTellsWrongFalsely : Prop := deadTellsRow.holds Try.pinned (OpenSpec.ofChange deadTellsWrong)

/-- 'swagelaw23.DeadLeaves': WHATEVER THE INPUT: true; the input reads as it did. -/
def deadLeavesSpec : ChangeSpec := { name := "deadLeaves", fn := fun _ => fun
  | [d] => { results := [.lit (.bool true)], args := [d] }
  | _ => none }
def deadLeavesRow : OpenClaim := { program := "ytmacdhkfgoahcaa", sum := "c18f16709294c574e29f70740e998237080c54a4c8f9faf87f7b5bcaa269973b", func := "swage/swagelaw23.DeadLeaves", spec := "deadLeaves", unfollowed := true, recurses := true, plainKeys := false, apart := false }
def DeadLeavesSaid : Prop := deadLeavesRow.holds Try.pinned (OpenSpec.ofChange deadLeavesSpec)

/-- ITS FALSE NEIGHBOUR: 'it returns false'. Refute it at one input. -/
def deadLeavesWrong : ChangeSpec := { name := "deadLeaves", fn := fun _ => fun
  | [d] => { results := [.lit (.bool false)], args := [d] }
  | _ => none }
def DeadLeavesWrongFalsely : Prop := deadLeavesRow.holds Try.pinned (OpenSpec.ofChange deadLeavesWrong)

/-- 'swagelaw22.ForwardCounts': WHATEVER THE INPUT: true; the input reads as it did. -/
def forwardCountsSpec : ChangeSpec := { name := "forwardCounts", fn := fun _ => fun
  | [d1, d2] => { results := [.lit (.bool true)], args := [d1, d2] }
  | _ => none }
def forwardCountsRow : OpenClaim := { program := "ytmacdhkfgoahcaa", sum := "c18f16709294c574e29f70740e998237080c54a4c8f9faf87f7b5bcaa269973b", func := "swage/swagelaw22.ForwardCounts", spec := "forwardCounts", unfollowed := true, recurses := true, plainKeys := false, apart := false }
def ForwardCountsSaid : Prop := forwardCountsRow.holds Try.pinned (OpenSpec.ofChange forwardCountsSpec)

/-- ITS FALSE NEIGHBOUR: 'it returns false'. Refute it at one input. -/
def forwardCountsWrong : ChangeSpec := { name := "forwardCounts", fn := fun _ => fun
  | [d1, d2] => { results := [.lit (.bool false)], args := [d1, d2] }
  | _ => none }
def ForwardCountsWrongFalsely : Prop := forwardCountsRow.holds Try.pinned (OpenSpec.ofChange forwardCountsWrong)

/-- 'swagelaw24.FoldNumbers': WHATEVER THE INPUT: true; the input reads as it did. -/
def foldNumbersSpec : ChangeSpec := { name := "foldNumbers", fn := fun _ => fun
  | [d1, d2, d3] => { results := [.lit (.bool true)], args := [d1, d2, d3] }
  | _ => none }
def foldNumbersRow : OpenClaim := { program := "ytmacdhkfgoahcaa", sum := "c18f16709294c574e29f70740e998237080c54a4c8f9faf87f7b5bcaa269973b", func := "swage/swagelaw24.FoldNumbers", spec := "foldNumbers", unfollowed := true, recurses := true, plainKeys := false, apart := false }
def FoldNumbersSaid : Prop := foldNumbersRow.holds Try.pinned (OpenSpec.ofChange foldNumbersSpec)

/-- ITS FALSE NEIGHBOUR: 'it returns false'. Refute it at one input. -/
def foldNumbersWrong : ChangeSpec := { name := "foldNumbers", fn := fun _ => fun
  | [d1, d2, d3] => { results := [.lit (.bool false)], args := [d1, d2, d3] }
  | _ => none }
def FoldNumbersWrongFalsely : Prop := foldNumbersRow.holds Try.pinned (OpenSpec.ofChange foldNumbersWrong)

/-- 'swagelaw24.FoldCounts': WHATEVER THE INPUT: true; the input reads as it did. -/
def foldCountsSpec : ChangeSpec := { name := "foldCounts", fn := fun _ => fun
  | [d] => { results := [.lit (.bool true)], args := [d] }
  | _ => none }
def foldCountsRow : OpenClaim := { program := "ytmacdhkfgoahcaa", sum := "c18f16709294c574e29f70740e998237080c54a4c8f9faf87f7b5bcaa269973b", func := "swage/swagelaw24.FoldCounts", spec := "foldCounts", unfollowed := true, recurses := true, plainKeys := false, apart := false }
def FoldCountsSaid : Prop := foldCountsRow.holds Try.pinned (OpenSpec.ofChange foldCountsSpec)

/-- ITS FALSE NEIGHBOUR: 'it returns false'. Refute it at one input. -/
def foldCountsWrong : ChangeSpec := { name := "foldCounts", fn := fun _ => fun
  | [d] => { results := [.lit (.bool false)], args := [d] }
  | _ => none }
def FoldCountsWrongFalsely : Prop := foldCountsRow.holds Try.pinned (OpenSpec.ofChange foldCountsWrong)

/- THE SECOND FORM. 'bulk': how many values and letters a reading holds, each counted each time it is reached (what is shared counts as often as it is met; a slice's spare places count too). A statement '..UptoSaid' is the law's where the arguments, and the package variables that the reading takes, are together of bulk at most 1048576: NARROWER than '..Said'. Prove '..Said' where nothing that the law and all that it calls make is longer than what came in: it says more and counts as full. Else prove '..UptoSaid'. A law counts once. -/
mutual
def uptoBulk {H : Type} : DataW H → Nat
  | .lit (.string bytes) => bytes.length + 1
  | .lit _ => 1
  | .nil => 1
  | .ptr d => uptoBulk d + 1
  | .slice elems spare => uptoBulkAll elems + uptoBulkAll spare + 1
  | .agg parts => uptoBulkAll parts + 1
  | .iface _ d => uptoBulk d + 1
  | .map entries => uptoBulkEntries entries + 1
  | .held _ => 1
def uptoBulkAll {H : Type} : List (DataW H) → Nat
  | [] => 0
  | d :: r => uptoBulk d + uptoBulkAll r
def uptoBulkEntries {H : Type} : List (Lit × DataW H) → Nat
  | [] => 0
  | x :: r => uptoBulkEntry x + uptoBulkEntries r
def uptoBulkEntry {H : Type} : Lit × DataW H → Nat
  | (.string bytes, d) => bytes.length + uptoBulk d + 1
  | (_, d) => uptoBulk d + 1
 end
def uptoSmall : (H : Type) → List (DataW H) → Bool := fun _ ds => decide (uptoBulkAll ds ≤ 1048576)
def OpenSpec.upto (s : _root_.Go.ChangeSpec) : _root_.Go.OpenSpec := { _root_.Go.OpenSpec.ofChange s with cond := some uptoSmall }

/-- 'swagelaw23.DeadChain', WHERE WHAT IT READS IS OF BULK AT MOST 1048576: true; the input reads as it did. -/
def deadChainUptoRow : OpenClaim := { program := "ytmacdhkfgoahcaa", sum := "c18f16709294c574e29f70740e998237080c54a4c8f9faf87f7b5bcaa269973b", func := "swage/swagelaw23.DeadChain", spec := "deadChain", unfollowed := true, recurses := true, plainKeys := false, apart := false, narrowed := true }
def DeadChainUptoSaid : Prop := deadChainUptoRow.holds Try.pinned (OpenSpec.upto deadChainSpec)

/-- 'swagelaw23.DeadTells', WHERE WHAT IT READS IS OF BULK AT MOST 1048576: true; the input reads as it did. -/
def deadTellsUptoRow : OpenClaim := { program := "ytmacdhkfgoahcaa", sum := "c18f16709294c574e29f70740e998237080c54a4c8f9faf87f7b5bcaa269973b", func := "swage/swagelaw23.DeadTells", spec := "deadTells", unfollowed := true, recurses := true, plainKeys := false, apart := false, narrowed := true }
def DeadTellsUptoSaid : Prop := deadTellsUptoRow.holds Try.pinned (OpenSpec.upto deadTellsSpec)

/-- 'swagelaw23.DeadLeaves', WHERE WHAT IT READS IS OF BULK AT MOST 1048576: true; the input reads as it did. -/
def deadLeavesUptoRow : OpenClaim := { program := "ytmacdhkfgoahcaa", sum := "c18f16709294c574e29f70740e998237080c54a4c8f9faf87f7b5bcaa269973b", func := "swage/swagelaw23.DeadLeaves", spec := "deadLeaves", unfollowed := true, recurses := true, plainKeys := false, apart := false, narrowed := true }
def DeadLeavesUptoSaid : Prop := deadLeavesUptoRow.holds Try.pinned (OpenSpec.upto deadLeavesSpec)

/-- 'swagelaw22.ForwardCounts', WHERE WHAT IT READS IS OF BULK AT MOST 1048576: true; the input reads as it did. -/
def forwardCountsUptoRow : OpenClaim := { program := "ytmacdhkfgoahcaa", sum := "c18f16709294c574e29f70740e998237080c54a4c8f9faf87f7b5bcaa269973b", func := "swage/swagelaw22.ForwardCounts", spec := "forwardCounts", unfollowed := true, recurses := true, plainKeys := false, apart := false, narrowed := true }
def ForwardCountsUptoSaid : Prop := forwardCountsUptoRow.holds Try.pinned (OpenSpec.upto forwardCountsSpec)

/-- 'swagelaw24.FoldNumbers', WHERE WHAT IT READS IS OF BULK AT MOST 1048576: true; the input reads as it did. -/
def foldNumbersUptoRow : OpenClaim := { program := "ytmacdhkfgoahcaa", sum := "c18f16709294c574e29f70740e998237080c54a4c8f9faf87f7b5bcaa269973b", func := "swage/swagelaw24.FoldNumbers", spec := "foldNumbers", unfollowed := true, recurses := true, plainKeys := false, apart := false, narrowed := true }
def FoldNumbersUptoSaid : Prop := foldNumbersUptoRow.holds Try.pinned (OpenSpec.upto foldNumbersSpec)

/-- 'swagelaw24.FoldCounts', WHERE WHAT IT READS IS OF BULK AT MOST 1048576: true; the input reads as it did. -/
def foldCountsUptoRow : OpenClaim := { program := "ytmacdhkfgoahcaa", sum := "c18f16709294c574e29f70740e998237080c54a4c8f9faf87f7b5bcaa269973b", func := "swage/swagelaw24.FoldCounts", spec := "foldCounts", unfollowed := true, recurses := true, plainKeys := false, apart := false, narrowed := true }
def FoldCountsUptoSaid : Prop := foldCountsUptoRow.holds Try.pinned (OpenSpec.upto foldCountsSpec)

end Rows
end Go.Proofs.Ytmacdhkfgoahcaa
