/-
  No cell of these rows narrows 'for every input' (looked for: loops, veiled, ifaces, maps, wideKeys, modest, calm, conditions, laid).
  DERIVED. THE GIVEN ROWS OF THIS SEAT. 6 by the template 'for every input the law returns true; each argument reads behind the call as it read before'; 0 by the template 'total and deterministic' (their statements: YtfmocegnpmomnaaTotals.lean).
  GIVEN WITH THE SEED: the statements are not yours to turn. If you find one false, say at which input.
  Laid BY PROGRAM, IN A SANDBOX (cutbox-rows.mjs): the forced cells as the released guide's own fill.sh prints them over the translation da1a3798ddc1a331… (all of the seat's roots in one cut). By AI agents, Wed Nov 11 2026. No macro, syntax, notation, axiom, sorry.
-/
import Derived.Test.YtfmocegnpmomnaaChecked
import GoSem.Claim
import GoSem.ClaimJoined
import GoSem.ClaimMapViews
import Derived.JoinedTies
import Derived.KernelRfl
namespace Go.Proofs.Ytfmocegnpmomnaa
/- THE CELL 'sum', in the pinned program and in every row, IS THE sha256 OF THE DUMP (.gsa) THAT YtfmocegnpmomnaaProg.lean LOADS. Nothing in Lean hashes anything: it is a label: what it is worth is what the hold of that sum in a sandbox is worth. -/
noncomputable def Try.pinned : Pinned := { name := "ytfmocegnpmomnaa", sum := "da1a3798ddc1a33180b479ad860d98b35fe67df4c6f52151406a38fcd02df298", checked := Try.checked }
namespace Rows
def none {H : Type} : Left H := { results := [], args := [] }

/-- 'swagelaw15.TraceRuns': WHATEVER THE INPUT: true; the input reads as it did. -/
def traceRunsSpec : ChangeSpec := { name := "traceRuns", fn := fun _ => fun
  | [d1, d2, d3, d4] => { results := [.lit (.bool true)], args := [d1, d2, d3, d4] }
  | _ => none }
def traceRunsRow : OpenClaim := { program := "ytfmocegnpmomnaa", sum := "da1a3798ddc1a33180b479ad860d98b35fe67df4c6f52151406a38fcd02df298", func := "swage/swagelaw15.TraceRuns", spec := "traceRuns", unfollowed := true, recurses := true, plainKeys := false, apart := false }
def TraceRunsSaid : Prop := traceRunsRow.holds Try.pinned (OpenSpec.ofChange traceRunsSpec)

/-- ITS FALSE NEIGHBOUR: 'it returns false'. Refute it at one input. -/
def traceRunsWrong : ChangeSpec := { name := "traceRuns", fn := fun _ => fun
  | [d1, d2, d3, d4] => { results := [.lit (.bool false)], args := [d1, d2, d3, d4] }
  | _ => none }
def TraceRunsWrongFalsely : Prop := traceRunsRow.holds Try.pinned (OpenSpec.ofChange traceRunsWrong)

/-- 'swagelaw15.TraceMore': WHATEVER THE INPUT: true; the input reads as it did. -/
def traceMoreSpec : ChangeSpec := { name := "traceMore", fn := fun _ => fun
  | [d1, d2, d3, d4, d5] => { results := [.lit (.bool true)], args := [d1, d2, d3, d4, d5] }
  | _ => none }
def traceMoreRow : OpenClaim := { program := "ytfmocegnpmomnaa", sum := "da1a3798ddc1a33180b479ad860d98b35fe67df4c6f52151406a38fcd02df298", func := "swage/swagelaw15.TraceMore", spec := "traceMore", unfollowed := true, recurses := true, plainKeys := false, apart := false }
def TraceMoreSaid : Prop := traceMoreRow.holds Try.pinned (OpenSpec.ofChange traceMoreSpec)

/-- ITS FALSE NEIGHBOUR: 'it returns false'. Refute it at one input. -/
def traceMoreWrong : ChangeSpec := { name := "traceMore", fn := fun _ => fun
  | [d1, d2, d3, d4, d5] => { results := [.lit (.bool false)], args := [d1, d2, d3, d4, d5] }
  | _ => none }
def TraceMoreWrongFalsely : Prop := traceMoreRow.holds Try.pinned (OpenSpec.ofChange traceMoreWrong)

/-- 'swagelaw15.TraceCounts': WHATEVER THE INPUT: true; the input reads as it did. -/
def traceCountsSpec : ChangeSpec := { name := "traceCounts", fn := fun _ => fun
  | [d1, d2, d3, d4] => { results := [.lit (.bool true)], args := [d1, d2, d3, d4] }
  | _ => none }
def traceCountsRow : OpenClaim := { program := "ytfmocegnpmomnaa", sum := "da1a3798ddc1a33180b479ad860d98b35fe67df4c6f52151406a38fcd02df298", func := "swage/swagelaw15.TraceCounts", spec := "traceCounts", unfollowed := true, recurses := true, plainKeys := false, apart := false }
def TraceCountsSaid : Prop := traceCountsRow.holds Try.pinned (OpenSpec.ofChange traceCountsSpec)

/-- ITS FALSE NEIGHBOUR: 'it returns false'. Refute it at one input. -/
def traceCountsWrong : ChangeSpec := { name := "traceCounts", fn := fun _ => fun
  | [d1, d2, d3, d4] => { results := [.lit (.bool false)], args := [d1, d2, d3, d4] }
  | _ => none }
def TraceCountsWrongFalsely : Prop := traceCountsRow.holds Try.pinned (OpenSpec.ofChange traceCountsWrong)

/-- 'swagelaw15.TraceReckons': WHATEVER THE INPUT: true; the input reads as it did. -/
def traceReckonsSpec : ChangeSpec := { name := "traceReckons", fn := fun _ => fun
  | [d1, d2, d3] => { results := [.lit (.bool true)], args := [d1, d2, d3] }
  | _ => none }
def traceReckonsRow : OpenClaim := { program := "ytfmocegnpmomnaa", sum := "da1a3798ddc1a33180b479ad860d98b35fe67df4c6f52151406a38fcd02df298", func := "swage/swagelaw15.TraceReckons", spec := "traceReckons", unfollowed := true, recurses := true, plainKeys := false, apart := false }
def TraceReckonsSaid : Prop := traceReckonsRow.holds Try.pinned (OpenSpec.ofChange traceReckonsSpec)

/-- ITS FALSE NEIGHBOUR: 'it returns false'. Refute it at one input. -/
def traceReckonsWrong : ChangeSpec := { name := "traceReckons", fn := fun _ => fun
  | [d1, d2, d3] => { results := [.lit (.bool false)], args := [d1, d2, d3] }
  | _ => none }
def TraceReckonsWrongFalsely : Prop := traceReckonsRow.holds Try.pinned (OpenSpec.ofChange traceReckonsWrong)

/-- 'swagelaw22.ForwardRuns': WHATEVER THE INPUT: true; the input reads as it did. -/
def forwardRunsSpec : ChangeSpec := { name := "forwardRuns", fn := fun _ => fun
  | [d1, d2, d3, d4] => { results := [.lit (.bool true)], args := [d1, d2, d3, d4] }
  | _ => none }
def forwardRunsRow : OpenClaim := { program := "ytfmocegnpmomnaa", sum := "da1a3798ddc1a33180b479ad860d98b35fe67df4c6f52151406a38fcd02df298", func := "swage/swagelaw22.ForwardRuns", spec := "forwardRuns", unfollowed := true, recurses := true, plainKeys := false, apart := false }
def ForwardRunsSaid : Prop := forwardRunsRow.holds Try.pinned (OpenSpec.ofChange forwardRunsSpec)

/-- ITS FALSE NEIGHBOUR: 'it returns false'. Refute it at one input. -/
def forwardRunsWrong : ChangeSpec := { name := "forwardRuns", fn := fun _ => fun
  | [d1, d2, d3, d4] => { results := [.lit (.bool false)], args := [d1, d2, d3, d4] }
  | _ => none }
def ForwardRunsWrongFalsely : Prop := forwardRunsRow.holds Try.pinned (OpenSpec.ofChange forwardRunsWrong)

/-- 'swagelaw24.FoldRuns': WHATEVER THE INPUT: true; the input reads as it did. -/
def foldRunsSpec : ChangeSpec := { name := "foldRuns", fn := fun _ => fun
  | [d1, d2, d3, d4] => { results := [.lit (.bool true)], args := [d1, d2, d3, d4] }
  | _ => none }
def foldRunsRow : OpenClaim := { program := "ytfmocegnpmomnaa", sum := "da1a3798ddc1a33180b479ad860d98b35fe67df4c6f52151406a38fcd02df298", func := "swage/swagelaw24.FoldRuns", spec := "foldRuns", unfollowed := true, recurses := true, plainKeys := false, apart := false }
def FoldRunsSaid : Prop := foldRunsRow.holds Try.pinned (OpenSpec.ofChange foldRunsSpec)

/-- ITS FALSE NEIGHBOUR: 'it returns false'. Refute it at one input. -/
def foldRunsWrong : ChangeSpec := { name := "foldRuns", fn := fun _ => fun
  | [d1, d2, d3, d4] => { results := [.lit (.bool false)], args := [d1, d2, d3, d4] }
  | _ => none }
def FoldRunsWrongFalsely : Prop := foldRunsRow.holds Try.pinned (OpenSpec.ofChange foldRunsWrong)

/- THE SECOND FORM. 'bulk': how many values and letters a reading holds, each counted each time it is reached (what is shared counts as often as it is met; a slice's spare places count too). A statement '..UptoSaid' is the law's where the arguments, and the package variables that the reading takes, are together of bulk at most 1048576: NARROWER than '..Said'. Prove '..Said' where nothing that the law and all that it calls make is longer than what came in: it says more and counts as full. Else prove '..UptoSaid'. A law counts once. -/
mutual
def uptoBulk {H : Type} : DataW H → Nat
  | .lit (.string bytes) => bytes.length + 1
  | .lit _ => 1
  | .nil => 1
  | .ptr d => uptoBulk d + 1
  | .slice elems spare => uptoBulkAll elems + uptoBulkAll spare + 1
  | .agg parts => uptoBulkAll parts + 1
  | .iface _ d => uptoBulk d + 1
  | .map entries => uptoBulkEntries entries + 1
  | .held _ => 1
def uptoBulkAll {H : Type} : List (DataW H) → Nat
  | [] => 0
  | d :: r => uptoBulk d + uptoBulkAll r
def uptoBulkEntries {H : Type} : List (Lit × DataW H) → Nat
  | [] => 0
  | x :: r => uptoBulkEntry x + uptoBulkEntries r
def uptoBulkEntry {H : Type} : Lit × DataW H → Nat
  | (.string bytes, d) => bytes.length + uptoBulk d + 1
  | (_, d) => uptoBulk d + 1
 end
def uptoSmall : (H : Type) → List (DataW H) → Bool := fun _ ds => decide (uptoBulkAll ds ≤ 1048576)
def OpenSpec.upto (s : _root_.Go.ChangeSpec) : _root_.Go.OpenSpec := { _root_.Go.OpenSpec.ofChange s with cond := some uptoSmall }

/-- 'swagelaw15.TraceRuns', WHERE WHAT IT READS IS OF BULK AT MOST 1048576: true; the input reads as it did. -/
def traceRunsUptoRow : OpenClaim := { program := "ytfmocegnpmomnaa", sum := "da1a3798ddc1a33180b479ad860d98b35fe67df4c6f52151406a38fcd02df298", func := "swage/swagelaw15.TraceRuns", spec := "traceRuns", unfollowed := true, recurses := true, plainKeys := false, apart := false, narrowed := true }
def TraceRunsUptoSaid : Prop := traceRunsUptoRow.holds Try.pinned (OpenSpec.upto traceRunsSpec)

/-- 'swagelaw15.TraceMore', WHERE WHAT IT READS IS OF BULK AT MOST 1048576: true; the input reads as it did. -/
def traceMoreUptoRow : OpenClaim := { program := "ytfmocegnpmomnaa", sum := "da1a3798ddc1a33180b479ad860d98b35fe67df4c6f52151406a38fcd02df298", func := "swage/swagelaw15.TraceMore", spec := "traceMore", unfollowed := true, recurses := true, plainKeys := false, apart := false, narrowed := true }
def TraceMoreUptoSaid : Prop := traceMoreUptoRow.holds Try.pinned (OpenSpec.upto traceMoreSpec)

/-- 'swagelaw15.TraceCounts', WHERE WHAT IT READS IS OF BULK AT MOST 1048576: true; the input reads as it did. -/
def traceCountsUptoRow : OpenClaim := { program := "ytfmocegnpmomnaa", sum := "da1a3798ddc1a33180b479ad860d98b35fe67df4c6f52151406a38fcd02df298", func := "swage/swagelaw15.TraceCounts", spec := "traceCounts", unfollowed := true, recurses := true, plainKeys := false, apart := false, narrowed := true }
def TraceCountsUptoSaid : Prop := traceCountsUptoRow.holds Try.pinned (OpenSpec.upto traceCountsSpec)

/-- 'swagelaw15.TraceReckons', WHERE WHAT IT READS IS OF BULK AT MOST 1048576: true; the input reads as it did. -/
def traceReckonsUptoRow : OpenClaim := { program := "ytfmocegnpmomnaa", sum := "da1a3798ddc1a33180b479ad860d98b35fe67df4c6f52151406a38fcd02df298", func := "swage/swagelaw15.TraceReckons", spec := "traceReckons", unfollowed := true, recurses := true, plainKeys := false, apart := false, narrowed := true }
def TraceReckonsUptoSaid : Prop := traceReckonsUptoRow.holds Try.pinned (OpenSpec.upto traceReckonsSpec)

/-- 'swagelaw22.ForwardRuns', WHERE WHAT IT READS IS OF BULK AT MOST 1048576: true; the input reads as it did. -/
def forwardRunsUptoRow : OpenClaim := { program := "ytfmocegnpmomnaa", sum := "da1a3798ddc1a33180b479ad860d98b35fe67df4c6f52151406a38fcd02df298", func := "swage/swagelaw22.ForwardRuns", spec := "forwardRuns", unfollowed := true, recurses := true, plainKeys := false, apart := false, narrowed := true }
def ForwardRunsUptoSaid : Prop := forwardRunsUptoRow.holds Try.pinned (OpenSpec.upto forwardRunsSpec)

/-- 'swagelaw24.FoldRuns', WHERE WHAT IT READS IS OF BULK AT MOST 1048576: true; the input reads as it did. -/
def foldRunsUptoRow : OpenClaim := { program := "ytfmocegnpmomnaa", sum := "da1a3798ddc1a33180b479ad860d98b35fe67df4c6f52151406a38fcd02df298", func := "swage/swagelaw24.FoldRuns", spec := "foldRuns", unfollowed := true, recurses := true, plainKeys := false, apart := false, narrowed := true }
def FoldRunsUptoSaid : Prop := foldRunsUptoRow.holds Try.pinned (OpenSpec.upto foldRunsSpec)

end Rows
end Go.Proofs.Ytfmocegnpmomnaa
