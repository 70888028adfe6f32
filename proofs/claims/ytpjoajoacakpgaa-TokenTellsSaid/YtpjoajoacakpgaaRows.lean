/-
  No cell of these rows narrows 'for every input' (looked for: loops, veiled, ifaces, maps, wideKeys, modest, calm, conditions, laid).
  DERIVED. THE GIVEN ROWS OF THIS SEAT. 6 by the template 'for every input the law returns true; each argument reads behind the call as it read before'; 0 by the template 'total and deterministic' (their statements: YtpjoajoacakpgaaTotals.lean).
  GIVEN WITH THE SEED: the statements are not yours to turn. If you find one false, say at which input.
  Laid BY PROGRAM, IN A SANDBOX (cutbox-rows.mjs): the forced cells as the released guide's own fill.sh prints them over the translation 8b77392660550457… (all of the seat's roots in one cut). By AI agents, Wed Nov 11 2026. No macro, syntax, notation, axiom, sorry.
-/
import Derived.Test.YtpjoajoacakpgaaChecked
import GoSem.Claim
import GoSem.ClaimJoined
import GoSem.ClaimMapViews
import Derived.JoinedTies
import Derived.KernelRfl
namespace Go.Proofs.Ytpjoajoacakpgaa
/- THE CELL 'sum', in the pinned program and in every row, IS THE sha256 OF THE DUMP (.gsa) THAT YtpjoajoacakpgaaProg.lean LOADS. Nothing in Lean hashes anything: it is a label: what it is worth is what the hold of that sum in a sandbox is worth. -/
noncomputable def Try.pinned : Pinned := { name := "ytpjoajoacakpgaa", sum := "8b7739266055045723447f9c15909705b59cb55e4bde264bf47d6cdfa520737c", checked := Try.checked }
namespace Rows
def none {H : Type} : Left H := { results := [], args := [] }

/-- 'swagelaw09.TokenCuts': WHATEVER THE INPUT: true; the input reads as it did. -/
def tokenCutsSpec : ChangeSpec := { name := "tokenCuts", fn := fun _ => fun
  | [d] => { results := [.lit (.bool true)], args := [d] }
  | _ => none }
def tokenCutsRow : OpenClaim := { program := "ytpjoajoacakpgaa", sum := "8b7739266055045723447f9c15909705b59cb55e4bde264bf47d6cdfa520737c", func := "swage/swagelaw09.TokenCuts", spec := "tokenCuts", inPlace := ["internal/abi.NoEscape", "internal/bytealg.MakeNoZero"], unfollowed := true, recurses := true, apart := false }
def TokenCutsSaid : Prop := tokenCutsRow.holds Try.pinned (OpenSpec.ofChange tokenCutsSpec)

/-- ITS FALSE NEIGHBOUR: 'it returns false'. Refute it at one input. -/
def tokenCutsWrong : ChangeSpec := { name := "tokenCuts", fn := fun _ => fun
  | [d] => { results := [.lit (.bool false)], args := [d] }
  | _ => none }
def TokenCutsWrongFalsely : Prop := tokenCutsRow.holds Try.pinned (OpenSpec.ofChange tokenCutsWrong)

/-- 'swagelaw09.TokenTells': WHATEVER THE INPUT: true; the input reads as it did. -/
def tokenTellsSpec : ChangeSpec := { name := "tokenTells", fn := fun _ => fun
  | [d1, d2] => { results := [.lit (.bool true)], args := [d1, d2] }
  | _ => none }
def tokenTellsRow : OpenClaim := { program := "ytpjoajoacakpgaa", sum := "8b7739266055045723447f9c15909705b59cb55e4bde264bf47d6cdfa520737c", func := "swage/swagelaw09.TokenTells", spec := "tokenTells", inPlace := ["internal/abi.NoEscape", "internal/bytealg.MakeNoZero"], unfollowed := true, recurses := true, apart := false }
def TokenTellsSaid : Prop := tokenTellsRow.holds Try.pinned (OpenSpec.ofChange tokenTellsSpec)

/-- ITS FALSE NEIGHBOUR: 'it returns false'. Refute it at one input. -/
def tokenTellsWrong : ChangeSpec := { name := "tokenTells", fn := fun _ => fun
  | [d1, d2] => { results := [.lit (.bool false)], args := [d1, d2] }
  | _ => none }
def TokenTellsWrongFalsely : Prop := tokenTellsRow.holds Try.pinned (OpenSpec.ofChange tokenTellsWrong)

/-- 'swagelaw09.TokenJoins': WHATEVER THE INPUT: true; the input reads as it did. -/
def tokenJoinsSpec : ChangeSpec := { name := "tokenJoins", fn := fun _ => fun
  | [d] => { results := [.lit (.bool true)], args := [d] }
  | _ => none }
def tokenJoinsRow : OpenClaim := { program := "ytpjoajoacakpgaa", sum := "8b7739266055045723447f9c15909705b59cb55e4bde264bf47d6cdfa520737c", func := "swage/swagelaw09.TokenJoins", spec := "tokenJoins", inPlace := ["internal/abi.NoEscape", "internal/bytealg.MakeNoZero"], unfollowed := true, recurses := true, apart := false }
def TokenJoinsSaid : Prop := tokenJoinsRow.holds Try.pinned (OpenSpec.ofChange tokenJoinsSpec)

/-- ITS FALSE NEIGHBOUR: 'it returns false'. Refute it at one input. -/
def tokenJoinsWrong : ChangeSpec := { name := "tokenJoins", fn := fun _ => fun
  | [d] => { results := [.lit (.bool false)], args := [d] }
  | _ => none }
def TokenJoinsWrongFalsely : Prop := tokenJoinsRow.holds Try.pinned (OpenSpec.ofChange tokenJoinsWrong)

/-- 'swagelaw09.TokenStands': WHATEVER THE INPUT: true; the input reads as it did. -/
def tokenStandsSpec : ChangeSpec := { name := "tokenStands", fn := fun _ => fun
  | [d] => { results := [.lit (.bool true)], args := [d] }
  | _ => none }
def tokenStandsRow : OpenClaim := { program := "ytpjoajoacakpgaa", sum := "8b7739266055045723447f9c15909705b59cb55e4bde264bf47d6cdfa520737c", func := "swage/swagelaw09.TokenStands", spec := "tokenStands", inPlace := ["internal/abi.NoEscape", "internal/bytealg.MakeNoZero"], unfollowed := true, recurses := true, apart := false }
def TokenStandsSaid : Prop := tokenStandsRow.holds Try.pinned (OpenSpec.ofChange tokenStandsSpec)

/-- ITS FALSE NEIGHBOUR: 'it returns false'. Refute it at one input. -/
def tokenStandsWrong : ChangeSpec := { name := "tokenStands", fn := fun _ => fun
  | [d] => { results := [.lit (.bool false)], args := [d] }
  | _ => none }
def TokenStandsWrongFalsely : Prop := tokenStandsRow.holds Try.pinned (OpenSpec.ofChange tokenStandsWrong)

/-- 'swagelaw09.TokenMore': WHATEVER THE INPUT: true; the input reads as it did. -/
def tokenMoreSpec : ChangeSpec := { name := "tokenMore", fn := fun _ => fun
  | [d1, d2] => { results := [.lit (.bool true)], args := [d1, d2] }
  | _ => none }
def tokenMoreRow : OpenClaim := { program := "ytpjoajoacakpgaa", sum := "8b7739266055045723447f9c15909705b59cb55e4bde264bf47d6cdfa520737c", func := "swage/swagelaw09.TokenMore", spec := "tokenMore", inPlace := ["internal/abi.NoEscape", "internal/bytealg.MakeNoZero"], unfollowed := true, recurses := true, apart := false }
def TokenMoreSaid : Prop := tokenMoreRow.holds Try.pinned (OpenSpec.ofChange tokenMoreSpec)

/-- ITS FALSE NEIGHBOUR: 'it returns false'. Refute it at one input. -/
def tokenMoreWrong : ChangeSpec := { name := "tokenMore", fn := fun _ => fun
  | [d1, d2] => { results := [.lit (.bool false)], args := [d1, d2] }
  | _ => none }
def TokenMoreWrongFalsely : Prop := tokenMoreRow.holds Try.pinned (OpenSpec.ofChange tokenMoreWrong)

/-- 'swagelaw09.TokenNumbers': WHATEVER THE INPUT: true; the input reads as it did. -/
def tokenNumbersSpec : ChangeSpec := { name := "tokenNumbers", fn := fun _ => fun
  | [d] => { results := [.lit (.bool true)], args := [d] }
  | _ => none }
def tokenNumbersRow : OpenClaim := { program := "ytpjoajoacakpgaa", sum := "8b7739266055045723447f9c15909705b59cb55e4bde264bf47d6cdfa520737c", func := "swage/swagelaw09.TokenNumbers", spec := "tokenNumbers", inPlace := ["internal/abi.NoEscape", "internal/bytealg.MakeNoZero"], unfollowed := true, recurses := true, apart := false }
def TokenNumbersSaid : Prop := tokenNumbersRow.holds Try.pinned (OpenSpec.ofChange tokenNumbersSpec)

/-- ITS FALSE NEIGHBOUR: 'it returns false'. Refute it at one input. -/
def tokenNumbersWrong : ChangeSpec := { name := "tokenNumbers", fn := fun _ => fun
  | [d] => { results := [.lit (.bool false)], args := [d] }
  | _ => none }
def TokenNumbersWrongFalsely : Prop := tokenNumbersRow.holds Try.pinned (OpenSpec.ofChange tokenNumbersWrong)

/- THE SECOND FORM. 'bulk': how many values and letters a reading holds, each counted each time it is reached (what is shared counts as often as it is met; a slice's spare places count too). A statement '..UptoSaid' is the law's where the arguments, and the package variables that the reading takes, are together of bulk at most 1048576: NARROWER than '..Said'. Prove '..Said' where nothing that the law and all that it calls make is longer than what came in: it says more and counts as full. Else prove '..UptoSaid'. A law counts once. -/
mutual
def uptoBulk {H : Type} : DataW H → Nat
  | .lit (.string bytes) => bytes.length + 1
  | .lit _ => 1
  | .nil => 1
  | .ptr d => uptoBulk d + 1
  | .slice elems spare => uptoBulkAll elems + uptoBulkAll spare + 1
  | .agg parts => uptoBulkAll parts + 1
  | .iface _ d => uptoBulk d + 1
  | .map entries => uptoBulkEntries entries + 1
  | .held _ => 1
def uptoBulkAll {H : Type} : List (DataW H) → Nat
  | [] => 0
  | d :: r => uptoBulk d + uptoBulkAll r
def uptoBulkEntries {H : Type} : List (Lit × DataW H) → Nat
  | [] => 0
  | x :: r => uptoBulkEntry x + uptoBulkEntries r
def uptoBulkEntry {H : Type} : Lit × DataW H → Nat
  | (.string bytes, d) => bytes.length + uptoBulk d + 1
  | (_, d) => uptoBulk d + 1
 end
def uptoSmall : (H : Type) → List (DataW H) → Bool := fun _ ds => decide (uptoBulkAll ds ≤ 1048576)
def OpenSpec.upto (s : _root_.Go.ChangeSpec) : _root_.Go.OpenSpec := { _root_.Go.OpenSpec.ofChange s with cond := some uptoSmall }

/-- 'swagelaw09.TokenCuts', WHERE WHAT IT READS IS OF BULK AT MOST 1048576: true; the input reads as it did. -/
def tokenCutsUptoRow : OpenClaim := { program := "ytpjoajoacakpgaa", sum := "8b7739266055045723447f9c15909705b59cb55e4bde264bf47d6cdfa520737c", func := "swage/swagelaw09.TokenCuts", spec := "tokenCuts", inPlace := ["internal/abi.NoEscape", "internal/bytealg.MakeNoZero"], unfollowed := true, recurses := true, apart := false, narrowed := true }
def TokenCutsUptoSaid : Prop := tokenCutsUptoRow.holds Try.pinned (OpenSpec.upto tokenCutsSpec)

/-- 'swagelaw09.TokenTells', WHERE WHAT IT READS IS OF BULK AT MOST 1048576: true; the input reads as it did. -/
def tokenTellsUptoRow : OpenClaim := { program := "ytpjoajoacakpgaa", sum := "8b7739266055045723447f9c15909705b59cb55e4bde264bf47d6cdfa520737c", func := "swage/swagelaw09.TokenTells", spec := "tokenTells", inPlace := ["internal/abi.NoEscape", "internal/bytealg.MakeNoZero"], unfollowed := true, recurses := true, apart := false, narrowed := true }
def TokenTellsUptoSaid : Prop := tokenTellsUptoRow.holds Try.pinned (OpenSpec.upto tokenTellsSpec)

/-- 'swagelaw09.TokenJoins', WHERE WHAT IT READS IS OF BULK AT MOST 1048576: true; the input reads as it did. -/
def tokenJoinsUptoRow : OpenClaim := { program := "ytpjoajoacakpgaa", sum := "8b7739266055045723447f9c15909705b59cb55e4bde264bf47d6cdfa520737c", func := "swage/swagelaw09.TokenJoins", spec := "tokenJoins", inPlace := ["internal/abi.NoEscape", "internal/bytealg.MakeNoZero"], unfollowed := true, recurses := true, apart := false, narrowed := true }
def TokenJoinsUptoSaid : Prop := tokenJoinsUptoRow.holds Try.pinned (OpenSpec.upto tokenJoinsSpec)

/-- 'swagelaw09.TokenStands', WHERE WHAT IT READS IS OF BULK AT MOST 1048576: true; the input reads as it did. -/
def tokenStandsUptoRow : OpenClaim := { program := "ytpjoajoacakpgaa", sum := "8b7739266055045723447f9c15909705b59cb55e4bde264bf47d6cdfa520737c", func := "swage/swagelaw09.TokenStands", spec := "tokenStands", inPlace := ["internal/abi.NoEscape", "internal/bytealg.MakeNoZero"], unfollowed := true, recurses := true, apart := false, narrowed := true }
def TokenStandsUptoSaid : Prop := tokenStandsUptoRow.holds Try.pinned (OpenSpec.upto tokenStandsSpec)

/-- 'swagelaw09.TokenMore', WHERE WHAT IT READS IS OF BULK AT MOST 1048576: true; the input reads as it did. -/
def tokenMoreUptoRow : OpenClaim := { program := "ytpjoajoacakpgaa", sum := "8b7739266055045723447f9c15909705b59cb55e4bde264bf47d6cdfa520737c", func := "swage/swagelaw09.TokenMore", spec := "tokenMore", inPlace := ["internal/abi.NoEscape", "internal/bytealg.MakeNoZero"], unfollowed := true, recurses := true, apart := false, narrowed := true }
def TokenMoreUptoSaid : Prop := tokenMoreUptoRow.holds Try.pinned (OpenSpec.upto tokenMoreSpec)

/-- 'swagelaw09.TokenNumbers', WHERE WHAT IT READS IS OF BULK AT MOST 1048576: true; the input reads as it did. -/
def tokenNumbersUptoRow : OpenClaim := { program := "ytpjoajoacakpgaa", sum := "8b7739266055045723447f9c15909705b59cb55e4bde264bf47d6cdfa520737c", func := "swage/swagelaw09.TokenNumbers", spec := "tokenNumbers", inPlace := ["internal/abi.NoEscape", "internal/bytealg.MakeNoZero"], unfollowed := true, recurses := true, apart := false, narrowed := true }
def TokenNumbersUptoSaid : Prop := tokenNumbersUptoRow.holds Try.pinned (OpenSpec.upto tokenNumbersSpec)

end Rows
end Go.Proofs.Ytpjoajoacakpgaa
