/-
  No cell of these rows narrows 'for every input' (looked for: loops, veiled, ifaces, maps, wideKeys, modest, calm, conditions, laid).
  DERIVED. THE GIVEN ROWS OF THIS SEAT. 5 by the template 'for every input the law returns true; each argument reads behind the call as it read before'; 0 by the template 'total and deterministic' (their statements: YtkjdhmelfkndaaaTotals.lean).
  GIVEN WITH THE SEED: the statements are not yours to turn. If you find one false, say at which input.
  Laid BY PROGRAM, IN A SANDBOX (cutbox-rows.mjs): the forced cells as the released guide's own fill.sh prints them over the translation 5a4e72f8ef4f8932… (all of the seat's roots in one cut). By AI agents, Wed Nov 11 2026. No macro, syntax, notation, axiom, sorry.
-/
import Derived.Test.YtkjdhmelfkndaaaChecked
import GoSem.Claim
import GoSem.ClaimJoined
import GoSem.ClaimMapViews
import Derived.JoinedTies
import Derived.KernelRfl
namespace Go.Proofs.Ytkjdhmelfkndaaa
/- THE CELL 'sum', in the pinned program and in every row, IS THE sha256 OF THE DUMP (.gsa) THAT YtkjdhmelfkndaaaProg.lean LOADS. Nothing in Lean hashes anything: it is a label: what it is worth is what the hold of that sum in a sandbox is worth. -/
noncomputable def Try.pinned : Pinned := { name := "ytkjdhmelfkndaaa", sum := "5a4e72f8ef4f89325fec68d03a94d22c7f8cfc6b599f7ef2e3c10856d6e8296a", checked := Try.checked }
namespace Rows
def none {H : Type} : Left H := { results := [], args := [] }

/-- 'swagelaw01.WordDoes': WHATEVER THE INPUT: true; the input reads as it did. -/
def wordDoesSpec : ChangeSpec := { name := "wordDoes", fn := fun _ => fun
  | [d1, d2, d3] => { results := [.lit (.bool true)], args := [d1, d2, d3] }
  | _ => none }
def wordDoesRow : OpenClaim := { program := "ytkjdhmelfkndaaa", sum := "5a4e72f8ef4f89325fec68d03a94d22c7f8cfc6b599f7ef2e3c10856d6e8296a", func := "swage/swagelaw01.WordDoes", spec := "wordDoes", apart := false }
def WordDoesSaid : Prop := wordDoesRow.holds Try.pinned (OpenSpec.ofChange wordDoesSpec)

/-- ITS FALSE NEIGHBOUR: 'it returns false'. Refute it at one input. -/
def wordDoesWrong : ChangeSpec := { name := "wordDoes", fn := fun _ => fun
  | [d1, d2, d3] => { results := [.lit (.bool false)], args := [d1, d2, d3] }
  | _ => none }
def WordDoesWrongFalsely : Prop := wordDoesRow.holds Try.pinned (OpenSpec.ofChange wordDoesWrong)

/-- 'swagelaw01.WordBits': WHATEVER THE INPUT: true; the input reads as it did. -/
def wordBitsSpec : ChangeSpec := { name := "wordBits", fn := fun _ => fun
  | [d1, d2] => { results := [.lit (.bool true)], args := [d1, d2] }
  | _ => none }
def wordBitsRow : OpenClaim := { program := "ytkjdhmelfkndaaa", sum := "5a4e72f8ef4f89325fec68d03a94d22c7f8cfc6b599f7ef2e3c10856d6e8296a", func := "swage/swagelaw01.WordBits", spec := "wordBits", apart := false }
def WordBitsSaid : Prop := wordBitsRow.holds Try.pinned (OpenSpec.ofChange wordBitsSpec)

/-- ITS FALSE NEIGHBOUR: 'it returns false'. Refute it at one input. -/
def wordBitsWrong : ChangeSpec := { name := "wordBits", fn := fun _ => fun
  | [d1, d2] => { results := [.lit (.bool false)], args := [d1, d2] }
  | _ => none }
def WordBitsWrongFalsely : Prop := wordBitsRow.holds Try.pinned (OpenSpec.ofChange wordBitsWrong)

/-- 'swagelaw01.WordMoves': WHATEVER THE INPUT: true; the input reads as it did. -/
def wordMovesSpec : ChangeSpec := { name := "wordMoves", fn := fun _ => fun
  | [d1, d2] => { results := [.lit (.bool true)], args := [d1, d2] }
  | _ => none }
def wordMovesRow : OpenClaim := { program := "ytkjdhmelfkndaaa", sum := "5a4e72f8ef4f89325fec68d03a94d22c7f8cfc6b599f7ef2e3c10856d6e8296a", func := "swage/swagelaw01.WordMoves", spec := "wordMoves", apart := false }
def WordMovesSaid : Prop := wordMovesRow.holds Try.pinned (OpenSpec.ofChange wordMovesSpec)

/-- ITS FALSE NEIGHBOUR: 'it returns false'. Refute it at one input. -/
def wordMovesWrong : ChangeSpec := { name := "wordMoves", fn := fun _ => fun
  | [d1, d2] => { results := [.lit (.bool false)], args := [d1, d2] }
  | _ => none }
def WordMovesWrongFalsely : Prop := wordMovesRow.holds Try.pinned (OpenSpec.ofChange wordMovesWrong)

/-- 'swagelaw01.WordOrders': WHATEVER THE INPUT: true; the input reads as it did. -/
def wordOrdersSpec : ChangeSpec := { name := "wordOrders", fn := fun _ => fun
  | [d1, d2, d3] => { results := [.lit (.bool true)], args := [d1, d2, d3] }
  | _ => none }
def wordOrdersRow : OpenClaim := { program := "ytkjdhmelfkndaaa", sum := "5a4e72f8ef4f89325fec68d03a94d22c7f8cfc6b599f7ef2e3c10856d6e8296a", func := "swage/swagelaw01.WordOrders", spec := "wordOrders", apart := false }
def WordOrdersSaid : Prop := wordOrdersRow.holds Try.pinned (OpenSpec.ofChange wordOrdersSpec)

/-- ITS FALSE NEIGHBOUR: 'it returns false'. Refute it at one input. -/
def wordOrdersWrong : ChangeSpec := { name := "wordOrders", fn := fun _ => fun
  | [d1, d2, d3] => { results := [.lit (.bool false)], args := [d1, d2, d3] }
  | _ => none }
def WordOrdersWrongFalsely : Prop := wordOrdersRow.holds Try.pinned (OpenSpec.ofChange wordOrdersWrong)

/-- 'swagelaw01.WordWraps': WHATEVER THE INPUT: true; the input reads as it did. -/
def wordWrapsSpec : ChangeSpec := { name := "wordWraps", fn := fun _ => fun
  | [d1, d2, d3, d4] => { results := [.lit (.bool true)], args := [d1, d2, d3, d4] }
  | _ => none }
def wordWrapsRow : OpenClaim := { program := "ytkjdhmelfkndaaa", sum := "5a4e72f8ef4f89325fec68d03a94d22c7f8cfc6b599f7ef2e3c10856d6e8296a", func := "swage/swagelaw01.WordWraps", spec := "wordWraps", apart := false }
def WordWrapsSaid : Prop := wordWrapsRow.holds Try.pinned (OpenSpec.ofChange wordWrapsSpec)

/-- ITS FALSE NEIGHBOUR: 'it returns false'. Refute it at one input. -/
def wordWrapsWrong : ChangeSpec := { name := "wordWraps", fn := fun _ => fun
  | [d1, d2, d3, d4] => { results := [.lit (.bool false)], args := [d1, d2, d3, d4] }
  | _ => none }
def WordWrapsWrongFalsely : Prop := wordWrapsRow.holds Try.pinned (OpenSpec.ofChange wordWrapsWrong)

/- THE SECOND FORM. 'bulk': how many values and letters a reading holds, each counted each time it is reached (what is shared counts as often as it is met; a slice's spare places count too). A statement '..UptoSaid' is the law's where the arguments, and the package variables that the reading takes, are together of bulk at most 1048576: NARROWER than '..Said'. Prove '..Said' where nothing that the law and all that it calls make is longer than what came in: it says more and counts as full. Else prove '..UptoSaid'. A law counts once. -/
mutual
def uptoBulk {H : Type} : DataW H → Nat
  | .lit (.string bytes) => bytes.length + 1
  | .lit _ => 1
  | .nil => 1
  | .ptr d => uptoBulk d + 1
  | .slice elems spare => uptoBulkAll elems + uptoBulkAll spare + 1
  | .agg parts => uptoBulkAll parts + 1
  | .iface _ d => uptoBulk d + 1
  | .map entries => uptoBulkEntries entries + 1
  | .held _ => 1
def uptoBulkAll {H : Type} : List (DataW H) → Nat
  | [] => 0
  | d :: r => uptoBulk d + uptoBulkAll r
def uptoBulkEntries {H : Type} : List (Lit × DataW H) → Nat
  | [] => 0
  | x :: r => uptoBulkEntry x + uptoBulkEntries r
def uptoBulkEntry {H : Type} : Lit × DataW H → Nat
  | (.string bytes, d) => bytes.length + uptoBulk d + 1
  | (_, d) => uptoBulk d + 1
 end
def uptoSmall : (H : Type) → List (DataW H) → Bool := fun _ ds => decide (uptoBulkAll ds ≤ 1048576)
def OpenSpec.upto (s : _root_.Go.ChangeSpec) : _root_.Go.OpenSpec := { _root_.Go.OpenSpec.ofChange s with cond := some uptoSmall }

/-- 'swagelaw01.WordDoes', WHERE WHAT IT READS IS OF BULK AT MOST 1048576: true; the input reads as it did. -/
def wordDoesUptoRow : OpenClaim := { program := "ytkjdhmelfkndaaa", sum := "5a4e72f8ef4f89325fec68d03a94d22c7f8cfc6b599f7ef2e3c10856d6e8296a", func := "swage/swagelaw01.WordDoes", spec := "wordDoes", apart := false, narrowed := true }
def WordDoesUptoSaid : Prop := wordDoesUptoRow.holds Try.pinned (OpenSpec.upto wordDoesSpec)

/-- 'swagelaw01.WordBits', WHERE WHAT IT READS IS OF BULK AT MOST 1048576: true; the input reads as it did. -/
def wordBitsUptoRow : OpenClaim := { program := "ytkjdhmelfkndaaa", sum := "5a4e72f8ef4f89325fec68d03a94d22c7f8cfc6b599f7ef2e3c10856d6e8296a", func := "swage/swagelaw01.WordBits", spec := "wordBits", apart := false, narrowed := true }
def WordBitsUptoSaid : Prop := wordBitsUptoRow.holds Try.pinned (OpenSpec.upto wordBitsSpec)

/-- 'swagelaw01.WordMoves', WHERE WHAT IT READS IS OF BULK AT MOST 1048576: true; the input reads as it did. -/
def wordMovesUptoRow : OpenClaim := { program := "ytkjdhmelfkndaaa", sum := "5a4e72f8ef4f89325fec68d03a94d22c7f8cfc6b599f7ef2e3c10856d6e8296a", func := "swage/swagelaw01.WordMoves", spec := "wordMoves", apart := false, narrowed := true }
def WordMovesUptoSaid : Prop := wordMovesUptoRow.holds Try.pinned (OpenSpec.upto wordMovesSpec)

/-- 'swagelaw01.WordOrders', WHERE WHAT IT READS IS OF BULK AT MOST 1048576: true; the input reads as it did. -/
def wordOrdersUptoRow : OpenClaim := { program := "ytkjdhmelfkndaaa", sum := "5a4e72f8ef4f89325fec68d03a94d22c7f8cfc6b599f7ef2e3c10856d6e8296a", func := "swage/swagelaw01.WordOrders", spec := "wordOrders", apart := false, narrowed := true }
def WordOrdersUptoSaid : Prop := wordOrdersUptoRow.holds Try.pinned (OpenSpec.upto wordOrdersSpec)

/-- 'swagelaw01.WordWraps', WHERE WHAT IT READS IS OF BULK AT MOST 1048576: true; the input reads as it did. -/
def wordWrapsUptoRow : OpenClaim := { program := "ytkjdhmelfkndaaa", sum := "5a4e72f8ef4f89325fec68d03a94d22c7f8cfc6b599f7ef2e3c10856d6e8296a", func := "swage/swagelaw01.WordWraps", spec := "wordWraps", apart := false, narrowed := true }
def WordWrapsUptoSaid : Prop := wordWrapsUptoRow.holds Try.pinned (OpenSpec.upto wordWrapsSpec)

end Rows
end Go.Proofs.Ytkjdhmelfkndaaa
