/-
  No cell of these rows narrows 'for every input' (looked for: loops, veiled, ifaces, maps, wideKeys, modest, calm, conditions, laid).
  DERIVED. THE GIVEN ROWS OF THIS SEAT. 4 by the template 'for every input the law returns true; each argument reads behind the call as it read before'; 0 by the template 'total and deterministic' (their statements: YtnanjbhdledilaaTotals.lean).
  GIVEN WITH THE SEED: the statements are not yours to turn. If you find one false, say at which input.
  Laid BY PROGRAM, IN A SANDBOX (cutbox-rows.mjs): the forced cells as the released guide's own fill.sh prints them over the translation 8e69f3f4bf0e235b… (all of the seat's roots in one cut). By AI agents, Wed Nov 11 2026. No macro, syntax, notation, axiom, sorry.
-/
import Derived.Test.YtnanjbhdledilaaChecked
import GoSem.Claim
import GoSem.ClaimJoined
import GoSem.ClaimMapViews
import Derived.JoinedTies
import Derived.KernelRfl
namespace Go.Proofs.Ytnanjbhdledilaa
/- THE CELL 'sum', in the pinned program and in every row, IS THE sha256 OF THE DUMP (.gsa) THAT YtnanjbhdledilaaProg.lean LOADS. Nothing in Lean hashes anything: it is a label: what it is worth is what the hold of that sum in a sandbox is worth. -/
noncomputable def Try.pinned : Pinned := { name := "ytnanjbhdledilaa", sum := "8e69f3f4bf0e235b30922c7ce67669bbda5d403e28a59fa849b4ff7e09d74b32", checked := Try.checked }
namespace Rows
def none {H : Type} : Left H := { results := [], args := [] }

/-- 'swagelaw03.MemoryPlays': WHATEVER THE INPUT: true; the input reads as it did. -/
def memoryPlaysSpec : ChangeSpec := { name := "memoryPlays", fn := fun _ => fun
  | [d1, d2] => { results := [.lit (.bool true)], args := [d1, d2] }
  | _ => none }
def memoryPlaysRow : OpenClaim := { program := "ytnanjbhdledilaa", sum := "8e69f3f4bf0e235b30922c7ce67669bbda5d403e28a59fa849b4ff7e09d74b32", func := "swage/swagelaw03.MemoryPlays", spec := "memoryPlays", apart := false }
def MemoryPlaysSaid : Prop := memoryPlaysRow.holds Try.pinned (OpenSpec.ofChange memoryPlaysSpec)

/-- ITS FALSE NEIGHBOUR: 'it returns false'. Refute it at one input. -/
def memoryPlaysWrong : ChangeSpec := { name := "memoryPlays", fn := fun _ => fun
  | [d1, d2] => { results := [.lit (.bool false)], args := [d1, d2] }
  | _ => none }
def MemoryPlaysWrongFalsely : Prop := memoryPlaysRow.holds Try.pinned (OpenSpec.ofChange memoryPlaysWrong)

/-- 'swagelaw03.MemoryAllocs': WHATEVER THE INPUT: true; the input reads as it did. -/
def memoryAllocsSpec : ChangeSpec := { name := "memoryAllocs", fn := fun _ => fun
  | [d1, d2] => { results := [.lit (.bool true)], args := [d1, d2] }
  | _ => none }
def memoryAllocsRow : OpenClaim := { program := "ytnanjbhdledilaa", sum := "8e69f3f4bf0e235b30922c7ce67669bbda5d403e28a59fa849b4ff7e09d74b32", func := "swage/swagelaw03.MemoryAllocs", spec := "memoryAllocs", apart := false }
def MemoryAllocsSaid : Prop := memoryAllocsRow.holds Try.pinned (OpenSpec.ofChange memoryAllocsSpec)

/-- ITS FALSE NEIGHBOUR: 'it returns false'. Refute it at one input. -/
def memoryAllocsWrong : ChangeSpec := { name := "memoryAllocs", fn := fun _ => fun
  | [d1, d2] => { results := [.lit (.bool false)], args := [d1, d2] }
  | _ => none }
def MemoryAllocsWrongFalsely : Prop := memoryAllocsRow.holds Try.pinned (OpenSpec.ofChange memoryAllocsWrong)

/-- 'swagelaw03.MemoryFloors': WHATEVER THE INPUT: true; the input reads as it did. -/
def memoryFloorsSpec : ChangeSpec := { name := "memoryFloors", fn := fun _ => fun
  | [d1, d2] => { results := [.lit (.bool true)], args := [d1, d2] }
  | _ => none }
def memoryFloorsRow : OpenClaim := { program := "ytnanjbhdledilaa", sum := "8e69f3f4bf0e235b30922c7ce67669bbda5d403e28a59fa849b4ff7e09d74b32", func := "swage/swagelaw03.MemoryFloors", spec := "memoryFloors", apart := false }
def MemoryFloorsSaid : Prop := memoryFloorsRow.holds Try.pinned (OpenSpec.ofChange memoryFloorsSpec)

/-- ITS FALSE NEIGHBOUR: 'it returns false'. Refute it at one input. -/
def memoryFloorsWrong : ChangeSpec := { name := "memoryFloors", fn := fun _ => fun
  | [d1, d2] => { results := [.lit (.bool false)], args := [d1, d2] }
  | _ => none }
def MemoryFloorsWrongFalsely : Prop := memoryFloorsRow.holds Try.pinned (OpenSpec.ofChange memoryFloorsWrong)

/-- 'swagelaw03.MemoryHolds': WHATEVER THE INPUT: true; the input reads as it did. -/
def memoryHoldsSpec : ChangeSpec := { name := "memoryHolds", fn := fun _ => fun
  | [d1, d2, d3] => { results := [.lit (.bool true)], args := [d1, d2, d3] }
  | _ => none }
def memoryHoldsRow : OpenClaim := { program := "ytnanjbhdledilaa", sum := "8e69f3f4bf0e235b30922c7ce67669bbda5d403e28a59fa849b4ff7e09d74b32", func := "swage/swagelaw03.MemoryHolds", spec := "memoryHolds", apart := false }
def MemoryHoldsSaid : Prop := memoryHoldsRow.holds Try.pinned (OpenSpec.ofChange memoryHoldsSpec)

/-- ITS FALSE NEIGHBOUR: 'it returns false'. Refute it at one input. -/
def memoryHoldsWrong : ChangeSpec := { name := "memoryHolds", fn := fun _ => fun
  | [d1, d2, d3] => { results := [.lit (.bool false)], args := [d1, d2, d3] }
  | _ => none }
def MemoryHoldsWrongFalsely : Prop := memoryHoldsRow.holds Try.pinned (OpenSpec.ofChange memoryHoldsWrong)

/- THE SECOND FORM. 'bulk': how many values and letters a reading holds, each counted each time it is reached (what is shared counts as often as it is met; a slice's spare places count too). A statement '..UptoSaid' is the law's where the arguments, and the package variables that the reading takes, are together of bulk at most 1048576: NARROWER than '..Said'. Prove '..Said' where nothing that the law and all that it calls make is longer than what came in: it says more and counts as full. Else prove '..UptoSaid'. A law counts once. -/
mutual
def uptoBulk {H : Type} : DataW H → Nat
  | .lit (.string bytes) => bytes.length + 1
  | .lit _ => 1
  | .nil => 1
  | .ptr d => uptoBulk d + 1
  | .slice elems spare => uptoBulkAll elems + uptoBulkAll spare + 1
  | .agg parts => uptoBulkAll parts + 1
  | .iface _ d => uptoBulk d + 1
  | .map entries => uptoBulkEntries entries + 1
  | .held _ => 1
def uptoBulkAll {H : Type} : List (DataW H) → Nat
  | [] => 0
  | d :: r => uptoBulk d + uptoBulkAll r
def uptoBulkEntries {H : Type} : List (Lit × DataW H) → Nat
  | [] => 0
  | x :: r => uptoBulkEntry x + uptoBulkEntries r
def uptoBulkEntry {H : Type} : Lit × DataW H → Nat
  | (.string bytes, d) => bytes.length + uptoBulk d + 1
  | (_, d) => uptoBulk d + 1
 end
def uptoSmall : (H : Type) → List (DataW H) → Bool := fun _ ds => decide (uptoBulkAll ds ≤ 1048576)
def OpenSpec.upto (s : _root_.Go.ChangeSpec) : _root_.Go.OpenSpec := { _root_.Go.OpenSpec.ofChange s with cond := some uptoSmall }

/-- 'swagelaw03.MemoryPlays', WHERE WHAT IT READS IS OF BULK AT MOST 1048576: true; the input reads as it did. -/
def memoryPlaysUptoRow : OpenClaim := { program := "ytnanjbhdledilaa", sum := "8e69f3f4bf0e235b30922c7ce67669bbda5d403e28a59fa849b4ff7e09d74b32", func := "swage/swagelaw03.MemoryPlays", spec := "memoryPlays", apart := false, narrowed := true }
def MemoryPlaysUptoSaid : Prop := memoryPlaysUptoRow.holds Try.pinned (OpenSpec.upto memoryPlaysSpec)

/-- 'swagelaw03.MemoryAllocs', WHERE WHAT IT READS IS OF BULK AT MOST 1048576: true; the input reads as it did. -/
def memoryAllocsUptoRow : OpenClaim := { program := "ytnanjbhdledilaa", sum := "8e69f3f4bf0e235b30922c7ce67669bbda5d403e28a59fa849b4ff7e09d74b32", func := "swage/swagelaw03.MemoryAllocs", spec := "memoryAllocs", apart := false, narrowed := true }
def MemoryAllocsUptoSaid : Prop := memoryAllocsUptoRow.holds Try.pinned (OpenSpec.upto memoryAllocsSpec)

/-- 'swagelaw03.MemoryFloors', WHERE WHAT IT READS IS OF BULK AT MOST 1048576: true; the input reads as it did. -/
def memoryFloorsUptoRow : OpenClaim := { program := "ytnanjbhdledilaa", sum := "8e69f3f4bf0e235b30922c7ce67669bbda5d403e28a59fa849b4ff7e09d74b32", func := "swage/swagelaw03.MemoryFloors", spec := "memoryFloors", apart := false, narrowed := true }
def MemoryFloorsUptoSaid : Prop := memoryFloorsUptoRow.holds Try.pinned (OpenSpec.upto memoryFloorsSpec)

/-- 'swagelaw03.MemoryHolds', WHERE WHAT IT READS IS OF BULK AT MOST 1048576: true; the input reads as it did. -/
def memoryHoldsUptoRow : OpenClaim := { program := "ytnanjbhdledilaa", sum := "8e69f3f4bf0e235b30922c7ce67669bbda5d403e28a59fa849b4ff7e09d74b32", func := "swage/swagelaw03.MemoryHolds", spec := "memoryHolds", apart := false, narrowed := true }
def MemoryHoldsUptoSaid : Prop := memoryHoldsUptoRow.holds Try.pinned (OpenSpec.upto memoryHoldsSpec)

end Rows
end Go.Proofs.Ytnanjbhdledilaa
