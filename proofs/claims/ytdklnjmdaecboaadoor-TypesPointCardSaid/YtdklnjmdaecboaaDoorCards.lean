/-
  DERIVED. GIVEN WITH THE SEED: THE CARDS: each row of YtdklnjmdaecboaaDoorRows.lean that lists a variable, with what it lists TIED to the program's text (the seventh form; the later family's looks); each row that meets fmt, with fmt's text TOLD by the authors' own Lean function (tested against real Go, not proved from fmt's source: count such statements apart). THE CARD IS WHAT COUNTS. Prove the row's statement (the work); the ties are given (YtdklnjmdaecboaaDoorTie.lean); close each card by the builder's one call (the guide's Derived/Test/ToyasCard.lean, 'card_holds'). Laid BY PROGRAM, IN A SANDBOX (cutbox-door.mjs). By AI agents, Wed Nov 11 2026. No macro, syntax, notation, axiom, sorry.
-/
import Derived.Test.YtdklnjmdaecboaaDoorRows
import GoSem.ClaimSeven
namespace Go.Proofs.YtdklnjmdaecboaaDoor
namespace Rows

/-- THE TIED CARD OF 'swagelaw11.TypesTell'. -/
def typesTellCard : Claim7 := { stood := { row := typesTellRow, standIns := [], harness := (true, "42542366c38b79797b18dba49c430fe01995bc34669ed6630f957915053f36fb"), looks := false }, kinds := [], alts := [], laidByText := true, laidKinds := [.data, .data, .data], laidTests := true, laidLooks := .later }
def TypesTellCardSaid : Prop := Claim7.holds Tryd.pinned (.plain (OpenSpec.ofChange typesTellSpec)) typesTellCard

/-- THE TIED CARD OF 'swagelaw11.TypesOf'. -/
def typesOfCard : Claim7 := { stood := { row := typesOfRow, standIns := [], harness := (true, "42542366c38b79797b18dba49c430fe01995bc34669ed6630f957915053f36fb"), looks := false }, kinds := [], alts := [], laidByText := true, laidKinds := [.data, .data, .data], laidTests := true, laidLooks := .later }
def TypesOfCardSaid : Prop := Claim7.holds Tryd.pinned (.plain (OpenSpec.ofChange typesOfSpec)) typesOfCard

/-- THE TIED CARD OF 'swagelaw11.TypesLie'. -/
def typesLieCard : Claim7 := { stood := { row := typesLieRow, standIns := [], harness := (true, "42542366c38b79797b18dba49c430fe01995bc34669ed6630f957915053f36fb"), looks := false }, kinds := [], alts := [], laidByText := true, laidKinds := [.data, .data, .data], laidTests := true, laidLooks := .later }
def TypesLieCardSaid : Prop := Claim7.holds Tryd.pinned (.plain (OpenSpec.ofChange typesLieSpec)) typesLieCard

/-- THE TIED CARD OF 'swagelaw11.TypesPoint'. -/
def typesPointCard : Claim7 := { stood := { row := typesPointRow, standIns := [], harness := (true, "42542366c38b79797b18dba49c430fe01995bc34669ed6630f957915053f36fb"), looks := false }, kinds := [], alts := [], laidByText := true, laidKinds := [.data, .data, .data], laidTests := true, laidLooks := .later }
def TypesPointCardSaid : Prop := Claim7.holds Tryd.pinned (.plain (OpenSpec.ofChange typesPointSpec)) typesPointCard

/-- THE SECOND FORM's CARD OF 'swagelaw11.TypesTell'. -/
def typesTellUptoCard : Claim7 := { stood := { row := typesTellUptoRow, standIns := [], harness := (true, "42542366c38b79797b18dba49c430fe01995bc34669ed6630f957915053f36fb"), looks := false }, kinds := [], alts := [], laidByText := true, laidKinds := [.data, .data, .data], laidTests := true, laidLooks := .later }
def TypesTellUptoCardSaid : Prop := Claim7.holds Tryd.pinned (.plain (OpenSpec.upto typesTellSpec)) typesTellUptoCard

/-- THE SECOND FORM's CARD OF 'swagelaw11.TypesOf'. -/
def typesOfUptoCard : Claim7 := { stood := { row := typesOfUptoRow, standIns := [], harness := (true, "42542366c38b79797b18dba49c430fe01995bc34669ed6630f957915053f36fb"), looks := false }, kinds := [], alts := [], laidByText := true, laidKinds := [.data, .data, .data], laidTests := true, laidLooks := .later }
def TypesOfUptoCardSaid : Prop := Claim7.holds Tryd.pinned (.plain (OpenSpec.upto typesOfSpec)) typesOfUptoCard

/-- THE SECOND FORM's CARD OF 'swagelaw11.TypesLie'. -/
def typesLieUptoCard : Claim7 := { stood := { row := typesLieUptoRow, standIns := [], harness := (true, "42542366c38b79797b18dba49c430fe01995bc34669ed6630f957915053f36fb"), looks := false }, kinds := [], alts := [], laidByText := true, laidKinds := [.data, .data, .data], laidTests := true, laidLooks := .later }
def TypesLieUptoCardSaid : Prop := Claim7.holds Tryd.pinned (.plain (OpenSpec.upto typesLieSpec)) typesLieUptoCard

/-- THE SECOND FORM's CARD OF 'swagelaw11.TypesPoint'. -/
def typesPointUptoCard : Claim7 := { stood := { row := typesPointUptoRow, standIns := [], harness := (true, "42542366c38b79797b18dba49c430fe01995bc34669ed6630f957915053f36fb"), looks := false }, kinds := [], alts := [], laidByText := true, laidKinds := [.data, .data, .data], laidTests := true, laidLooks := .later }
def TypesPointUptoCardSaid : Prop := Claim7.holds Tryd.pinned (.plain (OpenSpec.upto typesPointSpec)) typesPointUptoCard
end Rows
end Go.Proofs.YtdklnjmdaecboaaDoor
