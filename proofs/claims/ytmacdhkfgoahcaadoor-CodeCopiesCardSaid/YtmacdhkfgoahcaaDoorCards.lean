/-
  DERIVED. GIVEN WITH THE SEED: THE CARDS: each row of YtmacdhkfgoahcaaDoorRows.lean that lists a variable, with what it lists TIED to the program's text (the seventh form; the later family's looks); each row that meets fmt, with fmt's text TOLD by the authors' own Lean function (tested against real Go, not proved from fmt's source: count such statements apart). THE CARD IS WHAT COUNTS. Prove the row's statement (the work); the ties are given (YtmacdhkfgoahcaaDoorTie.lean); close each card by the builder's one call (the guide's Derived/Test/ToyasCard.lean, 'card_holds'). Laid BY PROGRAM, IN A SANDBOX (cutbox-door.mjs). By AI agents, Wed Nov 11 2026. No macro, syntax, notation, axiom, sorry.
-/
import Derived.Test.YtmacdhkfgoahcaaDoorRows
import GoSem.ClaimSeven
namespace Go.Proofs.YtmacdhkfgoahcaaDoor
namespace Rows

/-- THE TIED CARD OF 'swagelaw14.CodeCopies'. -/
def codeCopiesCard : Claim7 := { stood := { row := codeCopiesRow, standIns := [], harness := (true, "4c76a099ddd9fbe64b5ac6576661da5db2a7e03bc3daa17e3518181a9c4ff009"), looks := false }, kinds := [], alts := [], laidByText := true, laidKinds := [.data, .data, .data], laidTests := true, laidLooks := .later }
def CodeCopiesCardSaid : Prop := Claim7.holds Tryd.pinned (.plain (OpenSpec.ofChange codeCopiesSpec)) codeCopiesCard

/-- THE TIED CARD OF 'swagelaw14.CodeParts'. -/
def codePartsCard : Claim7 := { stood := { row := codePartsRow, standIns := [], harness := (true, "4c76a099ddd9fbe64b5ac6576661da5db2a7e03bc3daa17e3518181a9c4ff009"), looks := false }, kinds := [], alts := [], laidByText := true, laidKinds := [.data, .data, .data], laidTests := true, laidLooks := .later }
def CodePartsCardSaid : Prop := Claim7.holds Tryd.pinned (.plain (OpenSpec.ofChange codePartsSpec)) codePartsCard

/-- THE TIED CARD OF 'swagelaw14.CodeTells'. -/
def codeTellsCard : Claim7 := { stood := { row := codeTellsRow, standIns := [], harness := (true, "4c76a099ddd9fbe64b5ac6576661da5db2a7e03bc3daa17e3518181a9c4ff009"), looks := false }, kinds := [], alts := [], laidByText := true, laidKinds := [.data, .data, .data], laidTests := true, laidLooks := .later }
def CodeTellsCardSaid : Prop := Claim7.holds Tryd.pinned (.plain (OpenSpec.ofChange codeTellsSpec)) codeTellsCard

/-- THE TIED CARD OF 'swagelaw14.CodeTexts'. -/
def codeTextsCard : Claim7 := { stood := { row := codeTextsRow, standIns := [], harness := (true, "4c76a099ddd9fbe64b5ac6576661da5db2a7e03bc3daa17e3518181a9c4ff009"), looks := false }, kinds := [], alts := [], laidByText := true, laidKinds := [.data, .data, .data], laidTests := true, laidLooks := .later }
def CodeTextsCardSaid : Prop := Claim7.holds Tryd.pinned (.plain (OpenSpec.ofChange codeTextsSpec)) codeTextsCard

/-- THE SECOND FORM's CARD OF 'swagelaw14.CodeCopies'. -/
def codeCopiesUptoCard : Claim7 := { stood := { row := codeCopiesUptoRow, standIns := [], harness := (true, "4c76a099ddd9fbe64b5ac6576661da5db2a7e03bc3daa17e3518181a9c4ff009"), looks := false }, kinds := [], alts := [], laidByText := true, laidKinds := [.data, .data, .data], laidTests := true, laidLooks := .later }
def CodeCopiesUptoCardSaid : Prop := Claim7.holds Tryd.pinned (.plain (OpenSpec.upto codeCopiesSpec)) codeCopiesUptoCard

/-- THE SECOND FORM's CARD OF 'swagelaw14.CodeParts'. -/
def codePartsUptoCard : Claim7 := { stood := { row := codePartsUptoRow, standIns := [], harness := (true, "4c76a099ddd9fbe64b5ac6576661da5db2a7e03bc3daa17e3518181a9c4ff009"), looks := false }, kinds := [], alts := [], laidByText := true, laidKinds := [.data, .data, .data], laidTests := true, laidLooks := .later }
def CodePartsUptoCardSaid : Prop := Claim7.holds Tryd.pinned (.plain (OpenSpec.upto codePartsSpec)) codePartsUptoCard

/-- THE SECOND FORM's CARD OF 'swagelaw14.CodeTells'. -/
def codeTellsUptoCard : Claim7 := { stood := { row := codeTellsUptoRow, standIns := [], harness := (true, "4c76a099ddd9fbe64b5ac6576661da5db2a7e03bc3daa17e3518181a9c4ff009"), looks := false }, kinds := [], alts := [], laidByText := true, laidKinds := [.data, .data, .data], laidTests := true, laidLooks := .later }
def CodeTellsUptoCardSaid : Prop := Claim7.holds Tryd.pinned (.plain (OpenSpec.upto codeTellsSpec)) codeTellsUptoCard

/-- THE SECOND FORM's CARD OF 'swagelaw14.CodeTexts'. -/
def codeTextsUptoCard : Claim7 := { stood := { row := codeTextsUptoRow, standIns := [], harness := (true, "4c76a099ddd9fbe64b5ac6576661da5db2a7e03bc3daa17e3518181a9c4ff009"), looks := false }, kinds := [], alts := [], laidByText := true, laidKinds := [.data, .data, .data], laidTests := true, laidLooks := .later }
def CodeTextsUptoCardSaid : Prop := Claim7.holds Tryd.pinned (.plain (OpenSpec.upto codeTextsSpec)) codeTextsUptoCard
end Rows
end Go.Proofs.YtmacdhkfgoahcaaDoor
