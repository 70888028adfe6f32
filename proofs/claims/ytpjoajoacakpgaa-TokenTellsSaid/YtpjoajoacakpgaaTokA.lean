/- Plain facts on tokens: the small case that each statement begins with; how the cut goes on from a place. No program in sight but for the small case. -/
import Derived.Test.YtpjoajoacakpgaaQx2
set_option linter.unusedVariables false
set_option linter.unusedSimpArgs false
namespace Go.Proofs.Ytpjoajoacakpgaa.Tok
open Go.RowKit Go.Proofs.Ytpjoajoacakpgaa.Q Go.Proofs.Ytpjoajoacakpgaa.Given Go.Proofs.YtpjoajoacakpgaaW.PrintWords Go.Proofs.YtpjoajoacakpgaaW.PrintLast Go.Proofs.YtpjoajoacakpgaaW.PrintMore
theorem small1 : lexL ⟨#[97, 49, 60, 61, 50, 51, 59, 32, 47, 47, 32, 120]⟩ = ([⟨1, ⟨#[97, 49]⟩, 0⟩, ⟨3, ⟨#[60, 61]⟩, 2⟩, ⟨2, ⟨#[50, 51]⟩, 4⟩, ⟨3, ⟨#[59]⟩, 6⟩], 12, 0) := by
  have hs : (⟨#[97, 49, 60, 61, 50, 51, 59, 32, 47, 47, 32, 120]⟩ : ByteArray).size = 12 := rfl
  unfold lexL
  rw [if_neg (by rw [hs]; decide), hs]
  have e0 : skipL [97, 49, 60, 61, 50, 51, 59, 32, 47, 47, 32, 120] = [97, 49, 60, 61, 50, 51, 59, 32, 47, 47, 32, 120] := by rw [skipL, dif_neg (by decide)]; decide
  have e1 : skipL [60, 61, 50, 51, 59, 32, 47, 47, 32, 120] = [60, 61, 50, 51, 59, 32, 47, 47, 32, 120] := by rw [skipL, dif_neg (by decide)]; decide
  have e2 : skipL [50, 51, 59, 32, 47, 47, 32, 120] = [50, 51, 59, 32, 47, 47, 32, 120] := by rw [skipL, dif_neg (by decide)]; decide
  have e3 : skipL [59, 32, 47, 47, 32, 120] = [59, 32, 47, 47, 32, 120] := by rw [skipL, dif_neg (by decide)]; decide
  have e4 : skipL [32, 47, 47, 32, 120] = [] := by
    rw [skipL, dif_pos (by decide)]
    show skipL [] = []
    rw [skipL, dif_neg (by decide)]; rfl
  have c0 : cutL [97, 49, 60, 61, 50, 51, 59, 32, 47, 47, 32, 120] = (2, 1) := by decide
  have c1 : cutL [60, 61, 50, 51, 59, 32, 47, 47, 32, 120] = (2, 3) := by decide
  have c2 : cutL [50, 51, 59, 32, 47, 47, 32, 120] = (2, 2) := by decide
  have c3 : cutL [59, 32, 47, 47, 32, 120] = (1, 3) := by decide
  have hst : streamQ 12 (skipL [97, 49, 60, 61, 50, 51, 59, 32, 47, 47, 32, 120]) = [⟨1, ⟨#[97, 49]⟩, 0⟩, ⟨3, ⟨#[60, 61]⟩, 2⟩, ⟨2, ⟨#[50, 51]⟩, 4⟩, ⟨3, ⟨#[59]⟩, 6⟩] := by
    rw [e0, streamQ, dif_neg (by decide), dif_neg (by rw [c0]; decide), tokQ, c0]
    show _ :: streamQ 12 (skipL [60, 61, 50, 51, 59, 32, 47, 47, 32, 120]) = _
    rw [e1, streamQ, dif_neg (by decide), dif_neg (by rw [c1]; decide), tokQ, c1]
    show _ :: _ :: streamQ 12 (skipL [50, 51, 59, 32, 47, 47, 32, 120]) = _
    rw [e2, streamQ, dif_neg (by decide), dif_neg (by rw [c2]; decide), tokQ, c2]
    show _ :: _ :: _ :: streamQ 12 (skipL [59, 32, 47, 47, 32, 120]) = _
    rw [e3, streamQ, dif_neg (by decide), dif_neg (by rw [c3]; decide), tokQ, c3]
    show _ :: _ :: _ :: _ :: streamQ 12 (skipL [32, 47, 47, 32, 120]) = _
    rw [e4, streamQ, dif_pos rfl]
    rfl
  show lexOf 12 (streamQ 12 (skipL [97, 49, 60, 61, 50, 51, 59, 32, 47, 47, 32, 120])) = _
  rw [hst]
  rfl
theorem small2 : lexL ⟨#[97, 32, 36]⟩ = ([], 2, 2) := by
  have hs : (⟨#[97, 32, 36]⟩ : ByteArray).size = 3 := rfl
  unfold lexL
  rw [if_neg (by rw [hs]; decide), hs]
  have e0 : skipL [97, 32, 36] = [97, 32, 36] := by rw [skipL, dif_neg (by decide)]; decide
  have e1 : skipL [32, 36] = [36] := by rw [skipL, dif_neg (by decide)]; decide
  have c0 : cutL [97, 32, 36] = (1, 1) := by decide
  have c1 : cutL [36] = (0, 0) := by decide
  have hst : streamQ 3 (skipL [97, 32, 36]) = [⟨1, ⟨#[97]⟩, 0⟩, ⟨0, ⟨#[]⟩, 2⟩] := by
    rw [e0, streamQ, dif_neg (by decide), dif_neg (by rw [c0]; decide), tokQ, c0]
    show _ :: streamQ 3 (skipL [32, 36]) = _
    rw [e1, streamQ, dif_neg (by decide), dif_pos (by rw [c1]), tokQ, c1]
    rfl
  show lexOf 3 (streamQ 3 (skipL [97, 32, 36])) = _
  rw [hst]
  rfl
theorem small_ten : swagelaw09_small.f 10 = some true := by
  unfold swagelaw09_small.f token_Lex.f
  rw [small1, small2]
  have n1 : token_Number.f (⟨#[50, 51]⟩ : ByteArray) = some (23, true) := by decide +kernel
  have n2 : token_Name.f (⟨#[95, 97]⟩ : ByteArray) = some true := by decide +kernel
  have n3 : token_Sign.f (⟨#[62]⟩ : ByteArray) = some false := by decide +kernel
  have n4 : swageref09_Same.f 10 ([⟨1, ⟨#[97, 49]⟩, 0⟩, ⟨3, ⟨#[60, 61]⟩, 2⟩, ⟨2, ⟨#[50, 51]⟩, 4⟩, ⟨3, ⟨#[59]⟩, 6⟩] : List S30) [⟨1, ⟨#[97, 49]⟩, 0⟩, ⟨3, ⟨#[60, 61]⟩, 2⟩, ⟨2, ⟨#[50, 51]⟩, 4⟩, ⟨3, ⟨#[59]⟩, 6⟩] = some true := by decide +kernel
  have n5 : (token_Join.f ([⟨1, ⟨#[97, 49]⟩, 0⟩, ⟨3, ⟨#[60, 61]⟩, 2⟩, ⟨2, ⟨#[50, 51]⟩, 4⟩, ⟨3, ⟨#[59]⟩, 6⟩] : List S30)) = some ⟨#[97, 49, 32, 60, 61, 32, 50, 51, 32, 59]⟩ := rfl
  simp only [Option.bind_some, n1, n2, n3, n4, n5, if_true]
  decide +kernel
theorem small_more (m : Nat) : swagelaw09_small.f (m + 10) = some true :=
  at_rounds (g := fun k => swagelaw09_small.f k) (fun k => swagelaw09_small.mono k) (by omega : 10 ≤ m + 10) small_ten
end Go.Proofs.Ytpjoajoacakpgaa.Tok
