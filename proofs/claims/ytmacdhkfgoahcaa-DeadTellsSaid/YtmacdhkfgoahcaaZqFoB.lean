/- Of the text FoB, what this law uses. -/
import Derived.OpenShut
import Derived.Test.YtmacdhkfgoahcaaZqFoA
/- What the operations on words answer, as plain functions. -/
set_option linter.unusedVariables false
set_option linter.unusedSimpArgs false
namespace Go.Proofs.Ytmacdhkfgoahcaa.Fo
open Go Go.RowKit Go.Maps Go.Proofs.Ytmacdhkfgoahcaa.Q Go.Proofs.YtmacdhkfgoahcaaW.PrintWords Go.Proofs.YtmacdhkfgoahcaaW.PrintLast Go.Proofs.YtmacdhkfgoahcaaW.PrintMore
def knownB (op : Int) : Bool := decide (1 ≤ op) && decide (op ≤ 14)
def doR (op a b : Int) : Int × Int := (word_Do.f 9 op a b).getD (0, 0)
def turB (op : Int) : Bool := op == 1 || op == 3 || op == 6 || op == 7 || op == 8 || op == 13 || op == 14
def folR (op : Int) : Int × Bool := (word_Fold.f 9 op 0).getD (0, false)
def neuB (op n : Int) : Bool := (fold_Neutral.f 9 op n).getD false
def setsI (x : S30) : Int := if x.f0 < 1 ∨ x.f0 > 8 ∨ x.f0 = 5 then 0 else x.f1
theorem sets_some (x : S30) : code_Sets.f 9 x.f0 x.f1 x.f2 x.f3 x.f4 x.f5 = some (setsI x) := by
  unfold code_Sets.f code_shapeOf.f setsI
  simp only [code_shapeOf.j0]
  generalize x.f0 = a
  by_cases h1 : a = 1
  · subst h1; simp
  by_cases h2 : a = 2
  · subst h2; simp
  by_cases h3 : a = 3
  · subst h3; simp
  by_cases h4 : a = 4
  · subst h4; simp
  by_cases h5 : a = 5
  · subst h5; simp
  by_cases h6 : a = 6
  · subst h6; simp
  by_cases h7 : a = 7
  · subst h7; simp
  by_cases h8 : a = 8
  · subst h8; simp
  by_cases h9 : a = 9
  · subst h9; simp
  simp [h1, h2, h3, h4, h5, h6, h7, h8, h9]
  omega
instance (a : Int) : Decidable (wf a) := inferInstanceAs (Decidable (_ = true))
theorem wf_zero : wf 0 := by decide
end Go.Proofs.Ytmacdhkfgoahcaa.Fo

