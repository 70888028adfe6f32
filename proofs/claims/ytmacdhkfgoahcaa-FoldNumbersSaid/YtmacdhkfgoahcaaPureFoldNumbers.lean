/- The pure statement of the law FoldNumbers holds: what folding makes of two numbers and an operation on them. No condition beside the statement's own. -/
import Derived.Test.YtmacdhkfgoahcaaQx8
import Derived.Test.YtmacdhkfgoahcaaFoR
set_option linter.unusedSimpArgs false
set_option linter.unusedVariables false
namespace Go.Proofs.Ytmacdhkfgoahcaa.Pure
open Go Go.RowKit Go.Proofs.Ytmacdhkfgoahcaa.Q Go.Proofs.Ytmacdhkfgoahcaa.Fo Go.Proofs.YtmacdhkfgoahcaaW.PrintWords Go.Proofs.YtmacdhkfgoahcaaW.PrintLast Go.Proofs.YtmacdhkfgoahcaaW.PrintMore
theorem block_num {op a b : Int} (h0 : wf op) (h1 : wf a) (h2 : wf b) {L : List S30} {t : S25} (h : blockP (numL op a b) ⟨2, 3, 4, 5⟩ = (L, t)) :
    fold_Block.f [(⟨1, 1, 0, 0, a, ([] : List Int)⟩ : S30), (⟨1, 2, 0, 0, b, ([] : List Int)⟩ : S30), (⟨2, 3, 1, 2, op, ([] : List Int)⟩ : S30)] 2 3 4 5 = some (L, t.f0, t.f1, t.f2, t.f3) := by
  show fold_Block.f (numL op a b) 2 3 4 5 = _
  unfold fold_Block.f
  rw [if_pos (num_in h0 h1 h2), h]
theorem same_num (v : Int) : swageref14_SameOp.f 9 1 3 0 0 v [] 1 3 0 0 v [] = some true := by
  have h : swageref02_Ints.f 9 [] [] = some true := by decide
  unfold swageref14_SameOp.f
  rw [h]
  simp
theorem FoldNumbers : swagelaw24_FoldNumbers.Pure := by
  intro op a b h0 h1 h2
  refine ⟨9, ?_⟩
  unfold swagelaw24_FoldNumbers.f swagelaw24_small.f
  rw [Option.bind_some, known_some, Option.bind_some]
  cases hk : knownB op with
  | false => rfl
  | true =>
    rw [if_pos rfl, do_some]
    by_cases he : (doR op a b).2 = 0
    · rw [block_num h0 h1 h2 (num_ok hk he)]
      simp only [Option.bind_some, List.length_cons, List.length_nil]
      rw [if_pos (by decide), if_pos he]
      by_cases hv : (doR op a b).1 = 0
      · rw [if_pos hv]
        simp only [if_true]
        rw [if_pos (by decide)]
        show (swageref14_SameOp.f 9 1 3 0 0 (doR op a b).1 [] 1 3 0 0 (doR op a b).1 []).bind _ = _
        rw [same_num, Option.bind_some, if_pos rfl, if_pos hv]
        rfl
      · rw [if_neg hv]
        simp only [if_true]
        rw [if_pos (by decide)]
        show (swageref14_SameOp.f 9 1 3 0 0 (doR op a b).1 [] 1 3 0 0 (doR op a b).1 []).bind _ = _
        rw [same_num, Option.bind_some, if_pos rfl, if_neg hv]
        rfl
    · rw [block_num h0 h1 h2 (num_err hk he)]
      simp only [Option.bind_some]
      rw [if_pos (by rfl), if_neg he]
      simp only [if_true]
      rw [if_pos (by show (2 : Int) < 3; decide)]
      rfl
end Go.Proofs.Ytmacdhkfgoahcaa.Pure
