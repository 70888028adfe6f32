/- What folding makes of two numbers and an operation on them. No memory, no Go. -/
import Derived.Test.YtmacdhkfgoahcaaFoP
set_option linter.unusedVariables false
set_option linter.unusedSimpArgs false
namespace Go.Proofs.Ytmacdhkfgoahcaa.Fo
open Go Go.RowKit Go.Maps Go.Proofs.Ytmacdhkfgoahcaa.Q Go.Proofs.YtmacdhkfgoahcaaW.PrintWords Go.Proofs.YtmacdhkfgoahcaaW.PrintLast Go.Proofs.YtmacdhkfgoahcaaW.PrintMore
theorem del_nil (d : Int) : del (fun _ => none) d = fun _ => none := by funext x; unfold del; split <;> rfl
theorem strike_nil (d : Int) : strike (fun _ => none) d = fun _ => none := by funext x; unfold strike; simp
theorem err_cases {op a b : Int} (hk : knownB op = true) (h : (doR op a b).2 ≠ 0) : ((op = 4 ∨ op = 5) ∧ b = 0) ∨ ((op = 9 ∨ op = 10) ∧ b < 0) := by
  have hd := do_some op a b
  revert h hd
  generalize doR op a b = r
  intro h hd
  unfold word_Do.f at hd
  obtain ⟨r1, h1⟩ := moved_some op a b
  obtain ⟨r2, h2⟩ := plain_some op a b
  have h3 := known_some op
  rw [hk] at h3
  by_cases hb : b = 0
  · subst hb
    simp only [word_Do.j0, word_Do.j1, h1, h2, h3, Option.bind_some, if_true] at hd
    repeat' split at hd
    all_goals first
      | (injection hd with hd; subst hd; exact absurd rfl h)
      | (left; refine ⟨?_, rfl⟩; first | (left; assumption) | (right; simp_all))
      | omega
      | simp_all
  · obtain ⟨r3, h4⟩ := divided_some op a b hb
    simp only [word_Do.j0, word_Do.j1, h1, h2, h3, h4, Option.bind_some, if_true] at hd
    repeat' split at hd
    all_goals first
      | (injection hd with hd; subst hd; exact absurd rfl h)
      | (right; refine ⟨?_, by assumption⟩; first | (left; assumption) | (right; simp_all))
      | omega
      | simp_all
theorem neu_err {op b : Int} (h : ((op = 4 ∨ op = 5) ∧ b = 0) ∨ ((op = 9 ∨ op = 10) ∧ b < 0)) : neuB op b = false := by
  have hn := neutral_some op b
  unfold fold_Neutral.f at hn
  rcases h with ⟨h | h, hb⟩ | ⟨h | h, hb⟩ <;> subst h <;> simp [fold_Neutral.j0, fold_Neutral.j1] at hn <;> first | (rw [← hn]; simp; omega) | (rw [← hn]) | skip
  all_goals first | (simpa using hn.symm) | omega | simp_all
abbrev n0 : Fn := fun _ => none
theorem learn1P (m : Fn) (d p q v : Int) (r : List Int) (hd : d ≠ 0) : learnF m n0 ⟨1, d, p, q, v, r⟩ = (put (del m d) d v, n0) := by
  unfold learnF setsD setsC setsI
  simp [hd, del_nil, strike_nil]
theorem learn2P (m : Fn) (d p q v : Int) (r : List Int) (hd : d ≠ 0) : learnF m n0 ⟨2, d, p, q, v, r⟩ = (del m d, n0) := by
  unfold learnF setsD setsC setsI
  simp [hd, del_nil, strike_nil]
theorem replP_n0 (x : S30) : replP n0 x = x := by
  have h : heldI n0 = id := rfl
  unfold replP
  rw [h]
  repeat' split
  all_goals first | rfl | simp
theorem opP_1 (m : Fn) (d p q v : Int) (r : List Int) : opP m ⟨1, d, p, q, v, r⟩ = ⟨1, d, p, q, v, r⟩ := rfl
/-- The law's block. -/
def numL (op a b : Int) : List S30 := [(⟨1, 1, 0, 0, a, ([] : List Int)⟩ : S30), (⟨1, 2, 0, 0, b, ([] : List Int)⟩ : S30), (⟨2, 3, 1, 2, op, ([] : List Int)⟩ : S30)]
def numM (a b : Int) : Fn := put (del (put (del n0 1) 1 a) 2) 2 b
theorem numM1 (a b : Int) : numM a b 1 = some a := rfl
theorem numM2 (a b : Int) : numM a b 2 = some b := rfl
theorem num_fold (op a b : Int) : foldSt (numL op a b) = ([(⟨1, 1, 0, 0, a, ([] : List Int)⟩ : S30), (⟨1, 2, 0, 0, b, ([] : List Int)⟩ : S30), opP (numM a b) ⟨2, 3, 1, 2, op, []⟩], learnF (numM a b) n0 (opP (numM a b) ⟨2, 3, 1, 2, op, []⟩)) := by
  unfold foldSt numL
  simp only [foldGo, replP_n0, opP_1, learn1P _ _ _ _ _ _ (show (1 : Int) ≠ 0 by decide), learn1P _ _ _ _ _ _ (show (2 : Int) ≠ 0 by decide)]
  rfl
theorem num_op_ok {op a b : Int} (hk : knownB op = true) (h : (doR op a b).2 = 0) : opP (numM a b) ⟨2, 3, 1, 2, op, []⟩ = ⟨1, 3, 0, 0, (doR op a b).1, []⟩ := by
  have hb : bothR (numM a b) ⟨2, 3, 1, 2, op, []⟩ = ((doR op a b).1, true) := by
    rw [bothR_some (numM1 a b) (numM2 a b)]; simp [h]
  unfold opP
  rw [if_neg (by simp), if_pos (by simp [hk])]
  unfold reckonP
  rw [hb, if_pos rfl]
  rfl
theorem num_op_err {op a b : Int} (hk : knownB op = true) (h : (doR op a b).2 ≠ 0) : opP (numM a b) ⟨2, 3, 1, 2, op, []⟩ = ⟨2, 3, 1, 2, op, []⟩ := by
  have hb : bothR (numM a b) ⟨2, 3, 1, 2, op, []⟩ = ((doR op a b).1, false) := by
    rw [bothR_some (numM1 a b) (numM2 a b)]; simp [h]
  have he := err_cases hk h
  have hn : neutralB (numM a b) op 2 = false := by unfold neutralB; rw [numM2]; simp [neu_err he]
  have ht : turB op = false ∧ (op == 3) = false ∧ (op == 6) = false := by
    rcases he with ⟨h | h, _⟩ | ⟨h | h, _⟩ <;> subst h <;> decide
  unfold opP
  rw [if_neg (by simp), if_pos (by simp [hk])]
  unfold reckonP
  rw [hb]
  simp [hn, ht.1, ht.2.1, ht.2.2]
theorem num_ok {op a b : Int} (hk : knownB op = true) (h : (doR op a b).2 = 0) : blockP (numL op a b) ⟨2, 3, 4, 5⟩ = ([(⟨1, 1, 0, 0, a, ([] : List Int)⟩ : S30), (⟨1, 2, 0, 0, b, ([] : List Int)⟩ : S30), (⟨1, 3, 0, 0, (doR op a b).1, ([] : List Int)⟩ : S30)], if (doR op a b).1 = 0 then ⟨1, 0, 5, 0⟩ else ⟨1, 0, 4, 0⟩) := by
  unfold blockP
  rw [num_fold, num_op_ok hk h, learn1P _ _ _ _ _ _ (by decide)]
  refine congrArg (Prod.mk _) ?_
  show (if ((doR op a b).1 == 0) = true then (⟨1, 0, 5, 0⟩ : S25) else ⟨1, 0, 4, 0⟩) = _
  by_cases h0 : (doR op a b).1 = 0
  · rw [if_pos h0, if_pos (by simp [h0])]
  · rw [if_neg h0, if_neg (by simp [h0])]
theorem num_err {op a b : Int} (hk : knownB op = true) (h : (doR op a b).2 ≠ 0) : blockP (numL op a b) ⟨2, 3, 4, 5⟩ = (numL op a b, ⟨2, 3, 4, 5⟩) := by
  unfold blockP
  rw [num_fold, num_op_err hk h, learn2P _ _ _ _ _ _ (by decide)]
  rfl
theorem num_wf {op a b : Int} (h0 : wf op) (h1 : wf a) (h2 : wf b) {x : S30} (hx : x ∈ numL op a b) : WfOp x ∧ x.f5 = [] ∧ (x.f0 == 7) = false := by
  simp only [numL, List.mem_cons, List.not_mem_nil, or_false] at hx
  rcases hx with rfl | rfl | rfl
  · exact ⟨⟨(by decide : wf 1), wf_zero, wf_zero, h1, fun r hr => by cases hr⟩, rfl, rfl⟩
  · exact ⟨⟨(by decide : wf 2), wf_zero, wf_zero, h2, fun r hr => by cases hr⟩, rfl, rfl⟩
  · exact ⟨⟨(by decide : wf 3), (by decide : wf 1), (by decide : wf 2), h0, fun r hr => by cases hr⟩, rfl, rfl⟩
theorem num_in {op a b : Int} (h0 : wf op) (h1 : wf a) (h2 : wf b) : BIn (numL op a b) ⟨2, 3, 4, 5⟩ := ⟨by show 3 < _; decide, fun x hx => by rw [(num_wf h0 h1 h2 hx).2.1]; decide, fun x hx => (num_wf h0 h1 h2 hx).1, (by decide : wf 3), fun x hx => (num_wf h0 h1 h2 hx).2.2⟩
end Go.Proofs.Ytmacdhkfgoahcaa.Fo
