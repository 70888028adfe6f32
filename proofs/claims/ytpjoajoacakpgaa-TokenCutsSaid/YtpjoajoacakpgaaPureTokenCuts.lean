/- The pure statement of the law TokenCuts holds: what the code computes is true, whatever the numbers, texts and lists are. No condition beside the statement's own. -/
import Derived.Test.YtpjoajoacakpgaaTokD
import Derived.Test.YtpjoajoacakpgaaQx5
set_option linter.unusedSimpArgs false
set_option linter.unusedVariables false
namespace Go.Proofs.Ytpjoajoacakpgaa.Pure
open Go.RowKit Go.Proofs.Ytpjoajoacakpgaa.Q Go.Proofs.Ytpjoajoacakpgaa.Tok Go.Proofs.Ytpjoajoacakpgaa.Given Go.Proofs.YtpjoajoacakpgaaW.PrintWords Go.Proofs.YtpjoajoacakpgaaW.PrintLast Go.Proofs.YtpjoajoacakpgaaW.PrintMore
theorem cuts_small (s : ByteArray) (hs : s.size ≤ 65536) : Ev (fun k => swagelaw09_TokenCuts.j0 k s true false) true := by
  refine Ev.step (f := fun k => ((swageref09_Lex.f k s).bind fun bt165 => ((swageref09_Same.f k (lexL s).1 bt165.1).bind fun t170 => (if t170 = true then (if (lexL s).2.1 = bt165.2.1 then (some ((lexL s).2.2 == bt165.2.2)) else (some false)) else (some false))))) (fun k => by rw [swagelaw09_TokenCuts.j0, if_neg (by decide)]; unfold token_Lex.f; rw [Option.bind_some]; simp only [if_true]) ?_
  refine Ev.bind (ref_lex s) (Ev.bind (ref_same _ (by have := lexL_len s; omega)) ?_)
  refine Ev.congr (fun k => ?_) (Ev.now _)
  rw [if_pos rfl, if_pos rfl]; simp
theorem cuts_big (s : ByteArray) (hs : s.size > 65536) : Ev (fun k => swagelaw09_TokenCuts.j0 k s true false) true := by
  refine Ev.step (f := fun k => ((swageref09_Lex.f k s).bind fun bt165 => ((swageref09_Same.f k (lexL s).1 bt165.1).bind fun t170 => (if t170 = true then (if (lexL s).2.1 = bt165.2.1 then (some ((lexL s).2.2 == bt165.2.2)) else (some false)) else (some false))))) (fun k => by rw [swagelaw09_TokenCuts.j0, if_neg (by decide)]; unfold token_Lex.f; rw [Option.bind_some]; simp only [if_true]) ?_
  refine Ev.bind (ref_lex s) (Ev.bind (ref_same _ (by have := lexL_len s; omega)) ?_)
  refine Ev.congr (fun k => ?_) (Ev.now _)
  rw [if_pos rfl, if_pos rfl]; simp
theorem TokenCuts : swagelaw09_TokenCuts.Pure := by
  intro s hs
  have key : Ev (fun k => swagelaw09_TokenCuts.f k s) true := by
    unfold swagelaw09_TokenCuts.f
    refine Ev.bind small_ev ?_
    have H : Ev (fun k => swagelaw09_TokenCuts.j0 k s true false) true := by
      by_cases h : s.size ≤ 65536
      · exact cuts_small s h
      · exact cuts_big s (by omega)
    by_cases h1 : s.size > 4096
    · by_cases h2 : s.size ≤ 65536
      · refine Ev.congr (f := fun k => swagelaw09_TokenCuts.j0 k s true true) (fun k => ?_) (Ev.step (fun k => by rw [swagelaw09_TokenCuts.j0, if_pos rfl]) (Ev.now _))
        rw [if_pos (by omega), decide_eq_true (by omega)]
      · refine Ev.congr (fun k => ?_) H
        rw [if_pos (by omega), decide_eq_false (by omega)]
    · refine Ev.congr (fun k => ?_) H
      rw [if_neg (by omega)]
  exact key.rounds
end Go.Proofs.Ytpjoajoacakpgaa.Pure
