/- The pure statement of the law TokenJoins holds: what the code computes is true, whatever the numbers, texts and lists are. No condition beside the statement's own. -/
import Derived.Test.YtpjoajoacakpgaaTokD
import Derived.Test.YtpjoajoacakpgaaTokF
import Derived.Test.YtpjoajoacakpgaaQx6
set_option linter.unusedSimpArgs false
set_option linter.unusedVariables false
namespace Go.Proofs.Ytpjoajoacakpgaa.Pure
open Go.RowKit Go.Proofs.Ytpjoajoacakpgaa.Q Go.Proofs.Ytpjoajoacakpgaa.Tok Go.Proofs.Ytpjoajoacakpgaa.Given Go.Proofs.YtpjoajoacakpgaaW.PrintWords Go.Proofs.YtpjoajoacakpgaaW.PrintLast Go.Proofs.YtpjoajoacakpgaaW.PrintMore
theorem rd_at {l : List S30} {i : Nat} (h : i < l.length) : rd_T30 l (i : Int) = l[i] := by
  simp [rd_T30, List.getD, List.getElem?_eq_getElem h]
theorem joins_run (a b : List S30) (x : ByteArray) (h0 : b.map (fun x => x.f0) = a.map (fun x => x.f0)) (h1 : b.map (fun x => x.f1) = a.map (fun x => x.f1)) (ha : a.length ≤ 65536) (hj : token_Join.f b = some x) (d : Nat) :
    ∀ i : Nat, i + d = a.length → Ev (fun k => swagelaw09_TokenJoins.l0 k true a x b i) true := by
  have hlen : b.length = a.length := by have := congrArg List.length h0; simpa using this
  induction d with
  | zero =>
    intro i hi
    refine Ev.step (f := fun _ => some true) (fun k => ?_) (Ev.now _)
    rw [swagelaw09_TokenJoins.l0, if_neg (by omega), if_pos rfl, hj, Option.bind_some]
    simp
  | succ d ih =>
    intro i hi
    have l1 : i < a.length := by omega
    have l2 : i < b.length := by omega
    have c4 : i ≤ 140737488355328 := by omega
    have e0 : (rd_T30 a i).f0 = (rd_T30 b i).f0 := by
      rw [rd_at l1, rd_at l2]
      have := congrArg (fun z => z[i]?) h0
      simp [l1, l2] at this
      exact this.symm
    have e1 : (rd_T30 a i).f1 = (rd_T30 b i).f1 := by
      rw [rd_at l1, rd_at l2]
      have := congrArg (fun z => z[i]?) h1
      simp [l1, l2] at this
      exact this.symm
    refine Ev.step (fun k => ?_) (ih (i + 1) (by omega))
    rw [swagelaw09_TokenJoins.l0, if_pos (by omega), if_pos (by omega), if_pos (by omega), if_pos e0, if_pos (by rw [e1]), w1 c4]
theorem joinB_same {a b : List S30} (h1 : b.map (fun x => x.f1) = a.map (fun x => x.f1)) : textsL b = textsL a := by
  have e : ∀ l : List S30, textsL l = (l.map fun x => x.f1).map fun y => y.data.toList := fun l => by unfold textsL; rw [List.map_map]; rfl
  rw [e, e, h1]
theorem TokenJoins : swagelaw09_TokenJoins.Pure := by
  intro s hs
  have key : Ev (fun k => swagelaw09_TokenJoins.f k s) true := by
    unfold swagelaw09_TokenJoins.f
    refine Ev.bind small_ev ?_
    by_cases h1 : s.size > 4096
    · exact Ev.congr (fun k => by rw [if_pos (by omega)]) (Ev.now _)
    · have hlen := streamQ_len s.size (skipL s.data.toList)
      have hsum := stream_sum s.size (skipL s.data.toList)
      have hle := skipL_le s.data.toList
      rw [data_length] at hle
      rcases lex_cases s (by omega) with ⟨hl, hok⟩ | ⟨x, hx, h0, hl, _⟩
      · have hgood := stream_good _ _ hok
        obtain ⟨a, ha⟩ : ∃ a, streamQ s.size (skipL s.data.toList) = a := ⟨_, rfl⟩
        rw [ha] at hl hok hgood hlen hsum
        have hjl := join_len (textsL a)
        have htx : (textsL a).length = a.length := by unfold textsL; rw [List.length_map]
        have hJ : (Lib.join (textsL a) [32]).length ≤ 8192 := by omega
        have hx1 : (joinB a).data.toList = Lib.join (textsL a) [32] := rfl
        have hxs : (joinB a).size ≤ 8192 := by rw [← data_length, hx1]; exact hJ
        have hja : token_Join.f a = some (joinB a) := by
          unfold token_Join.f
          rw [if_pos ⟨by omega, by show (Lib.join (textsL a) [32]).length ≤ _; omega⟩]
        obtain ⟨i0, i1⟩ := stream_join (joinB a).size a hgood
        rw [← hx1] at i0 i1
        have hb0 : ∀ y ∈ streamQ (joinB a).size (skipL (joinB a).data.toList), y.f0 ≠ 0 := by
          intro y hy
          have : y.f0 ∈ (streamQ (joinB a).size (skipL (joinB a).data.toList)).map (fun x => x.f0) := List.mem_map_of_mem hy
          rw [i0] at this
          obtain ⟨z, hz, hzy⟩ := List.mem_map.1 this
          rw [← hzy]; exact hok z hz
        have hlx : lexL (joinB a) = (streamQ (joinB a).size (skipL (joinB a).data.toList), ((joinB a).size : Int), 0) := by
          unfold lexL; rw [if_neg (by omega)]; exact lexOf_ok _ hb0
        obtain ⟨b, hb⟩ : ∃ b, streamQ (joinB a).size (skipL (joinB a).data.toList) = b := ⟨_, rfl⟩
        rw [hb] at i0 i1 hlx
        have hbl : b.length = a.length := by have := congrArg List.length i0; simpa using this
        have hjb : token_Join.f b = some (joinB a) := by
          have e : textsL b = textsL a := joinB_same i1
          have e2 : joinB b = joinB a := by show (⟨(Lib.join (textsL b) [32]).toArray⟩ : ByteArray) = _; rw [e]; rfl
          unfold token_Join.f
          rw [if_pos ⟨by omega, by show (Lib.join (textsL b) [32]).length ≤ _; rw [e]; omega⟩, e2]
        refine Ev.congr (f := fun k => swagelaw09_TokenJoins.j0 k true a (joinB a) b false) (fun k => ?_) (Ev.step (f := fun k => swagelaw09_TokenJoins.l0 k true a (joinB a) b ((0 : Nat) : Int)) (fun k => by rw [swagelaw09_TokenJoins.j0, if_neg (by decide)]; rfl) (joins_run a b (joinB a) i0 i1 (by omega) hjb a.length 0 (by omega)))
        rw [if_neg (by omega)]
        unfold token_Lex.f
        rw [hl, Option.bind_some, if_pos rfl, hja, Option.bind_some, Option.bind_some, hlx, if_neg (by omega), if_pos rfl, if_pos (by show (a.length : Int) = (b.length : Int); omega)]
        simp
      · refine Ev.congr (fun k => ?_) (Ev.now _)
        rw [if_neg (by omega)]
        unfold token_Lex.f
        rw [hl, Option.bind_some, if_neg (by simp), if_pos rfl]
        rfl
  exact key.rounds
end Go.Proofs.Ytpjoajoacakpgaa.Pure
