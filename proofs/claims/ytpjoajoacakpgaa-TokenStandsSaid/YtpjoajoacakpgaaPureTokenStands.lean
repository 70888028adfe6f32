/- The pure statement of the law TokenStands holds: what the code computes is true, whatever the numbers, texts and lists are. No condition beside the statement's own. -/
import Derived.Test.YtpjoajoacakpgaaTokD
import Derived.Test.YtpjoajoacakpgaaTokF
import Derived.Test.YtpjoajoacakpgaaQx7
set_option linter.unusedSimpArgs false
set_option linter.unusedVariables false
namespace Go.Proofs.Ytpjoajoacakpgaa.Pure
open Go.RowKit Go.Proofs.Ytpjoajoacakpgaa.Q Go.Proofs.Ytpjoajoacakpgaa.Tok Go.Proofs.Ytpjoajoacakpgaa.Given Go.Proofs.YtpjoajoacakpgaaW.PrintWords Go.Proofs.YtpjoajoacakpgaaW.PrintLast Go.Proofs.YtpjoajoacakpgaaW.PrintMore
theorem rd_at {l : List S30} {i : Nat} (h : i < l.length) : rd_T30 l (i : Int) = l[i] := by
  simp [rd_T30, List.getD, List.getElem?_eq_getElem h]
theorem wadd {a b : Nat} (h : a + b ≤ 140737488355328) : wrap64 ((a : Int) + (b : Int)) = ((a + b : Nat) : Int) := by unfold wrap64; omega
theorem wsub {a b : Nat} (hb : b ≤ a) (h : a ≤ 140737488355328) : wrap64 ((a : Int) - (b : Int)) = ((a - b : Nat) : Int) := by unfold wrap64; omega
theorem stands_run (s : ByteArray) (hs : s.size ≤ 4096) (toks : List S30) (htl : toks.length ≤ 65536) (d : Nat) : ∀ (i e : Nat), toks.length - i = d → i ≤ toks.length → e ≤ s.size →
    toks.drop i = streamQ s.size (skipL (s.data.toList.drop e)) → (∀ x ∈ toks.drop i, x.f0 ≠ 0) → Ev (fun k => swagelaw09_TokenStands.l0 k s true toks e i) true := by
  induction d with
  | zero =>
    intro i e hd hi he hst hok
    obtain rfl : i = toks.length := by omega
    rw [List.drop_length] at hst
    have hn : skipL (s.data.toList.drop e) = [] := by
      by_cases h : skipL (s.data.toList.drop e) = []
      · exact h
      · rw [streamQ, dif_neg h] at hst
        split at hst <;> exact absurd hst (by simp)
    have hg := gap_skip (s.data.toList.drop e)
    rw [hn, List.length_nil, Nat.sub_zero, List.take_length] at hg
    refine Ev.step (f := fun _ => some true) (fun k => ?_) (Ev.now _)
    rw [swagelaw09_TokenStands.l0, if_neg (by omega), if_pos rfl]
    unfold swagelaw09_gap.f
    rw [if_pos (by omega), if_pos ⟨by omega, by omega, by omega⟩, Int.toNat_natCast, Int.toNat_natCast]
    have : seg s s.size e = s.data.toList.drop e := by
      unfold seg; rw [List.take_of_length_le (by simp)]
    rw [this, hg]; rfl
  | succ d ih =>
    intro i e hd hi he hst hok
    have hlt : i < toks.length := by omega
    have hdi : toks.drop i = toks[i] :: toks.drop (i + 1) := List.drop_eq_getElem_cons hlt
    obtain ⟨q, hq⟩ : ∃ q, skipL (s.data.toList.drop e) = q := ⟨_, rfl⟩
    have hgap := gap_skip (s.data.toList.drop e)
    have hsuf := (skipL_suffix (s.data.toList.drop e)).trans (List.drop_suffix e s.data.toList)
    have hle := skipL_le (s.data.toList.drop e)
    rw [List.length_drop, data_length] at hle
    rw [hq] at hst hgap hsuf hle
    have hqd : q = s.data.toList.drop (s.size - q.length) := by
      have := List.suffix_iff_eq_drop.1 hsuf
      rwa [data_length] at this
    rw [hdi] at hst hok
    have hne : q ≠ [] := by
      rintro rfl
      rw [streamQ, dif_pos rfl] at hst; cases hst
    have hk : (cutL q).2 ≠ 0 := by
      intro h0
      rw [streamQ, dif_neg hne, dif_pos h0] at hst
      have h1 : toks[i] = tokQ s.size q := by injection hst
      exact hok _ List.mem_cons_self (by rw [h1]; exact h0)
    rw [streamQ, dif_neg hne, dif_neg hk] at hst
    have h1 : toks[i] = tokQ s.size q := by injection hst
    have h2 : toks.drop (i + 1) = streamQ s.size (skipL (q.drop (cutL q).1)) := by injection hst
    have hp := cutL_pos q hk
    have hm := cutL_le q
    obtain ⟨k1, k2, k3⟩ := kind_name hk
    have hl := cut_len hk
    obtain ⟨p, hpe⟩ : ∃ p, s.size - q.length = p := ⟨_, rfl⟩
    have hq0 : q.length ≤ s.size := by omega
    have f2 : (rd_T30 toks i).f2 = (p : Int) := by rw [rd_at hlt, h1]; show (s.size : Int) - q.length = p; omega
    have f0 : (rd_T30 toks i).f0 = (cutL q).2 := by rw [rd_at hlt, h1]; rfl
    have f1 : (rd_T30 toks i).f1.data.toList = q.take (cutL q).1 := by rw [rd_at hlt, h1]; rfl
    have fs : (rd_T30 toks i).f1.size = (cutL q).1 := by rw [← data_length, f1, hl]
    rw [hpe] at hqd
    have hg : swagelaw09_gap.f s e p = some true := by
      unfold swagelaw09_gap.f
      rw [if_pos (by omega), if_pos ⟨by omega, by omega, by omega⟩, Int.toNat_natCast, Int.toNat_natCast]
      have : seg s p e = (s.data.toList.drop e).take ((s.data.toList.drop e).length - q.length) := by
        unfold seg; rw [List.length_drop, data_length, show p - e = s.size - e - q.length from by omega]
      rw [this, hgap]
    have hx : s.extract p (p + (cutL q).1) = (rd_T30 toks i).f1 := by
      apply bytes_ext; rw [sub_take, f1, ← hqd]
    have hnext : toks.drop (i + 1) = streamQ s.size (skipL (s.data.toList.drop (p + (cutL q).1))) := by
      rw [h2]; conv => lhs; rw [hqd]
      rw [List.drop_drop, ← hqd]
    have b1 : p + (cutL q).1 ≤ s.size := by omega
    have b2 : 1 ≤ (cutL q).1 := hp
    have b3 : e ≤ p := by omega
    have IH := ih (i + 1) (p + (cutL q).1) (by omega) (by omega) (by omega) hnext (fun x hx => hok x (List.mem_cons_of_mem _ hx))
    clear ih hok hnext
    generalize hT : rd_T30 toks i = T at f0 f1 f2 fs hx
    clear hst hgap hsuf hle hqd hp hm hl hpe hq0 h1 h2 hd hdi hq
    generalize cutL q = cq at *
    obtain ⟨m, kd⟩ := cq
    simp only at *
    have c1 : p + m ≤ 140737488355328 := by omega
    have c2 : p ≤ s.size := by omega
    have c3 : s.size ≤ 140737488355328 := by omega
    have c4 : i ≤ 140737488355328 := by omega
    refine Ev.step (f := fun k => swagelaw09_TokenStands.j1 k s true toks i p (m : Int) false) (fun k => ?_) (Ev.step (fun k => ?_) IH)
    · rw [swagelaw09_TokenStands.l0, if_pos (by omega), if_pos (by omega), hT, f2, hg, Option.bind_some, if_pos rfl, fs, wsub c2 c3, wadd c1, if_neg (by omega), if_neg (by omega), if_pos (by omega), if_pos (by omega), if_pos (by omega), Int.toNat_natCast, Int.toNat_natCast, hx]
      simp
    · rw [swagelaw09_TokenStands.j1, if_neg (by decide), if_pos (by omega), if_pos (by omega), hT]
      unfold token_Number.f token_Name.f token_Sign.f
      rw [if_pos (by omega), if_pos (by omega), Option.bind_some, Option.bind_some, Option.bind_some, f0, f1, k1, k2, k3, wadd c1, w1 c4]
      simp
theorem TokenStands : swagelaw09_TokenStands.Pure := by
  intro s hs
  have key : Ev (fun k => swagelaw09_TokenStands.f k s) true := by
    unfold swagelaw09_TokenStands.f
    refine Ev.bind small_ev ?_
    by_cases h1 : s.size > 4096
    · exact Ev.congr (fun k => by rw [if_pos (by omega)]) (Ev.now _)
    · have hlen := streamQ_len s.size (skipL s.data.toList)
      have hle := skipL_le s.data.toList
      rw [data_length] at hle
      rcases lex_cases s (by omega) with ⟨hl, hok⟩ | ⟨x, hx, h0, hl, _⟩
      · refine Ev.congr (f := fun k => swagelaw09_TokenStands.l0 k s true (streamQ s.size (skipL s.data.toList)) ((0 : Nat) : Int) ((0 : Nat) : Int)) (fun k => ?_) (stands_run s (by omega) _ (by omega) _ 0 0 rfl (by omega) (by omega) (by rw [List.drop_zero, List.drop_zero]) (by rw [List.drop_zero]; exact hok))
        rw [if_neg (by omega)]
        unfold token_Lex.f
        rw [hl, Option.bind_some, if_pos rfl]
        rfl
      · have hat := stream_at s.size _ hle x hx
        refine Ev.congr (fun k => ?_) (Ev.now _)
        rw [if_neg (by omega)]
        unfold token_Lex.f
        rw [hl, Option.bind_some, if_neg (by simp), if_pos rfl, if_pos (by exact hat.1), decide_eq_true (by exact hat.2)]
  exact key.rounds
end Go.Proofs.Ytpjoajoacakpgaa.Pure
