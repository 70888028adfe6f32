/- Plain facts on the stream of tokens of a text. No program in sight. -/
import Derived.Test.YtpjoajoacakpgaaTokE
set_option linter.unusedVariables false
set_option linter.unusedSimpArgs false
namespace Go.Proofs.Ytpjoajoacakpgaa.Tok
open Go.RowKit Go.Proofs.Ytpjoajoacakpgaa.Q Go.Proofs.Ytpjoajoacakpgaa.Given Go.Proofs.YtpjoajoacakpgaaW.PrintWords Go.Proofs.YtpjoajoacakpgaaW.PrintLast Go.Proofs.YtpjoajoacakpgaaW.PrintMore
theorem stream_at (n : Nat) (q : List UInt8) (hq : q.length ≤ n) : ∀ x ∈ streamQ n q, 0 ≤ x.f2 ∧ x.f2 < (n : Int) := by
  fun_induction streamQ n q with
  | case1 => simp
  | case2 q h hk =>
    intro x hx
    obtain rfl := List.mem_singleton.1 hx
    have h3 : q.length ≠ 0 := fun e => h (List.length_eq_zero_iff.1 e)
    unfold tokQ; simp only; omega
  | case3 q h hk ih =>
    intro x hx
    have h3 : q.length ≠ 0 := fun e => h (List.length_eq_zero_iff.1 e)
    rcases List.mem_cons.1 hx with rfl | hx
    · unfold tokQ; simp only; omega
    · refine ih ?_ x hx
      have h1 := skipL_le (q.drop (cutL q).1)
      rw [List.length_drop] at h1
      omega
/-- The two ways in which Lex ends. -/
theorem lex_cases (s : ByteArray) (hs : s.size ≤ 65536) :
    (lexL s = (streamQ s.size (skipL s.data.toList), (s.size : Int), 0) ∧ ∀ x ∈ streamQ s.size (skipL s.data.toList), x.f0 ≠ 0) ∨
    ∃ x ∈ streamQ s.size (skipL s.data.toList), x.f0 = 0 ∧ lexL s = ([], x.f2, 2) ∧ (streamQ s.size (skipL s.data.toList)).find? (fun x => x.f0 == 0) = some x := by
  unfold lexL
  rw [if_neg (by omega)]
  cases hf : (streamQ s.size (skipL s.data.toList)).find? (fun x => x.f0 == 0) with
  | none =>
    left
    have h : ∀ x ∈ streamQ s.size (skipL s.data.toList), x.f0 ≠ 0 := by
      rw [List.find?_eq_none] at hf
      intro x hx; simpa using hf x hx
    exact ⟨lexOf_ok _ h, h⟩
  | some x =>
    right
    refine ⟨x, List.mem_of_find?_eq_some hf, by simpa using List.find?_some hf, ?_, rfl⟩
    unfold lexOf; rw [hf]
/-- A token that is some text's first. -/
def Good (x : S30) : Prop := ∃ q, (cutL q).2 ≠ 0 ∧ x.f0 = (cutL q).2 ∧ x.f1.data.toList = q.take (cutL q).1
theorem stream_good (n : Nat) (q : List UInt8) (h : ∀ x ∈ streamQ n q, x.f0 ≠ 0) : ∀ x ∈ streamQ n q, Good x := by
  fun_induction streamQ n q with
  | case1 => simp
  | case2 q hq hk => exact absurd hk (h _ (List.mem_singleton_self _))
  | case3 q hq hk ih =>
    intro x hx
    rcases List.mem_cons.1 hx with rfl | hx
    · exact ⟨q, hk, rfl, rfl⟩
    · exact ih (fun y hy => h y (List.mem_cons_of_mem _ hy)) x hx
def textsL (l : List S30) : List (List UInt8) := l.map fun x => x.f1.data.toList
theorem stream_sum (n : Nat) (q : List UInt8) : ((textsL (streamQ n q)).map fun t => t.length).sum + (streamQ n q).length ≤ 2 * q.length := by
  unfold textsL
  fun_induction streamQ n q with
  | case1 => simp
  | case2 q hq hk =>
    have h3 : q.length ≠ 0 := fun e => hq (List.length_eq_zero_iff.1 e)
    have e : (tokQ n q).f1.data.toList.length ≤ q.length := by
      show (q.take (cutL q).1).length ≤ _
      rw [List.length_take]; omega
    simp only [List.map_cons, List.map_nil, List.sum_cons, List.sum_nil, List.length_cons, List.length_nil]
    omega
  | case3 q hq hk ih =>
    have h1 := skipL_le (q.drop (cutL q).1)
    have h2 := cutL_pos q hk
    have h4 := cutL_le q
    have e : (tokQ n q).f1.data.toList.length = (cutL q).1 := by
      show (q.take (cutL q).1).length = _
      rw [List.length_take]; omega
    rw [List.length_drop] at h1
    simp only [List.map_cons, List.sum_cons, List.length_cons, e]
    omega
theorem join_two (x : List UInt8) (y : List UInt8) (r : List (List UInt8)) : Lib.join (x :: y :: r) [32] = x ++ 32 :: Lib.join (y :: r) [32] := by
  rw [Lib.join_cons, Lib.join_cons]
  simp [Lib.joinTail]
theorem join_len (l : List (List UInt8)) : (Lib.join l [32]).length ≤ (l.map fun t => t.length).sum + l.length := by
  cases l with
  | nil => simp [Lib.join_nil]
  | cons x r =>
    rw [Lib.join_cons, List.length_append, Lib.joinTail_length]
    simp only [Lib.lens, List.map_cons, List.sum_cons, List.length_cons, List.length_nil]
    omega
/-- What is told of a joined text: the same kinds and texts. -/
theorem stream_join (n : Nat) : ∀ (l : List S30), (∀ x ∈ l, Good x) →
    (streamQ n (skipL (Lib.join (textsL l) [32]))).map (fun x => x.f0) = l.map (fun x => x.f0) ∧ (streamQ n (skipL (Lib.join (textsL l) [32]))).map (fun x => x.f1) = l.map (fun x => x.f1)
  | [], _ => by
    unfold textsL
    rw [List.map_nil, Lib.join_nil, skipL_nil, streamQ, dif_pos rfl]; exact ⟨rfl, rfl⟩
  | [x], h => by
    obtain ⟨q, hk, h0, h1⟩ := h x (List.mem_singleton_self _)
    have e : textsL [x] = [q.take (cutL q).1] := by unfold textsL; rw [List.map_cons, h1]; rfl
    have hl := cut_len hk
    have hp := cutL_pos q hk
    have hc := cut_take hk
    have hs := (skip_tok hk [] 32 (.inl rfl)).2
    rw [e, Lib.join_one, hs]
    generalize q.take (cutL q).1 = t at *
    have hne : t ≠ [] := fun e => by rw [e] at hl; simp at hl; omega
    rw [streamQ, dif_neg hne, dif_neg (by rw [hc]; exact hk), hc, List.drop_of_length_le (by omega), skipL_nil, streamQ, dif_pos rfl]
    refine ⟨?_, ?_⟩
    · simp [tokQ, hc, h0]
    · simp only [tokQ, hc, List.map_cons, List.map_nil]
      rw [List.take_of_length_le (by omega), ← h1]
  | x :: y :: l, h => by
    obtain ⟨q, hk, h0, h1⟩ := h x List.mem_cons_self
    obtain ⟨i0, i1⟩ := stream_join n (y :: l) (fun z hz => h z (List.mem_cons_of_mem _ hz))
    have e : textsL (x :: y :: l) = q.take (cutL q).1 :: textsL (y :: l) := by unfold textsL; rw [List.map_cons, h1]
    have e' : textsL (y :: l) = y.f1.data.toList :: textsL l := rfl
    have hl := cut_len hk
    have hp := cutL_pos q hk
    have hc := cut_take hk
    have hj : Lib.join (textsL (x :: y :: l)) [32] = q.take (cutL q).1 ++ 32 :: Lib.join (textsL (y :: l)) [32] := by rw [e, e', join_two]
    generalize Lib.join (textsL (y :: l)) [32] = r at *
    have hs := (skip_tok hk r 32 (.inl rfl)).1
    rw [hj, hs]
    generalize q.take (cutL q).1 = t at *
    have hne : t ≠ [] := fun e => by rw [e] at hl; simp at hl; omega
    have hc2 : cutL (t ++ 32 :: r) = cutL q := by rw [cut_app (.inl rfl) r hne, hc]
    have hdr : (t ++ 32 :: r).drop (cutL q).1 = 32 :: r := by rw [← hl, List.drop_left]
    have hta : (t ++ 32 :: r).take (cutL q).1 = t := by rw [← hl, List.take_left]
    rw [streamQ, dif_neg (by simp), dif_neg (by rw [hc2]; exact hk), hc2, hdr, skipL_blank (by decide)]
    refine ⟨?_, ?_⟩
    · rw [List.map_cons, i0, List.map_cons (a := x)]
      simp [tokQ, hc2, h0]
    · rw [List.map_cons, i1, List.map_cons (a := x)]
      have : (tokQ n (t ++ 32 :: r)).f1 = x.f1 := by
        apply bytes_ext
        rw [h1]
        show (t ++ 32 :: r).take (cutL (t ++ 32 :: r)).1 = t
        rw [hc2, hta]
      rw [this]
/-- A token told further on. -/
def shift (d : Nat) (x : S30) : S30 := ⟨x.f0, x.f1, x.f2 + d⟩
theorem stream_shift (n d : Nat) (q : List UInt8) : streamQ (n + d) q = (streamQ n q).map (shift d) := by
  fun_induction streamQ n q with
  | case1 => rw [streamQ, dif_pos rfl]; rfl
  | case2 q h hk =>
    rw [streamQ, dif_neg h, dif_pos hk]
    simp only [List.map_cons, List.map_nil, shift, tokQ]
    congr 2; omega
  | case3 q h hk ih =>
    rw [streamQ, dif_neg h, dif_neg hk, ih]
    simp only [List.map_cons, shift, tokQ]
    congr 2; omega
/-- What is told of two texts with a line feed between. -/
theorem stream_app (n : Nat) (t : List UInt8) (q : List UInt8) (hq : skipL q = q) : streamQ (n + (1 + t.length)) (skipL (q ++ 10 :: t)) =
    streamQ n q ++ if (∀ x ∈ streamQ n q, x.f0 ≠ 0) then streamQ (n + (1 + t.length)) (skipL t) else [] := by
  obtain ⟨m, hm⟩ : ∃ m, q.length = m := ⟨_, rfl⟩
  induction m using Nat.strongRecOn generalizing q with
  | _ m ih =>
    rw [skip_app, hq]
    by_cases h : q = []
    · subst h
      rw [if_pos rfl]
      have e : streamQ n [] = [] := by rw [streamQ, dif_pos rfl]
      rw [e, if_pos (by simp), List.nil_append]
    rw [if_neg h]
    have hc : cutL (q ++ 10 :: t) = cutL q := cut_app (.inr rfl) t h
    have h3 : q.length ≠ 0 := fun e => h (List.length_eq_zero_iff.1 e)
    have hle := cutL_le q
    have htk : tokQ (n + (1 + t.length)) (q ++ 10 :: t) = tokQ n q := by
      unfold tokQ
      rw [hc, List.take_append_of_le_length hle, List.length_append, List.length_cons]
      congr 1; omega
    by_cases hk : (cutL q).2 = 0
    · have e : streamQ n q = [tokQ n q] := by rw [streamQ, dif_neg h, dif_pos hk]
      rw [e, if_neg (fun hx => hx _ (List.mem_singleton_self _) hk), List.append_nil]
      rw [streamQ, dif_neg (by simp), dif_pos (by rw [hc]; exact hk), htk]
    · have e : streamQ n q = tokQ n q :: streamQ n (skipL (q.drop (cutL q).1)) := by rw [streamQ, dif_neg h, dif_neg hk]
      have e2 : streamQ (n + (1 + t.length)) (q ++ 10 :: t) = tokQ n q :: streamQ (n + (1 + t.length)) (skipL (q.drop (cutL q).1 ++ 10 :: t)) := by
        rw [streamQ, dif_neg (by simp), dif_neg (by rw [hc]; exact hk), htk, hc, List.drop_append_of_le_length hle]
      have hp := cutL_pos q hk
      have h1 := skipL_le (q.drop (cutL q).1)
      rw [List.length_drop] at h1
      have hid : skipL (skipL (q.drop (cutL q).1)) = skipL (q.drop (cutL q).1) := by
        generalize q.drop (cutL q).1 = z
        fun_induction skipL z with
        | case1 z hz ih => exact ih
        | case2 z hz =>
          have h0 : (z.dropWhile blaB).dropWhile blaB = z.dropWhile blaB := by
            induction z with
            | nil => rfl
            | cons c z ihz =>
              by_cases hb : blaB c = true
              · simp only [List.dropWhile_cons, hb, if_true] at hz ⊢; exact ihz hz
              · simp [List.dropWhile_cons, hb]
          rw [skipL, dif_neg (by rw [h0]; exact hz), h0]
      have ih' := ih _ (by omega) (skipL (q.drop (cutL q).1)) hid rfl
      have hsk : skipL (skipL (q.drop (cutL q).1) ++ 10 :: t) = skipL (q.drop (cutL q).1 ++ 10 :: t) := by rw [skip_app, skip_app, hid]
      rw [hsk] at ih'
      rw [e2, ih', e, List.cons_append]
      have hiff : (∀ x ∈ tokQ n q :: streamQ n (skipL (q.drop (cutL q).1)), x.f0 ≠ 0) ↔ (∀ x ∈ streamQ n (skipL (q.drop (cutL q).1)), x.f0 ≠ 0) := by
        constructor
        · intro hx x hm; exact hx x (List.mem_cons_of_mem _ hm)
        · intro hx x hm
          rcases List.mem_cons.1 hm with rfl | hm
          · exact hk
          · exact hx x hm
      simp only [hiff]
theorem skip_idem (z : List UInt8) : skipL (skipL z) = skipL z := by
  fun_induction skipL z with
  | case1 z hz ih => exact ih
  | case2 z hz =>
    have h0 : (z.dropWhile blaB).dropWhile blaB = z.dropWhile blaB := by
      induction z with
      | nil => rfl
      | cons c z ihz =>
        by_cases hb : blaB c = true
        · simp only [List.dropWhile_cons, hb, if_true] at hz ⊢; exact ihz hz
        · simp [List.dropWhile_cons, hb]
    rw [skipL, dif_neg (by rw [h0]; exact hz), h0]
end Go.Proofs.Ytpjoajoacakpgaa.Tok
