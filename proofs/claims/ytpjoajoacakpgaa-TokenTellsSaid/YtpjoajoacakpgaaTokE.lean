/- Plain facts on the cut of a text into tokens: what a token's text is by itself; what a blank or a line feed behind a text changes. No program in sight. -/
import Derived.Test.YtpjoajoacakpgaaTokB
import Derived.Test.YtpjoajoacakpgaaGivenG
set_option linter.unusedVariables false
set_option linter.unusedSimpArgs false
namespace Go.Proofs.Ytpjoajoacakpgaa.Tok
open Go.RowKit Go.Proofs.Ytpjoajoacakpgaa.Q Go.Proofs.Ytpjoajoacakpgaa.Given Go.Proofs.YtpjoajoacakpgaaW.PrintWords Go.Proofs.YtpjoajoacakpgaaW.PrintLast Go.Proofs.YtpjoajoacakpgaaW.PrintMore
/-- A byte that stands between tokens. -/
def sepB (c : UInt8) : Prop := c = 32 ∨ c = 10
theorem sep_wor {c : UInt8} (h : sepB c) : worB c = false := by rcases h with rfl | rfl <;> decide
theorem sep_dig {c : UInt8} (h : sepB c) : digB c = false := by rcases h with rfl | rfl <;> decide
theorem sep_let {c : UInt8} (h : sepB c) : letB c = false := by rcases h with rfl | rfl <;> decide
theorem tw_app {p : UInt8 → Bool} {c : UInt8} (hc : p c = false) (r : List UInt8) : ∀ q : List UInt8, (q ++ c :: r).takeWhile p = q.takeWhile p
  | [] => by simp [hc]
  | a :: q => by
    rw [List.cons_append, List.takeWhile_cons, List.takeWhile_cons, tw_app hc r q]
theorem dw_app {p : UInt8 → Bool} {c : UInt8} (hc : p c = false) (r : List UInt8) : ∀ q : List UInt8, (q ++ c :: r).dropWhile p = q.dropWhile p ++ c :: r
  | [] => by simp [hc]
  | a :: q => by
    rw [List.cons_append, List.dropWhile_cons, List.dropWhile_cons, dw_app hc r q]
    split <;> rfl
theorem head_app {c : UInt8} (hc : letB c = false) (r : List UInt8) : ∀ q : List UInt8, headLet (q ++ c :: r) = headLet q
  | [] => hc
  | _ :: _ => rfl
theorem sign_two {a c : UInt8} (h : sepB c) : signL [a, c] = false := by
  rw [Bool.eq_false_iff]
  intro hc
  simp only [signL, signs, List.contains_iff_mem, List.mem_cons, List.not_mem_nil, or_false, List.cons.injEq, and_true] at hc
  rcases h with rfl | rfl <;> simp at hc
/-- A blank or line feed behind a text does not change the text's first token. -/
theorem cut_app {c : UInt8} (hc : sepB c) (r : List UInt8) : ∀ {q : List UInt8}, q ≠ [] → cutL (q ++ c :: r) = cutL q
  | [], h => absurd rfl h
  | a :: q, _ => by
    have e0 : a :: q ++ c :: r = a :: (q ++ c :: r) := rfl
    have e1 : (a :: (q ++ c :: r)).takeWhile worB = (a :: q).takeWhile worB := by rw [← e0]; exact tw_app (sep_wor hc) r (a :: q)
    have e2 : (a :: (q ++ c :: r)).takeWhile digB = (a :: q).takeWhile digB := by rw [← e0]; exact tw_app (sep_dig hc) r (a :: q)
    have e3 : headLet ((a :: (q ++ c :: r)).dropWhile digB) = headLet ((a :: q).dropWhile digB) := by rw [← e0, dw_app (sep_dig hc) r (a :: q), head_app (sep_let hc)]
    rw [e0, cutL, cutL, e1, e2, e3]
    cases q with
    | nil =>
      have e4 : (a :: ([] ++ c :: r)).take 2 = [a, c] := rfl
      rw [e4, sign_two hc]
      simp
    | cons b q =>
      have e4 : (a :: (b :: q ++ c :: r)).take 2 = [a, b] := rfl
      have e5 : (a :: b :: q).take 2 = [a, b] := rfl
      rw [e4, e5]
      simp
theorem takeWhile_idem (p : UInt8 → Bool) (l : List UInt8) : (l.takeWhile p).takeWhile p = l.takeWhile p := by
  induction l with
  | nil => rfl
  | cons a l ih =>
    cases h : p a
    · simp [h]
    · simp [h, ih]
theorem dropWhile_take (p : UInt8 → Bool) (l : List UInt8) : (l.takeWhile p).dropWhile p = [] := by
  induction l with
  | nil => rfl
  | cons a l ih =>
    cases h : p a
    · simp [h]
    · simp [h, ih]
/-- A token's text, by itself, is that token. -/
theorem cut_take : ∀ {q : List UInt8}, (cutL q).2 ≠ 0 → cutL (q.take (cutL q).1) = cutL q
  | [], h => absurd rfl h
  | a :: q, h => by
    by_cases hl : letB a = true
    · have e : cutL (a :: q) = (((a :: q).takeWhile worB).length, 1) := by rw [cutL, if_pos hl]
      rw [e, takeWhile_take]
      have hw : worB a = true := by simp [worB, hl]
      have e2 : (a :: q).takeWhile worB = a :: q.takeWhile worB := by simp [hw]
      rw [e2, cutL, if_pos hl]
      have e3 : (a :: q.takeWhile worB).takeWhile worB = a :: q.takeWhile worB := by rw [← e2]; exact takeWhile_idem _ _
      rw [e3]
    by_cases hd : digB a = true
    · have e : cutL (a :: q) = if (numL ((a :: q).takeWhile digB)).2 = true ∧ headLet ((a :: q).dropWhile digB) = false then (((a :: q).takeWhile digB).length, 2) else (0, 0) := by rw [cutL, if_neg hl, if_pos hd]
      split at e
      · rename_i hn
        rw [e, takeWhile_take]
        have e2 : (a :: q).takeWhile digB = a :: q.takeWhile digB := by simp [hd]
        have e3 : (a :: q.takeWhile digB).takeWhile digB = a :: q.takeWhile digB := by rw [← e2]; exact takeWhile_idem _ _
        have e4 : (a :: q.takeWhile digB).dropWhile digB = [] := by rw [← e2]; exact dropWhile_take _ _
        rw [e2] at hn
        rw [e2, cutL, if_neg hl, if_pos hd, e3, e4, if_pos ⟨hn.1, rfl⟩]
      · rw [e] at h; exact absurd rfl h
    have e : cutL (a :: q) = if 2 ≤ (a :: q).length ∧ signL ((a :: q).take 2) = true then (2, 3) else if signL [a] = true then (1, 3) else (0, 0) := by rw [cutL, if_neg hl, if_neg hd]
    by_cases h2 : 2 ≤ (a :: q).length ∧ signL ((a :: q).take 2) = true
    · rw [if_pos h2] at e
      rw [e]
      cases q with
      | nil => exact absurd h2.1 (by simp)
      | cons b q =>
        have e5 : (a :: b :: q).take 2 = [a, b] := rfl
        show cutL ((a :: b :: q).take 2) = _
        rw [e5] at h2 ⊢
        rw [cutL, if_neg hl, if_neg hd, if_pos ⟨by simp, h2.2⟩]
    rw [if_neg h2] at e
    by_cases h1 : signL [a] = true
    · rw [if_pos h1] at e
      rw [e]
      show cutL [a] = _
      rw [cutL, if_neg hl, if_neg hd, if_neg (by simp), if_pos h1]
    · rw [if_neg h1] at e
      rw [e] at h; exact absurd rfl h
/-- A token's text has its token's length. -/
theorem cut_len {q : List UInt8} (h : (cutL q).2 ≠ 0) : (q.take (cutL q).1).length = (cutL q).1 := by
  rw [List.length_take]; have := cutL_le q; omega
theorem sign_first {a : UInt8} {l : List UInt8} (h : signL (a :: l) = true) : letB a = false ∧ digB a = false ∧ blaB a = false := by
  simp only [signL, signs, List.contains_iff_mem, List.mem_cons, List.not_mem_nil, or_false, List.cons.injEq] at h
  rcases h with h | h | h | h | h | h | h | h | h | h | h | h | h | h | h | h | h | h | h | h | h | h | h | h <;> rw [h.1] <;> decide
theorem num_first {a : UInt8} {l : List UInt8} (h : digB a = false) : numL (a :: l) = (0, false) := by
  unfold numL
  split
  · rfl
  · rw [numGo, if_neg (by simp [h])]
/-- What a token's text is told to be. -/
theorem kind_name {q : List UInt8} (h : (cutL q).2 ≠ 0) : nameL (q.take (cutL q).1) = ((cutL q).2 == 1) ∧ (numL (q.take (cutL q).1)).2 = ((cutL q).2 == 2) ∧ signL (q.take (cutL q).1) = ((cutL q).2 == 3) := by
  cases q with
  | nil => exact absurd rfl h
  | cons a q =>
    by_cases hl : letB a = true
    · have e : cutL (a :: q) = (((a :: q).takeWhile worB).length, 1) := by rw [cutL, if_pos hl]
      rw [e, takeWhile_take]
      have hw : worB a = true := by simp [worB, hl]
      have hd : digB a = false := by
        cases hd : digB a
        · rfl
        · simp [letB, digB] at hl hd; omega
      have e2 : (a :: q).takeWhile worB = a :: q.takeWhile worB := by simp [hw]
      have e3 : (a :: q.takeWhile worB).takeWhile worB = a :: q.takeWhile worB := by rw [← e2]; exact takeWhile_idem _ _
      rw [e2, nameL, e3, hl, num_first hd]
      refine ⟨by simp, rfl, ?_⟩
      cases hs : signL (a :: q.takeWhile worB)
      · rfl
      · rw [(sign_first hs).1] at hl; cases hl
    by_cases hd : digB a = true
    · have e : cutL (a :: q) = if (numL ((a :: q).takeWhile digB)).2 = true ∧ headLet ((a :: q).dropWhile digB) = false then (((a :: q).takeWhile digB).length, 2) else (0, 0) := by rw [cutL, if_neg hl, if_pos hd]
      split at e
      · rename_i hn
        rw [e, takeWhile_take]
        have e2 : (a :: q).takeWhile digB = a :: q.takeWhile digB := by simp [hd]
        refine ⟨?_, by rw [hn.1]; rfl, ?_⟩
        · rw [e2, nameL, Bool.eq_false_iff.2 hl]; rfl
        · rw [e2]
          cases hs : signL (a :: q.takeWhile digB)
          · rfl
          · rw [(sign_first hs).2.1] at hd; cases hd
      · rw [e] at h; exact absurd rfl h
    have e : cutL (a :: q) = if 2 ≤ (a :: q).length ∧ signL ((a :: q).take 2) = true then (2, 3) else if signL [a] = true then (1, 3) else (0, 0) := by rw [cutL, if_neg hl, if_neg hd]
    have hl' : letB a = false := Bool.eq_false_iff.2 hl
    have hd' : digB a = false := Bool.eq_false_iff.2 hd
    by_cases h2 : 2 ≤ (a :: q).length ∧ signL ((a :: q).take 2) = true
    · rw [if_pos h2] at e
      rw [e]
      cases q with
      | nil => exact absurd h2.1 (by simp)
      | cons b q =>
        have e5 : (a :: b :: q).take 2 = [a, b] := rfl
        show nameL ((a :: b :: q).take 2) = _ ∧ (numL ((a :: b :: q).take 2)).2 = _ ∧ signL ((a :: b :: q).take 2) = _
        refine ⟨?_, ?_, h2.2⟩
        · rw [e5, nameL, hl']; rfl
        · rw [e5, num_first hd']; rfl
    rw [if_neg h2] at e
    by_cases h1 : signL [a] = true
    · rw [if_pos h1] at e
      rw [e]
      show nameL [a] = _ ∧ (numL [a]).2 = _ ∧ signL [a] = _
      exact ⟨by rw [nameL, hl']; rfl, by rw [num_first hd']; rfl, h1⟩
    · rw [if_neg h1] at e
      rw [e] at h; exact absurd rfl h
theorem bla_not47 {c : UInt8} (h : blaB c = true) : (c == 47) = false := by
  simp only [beq_eq_false_iff_ne]; rintro rfl; cases h
/-- Where a token is cut, nothing is skipped. -/
theorem skip_tok {q : List UInt8} (h : (cutL q).2 ≠ 0) (r : List UInt8) (c : UInt8) (hc : sepB c) : skipL (q.take (cutL q).1 ++ c :: r) = q.take (cutL q).1 ++ c :: r ∧ skipL (q.take (cutL q).1) = q.take (cutL q).1 := by
  obtain ⟨k1, k2, k3⟩ := kind_name h
  have hp := cutL_pos q h
  have hl := cut_len h
  generalize q.take (cutL q).1 = t at *
  cases t with
  | nil => simp at hl; omega
  | cons a t =>
    have hb : blaB a = false := by
      cases hb : blaB a
      · rfl
      · exfalso
        have l0 : letB a = false := by
          cases l0 : letB a
          · rfl
          · simp [letB, blaB] at l0 hb; omega
        have d0 : digB a = false := by
          cases d0 : digB a
          · rfl
          · simp [digB, blaB] at d0 hb; omega
        rw [nameL, l0] at k1
        rw [num_first d0] at k2
        have s0 : signL (a :: t) = false := by
          cases s0 : signL (a :: t)
          · rfl
          · rw [(sign_first s0).2.2] at hb; cases hb
        rw [s0] at k3
        have e1 : (cutL q).2 ≠ 1 := fun e => by rw [e] at k1; simp at k1
        have e2 : (cutL q).2 ≠ 2 := fun e => by rw [e] at k2; simp at k2
        have e3 : (cutL q).2 ≠ 3 := fun e => by rw [e] at k3; simp at k3
        have : (cutL q).2 = 0 ∨ (cutL q).2 = 1 ∨ (cutL q).2 = 2 ∨ (cutL q).2 = 3 := by
          cases q with
          | nil => exact .inl rfl
          | cons x q =>
            rw [cutL]; split <;> simp
            split
            · split <;> simp
            · split
              · simp
              · split <;> simp
        omega
    have hss : isSS (a :: t) = false := by
      cases hss : isSS (a :: t)
      · rfl
      · exfalso
        obtain ⟨x, hx⟩ := isSS_cons hss
        rw [hx] at k1 k2 k3
        have e1 : (cutL q).2 ≠ 1 := fun e => by rw [e] at k1; simp [nameL, letB] at k1
        have e2 : (cutL q).2 ≠ 2 := fun e => by rw [e, num_first (by decide)] at k2; simp at k2
        have e3 : (cutL q).2 ≠ 3 := fun e => by
          rw [e] at k3
          simp [signL, signs] at k3
        have : (cutL q).2 = 0 ∨ (cutL q).2 = 1 ∨ (cutL q).2 = 2 ∨ (cutL q).2 = 3 := by
          cases q with
          | nil => exact .inl rfl
          | cons x q =>
            rw [cutL]; split <;> simp
            split
            · split <;> simp
            · split
              · simp
              · split <;> simp
        omega
    refine ⟨skipL_id hb ?_, skipL_id hb hss⟩
    cases t with
    | nil =>
      show (a == 47 && c == 47) = false
      rcases hc with rfl | rfl <;> simp
    | cons b t => exact hss
theorem isSS_app {c : UInt8} (hc : sepB c) (r : List UInt8) : ∀ {q : List UInt8}, q ≠ [] → isSS (q ++ c :: r) = isSS q
  | [], h => absurd rfl h
  | [a], _ => by show (a == 47 && c == 47) = false; rcases hc with rfl | rfl <;> simp
  | a :: b :: q, _ => rfl
/-- Behind a text and a line feed the next token of another text stands. -/
theorem skip_app (t : List UInt8) (q : List UInt8) : skipL (q ++ 10 :: t) = if skipL q = [] then skipL t else skipL q ++ 10 :: t := by
  obtain ⟨n, hn⟩ : ∃ n, q.length = n := ⟨_, rfl⟩
  induction n using Nat.strongRecOn generalizing q with
  | _ n ih =>
    cases q with
    | nil => rw [skipL_nil, if_pos rfl, List.nil_append, skipL_blank (by decide)]
    | cons a q =>
      cases hb : blaB a
      · cases hs : isSS (a :: q)
        · rw [skipL_id hb hs, if_neg (List.cons_ne_nil _ _)]
          exact skipL_id hb (by rw [← hs]; exact isSS_app (q := a :: q) (.inr rfl) t (List.cons_ne_nil _ _))
        · have hs' : isSS (a :: q ++ 10 :: t) = true := by rw [← hs]; exact isSS_app (q := a :: q) (.inr rfl) t (List.cons_ne_nil _ _)
          rw [skipL_ss hs, skipL_ss hs', dw_app (by decide)]
          exact ih _ (by have := ss_shorter hs; omega) _ rfl
      · rw [skipL_blank hb, List.cons_append, skipL_blank hb]
        exact ih _ (by simp at hn; omega) q rfl
/-- Only blanks and // rows are skipped. -/
theorem gap_row (y : List UInt8) : ∀ x : List UInt8, (∀ c ∈ x, notLF c = true) → gapGo true (x ++ y) = gapGo true y
  | [], _ => rfl
  | c :: x, h => by
    have h1 : notLF c = true := h c (List.mem_cons_self)
    have h2 : (c != 10) = true := by
      simp only [bne_iff_ne, ne_eq]; rintro rfl; cases h1
    rw [List.cons_append, gapGo]
    have : rowB true c (x ++ y) = true := by simp [rowB, h2]
    rw [this]
    simp only [Bool.true_or, if_true]
    exact gap_row y x (fun c hc => h c (List.mem_cons_of_mem _ hc))
theorem tw_all (p : UInt8 → Bool) : ∀ (l : List UInt8), ∀ c ∈ l.takeWhile p, p c = true
  | a :: l, c, h => by
    rw [List.takeWhile_cons] at h
    split at h
    · rcases List.mem_cons.1 h with rfl | h
      · assumption
      · exact tw_all p l c h
    · cases h
theorem gap_skip (q : List UInt8) : gapGo false (q.take (q.length - (skipL q).length)) = true := by
  obtain ⟨n, hn⟩ : ∃ n, q.length = n := ⟨_, rfl⟩
  induction n using Nat.strongRecOn generalizing q with
  | _ n ih =>
    cases q with
    | nil => rw [skipL_nil]; rfl
    | cons a q =>
      cases hb : blaB a
      · cases hs : isSS (a :: q)
        · rw [skipL_id hb hs, Nat.sub_self]; rfl
        · obtain ⟨r, hr⟩ := isSS_cons hs
          have h1 := ss_shorter hs
          have h2 := skipL_le ((a :: q).dropWhile notLF)
          have h3 := ih _ (by omega) ((a :: q).dropWhile notLF) rfl
          rw [skipL_ss hs]
          have e : (a :: q).take ((a :: q).length - (skipL ((a :: q).dropWhile notLF)).length) = (a :: q).takeWhile notLF ++ ((a :: q).dropWhile notLF).take (((a :: q).dropWhile notLF).length - (skipL ((a :: q).dropWhile notLF)).length) := by
            have e1 := List.takeWhile_append_dropWhile (p := notLF) (l := a :: q)
            have e2 : ((a :: q).takeWhile notLF).length + ((a :: q).dropWhile notLF).length = (a :: q).length := by rw [← List.length_append, e1]
            have e3 : (a :: q).length - (skipL ((a :: q).dropWhile notLF)).length = ((a :: q).takeWhile notLF).length + (((a :: q).dropWhile notLF).length - (skipL ((a :: q).dropWhile notLF)).length) := by omega
            rw [e3]
            conv => lhs; arg 2; rw [← e1]
            rw [List.take_append, List.take_of_length_le (by omega), Nat.add_sub_cancel_left]
          rw [e]
          have hw : (a :: q).takeWhile notLF = 47 :: 47 :: r.takeWhile notLF := by rw [hr]; rfl
          have hall := tw_all notLF (a :: q)
          rw [hw] at hall
          rw [hw, List.cons_append, gapGo]
          have g1 : ∀ z, rowB false 47 (47 :: z) = true := fun z => by simp [rowB]
          rw [List.cons_append, g1]
          simp only [Bool.true_or, if_true]
          rw [← List.cons_append, gap_row _ _ (fun c hc => hall c (List.mem_cons_of_mem _ hc))]
          have hd : (a :: q).dropWhile notLF = [] ∨ ∃ z, (a :: q).dropWhile notLF = 10 :: z := by
            cases hz : (a :: q).dropWhile notLF with
            | nil => exact .inl rfl
            | cons x z =>
              right
              have := List.head_dropWhile_not (p := notLF) (l := a :: q) (by rw [hz]; simp)
              simp only [hz, List.head_cons] at this
              have hx : x = 10 := by
                have hn : (x.toNat : Int) = 10 := by simpa [notLF] using this
                exact (u8_eq (n := 10) (by decide)).1 hn
              exact ⟨z, by rw [hx]⟩
          generalize (((a :: q).dropWhile notLF).length - (skipL ((a :: q).dropWhile notLF)).length) = m at h3 ⊢
          rcases hd with hd | ⟨z, hd⟩
          · rw [hd]; simp [gapGo]
          · rw [hd] at h3 ⊢
            cases m with
            | zero => rfl
            | succ m =>
              rw [List.take_succ_cons, gapGo] at h3 ⊢
              rw [rowB_ten] at h3 ⊢
              exact h3
      · have h2 := skipL_le q
        rw [skipL_blank hb, List.length_cons, show q.length + 1 - (skipL q).length = (q.length - (skipL q).length) + 1 from by omega, List.take_succ_cons, gapGo]
        have : rowB false a (q.take (q.length - (skipL q).length)) = false := by simp [rowB, bla_not47 hb]
        rw [this, hb]
        simp only [Bool.false_or, if_true]
        exact ih _ (by simp at hn; omega) q rfl
end Go.Proofs.Ytpjoajoacakpgaa.Tok
