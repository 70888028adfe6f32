/- The reference's Lex answers what the stream of tokens says. No program in sight. -/
import Derived.Test.YtpjoajoacakpgaaTokC
set_option linter.unusedVariables false
set_option linter.unusedSimpArgs false
namespace Go.Proofs.Ytpjoajoacakpgaa.Tok
open Go.RowKit Go.Proofs.Ytpjoajoacakpgaa.Q Go.Proofs.Ytpjoajoacakpgaa.Given Go.Proofs.YtpjoajoacakpgaaW.PrintWords Go.Proofs.YtpjoajoacakpgaaW.PrintLast Go.Proofs.YtpjoajoacakpgaaW.PrintMore
theorem ev_l1 (s : ByteArray) (hs : s.size ≤ 65536) (acc : List S30) (r : List S30 × Int × Int) (d : Nat) : ∀ (i : Nat), i + d = s.size → Ev (fun k => swageref09_Lex.l0 k s acc (runTo notLF s i : Nat)) r → Ev (fun k => swageref09_Lex.l1 k s acc i) r := by
  induction d with
  | zero =>
    intro i hi h
    obtain rfl : i = s.size := by omega
    rw [runTo_end notLF s s.size (Nat.le_refl _)] at h
    exact Ev.step (fun k => by rw [swageref09_Lex.l1, if_neg (by omega)]) h
  | succ d ih =>
    intro i hi h
    have hlt : i < s.size := by omega
    cases hn : notLF s[i]
    · rw [runTo_no notLF s i hlt hn] at h
      have : (s[i].toNat : Int) = 10 := by simpa [notLF] using hn
      exact Ev.step (fun k => by rw [swageref09_Lex.l1, if_pos (by omega), if_pos (by omega), btn_at hlt, if_pos this]) h
    · rw [runTo_yes notLF s i hlt hn] at h
      have : ¬ (s[i].toNat : Int) = 10 := by simpa [notLF] using hn
      exact Ev.step (fun k => by rw [swageref09_Lex.l1, if_pos (by omega), if_pos (by omega), btn_at hlt, if_neg this, w1 (by omega)]) (ih (i + 1) (by omega) h)
theorem ev_push {s : ByteArray} (hs : s.size ≤ 65536) {acc : List S30} {p e : Nat} {kind : Int} (hp : p ≤ e) (he : e ≤ s.size) (ha : acc.length ≤ 65536) (g : Option (List S30 × Int × Int)) :
    (if 0 ≤ (p : Int) then (if (p : Int) ≤ (e : Int) then (if (e : Int) ≤ (s.size : Int) then (if acc.length < 4398046511104 then g else none) else none) else none) else none) = g := by
  rw [if_pos (by omega), if_pos (by omega), if_pos (by omega), if_pos (by omega)]
theorem ev_l2 (s : ByteArray) (hs : s.size ≤ 65536) (acc : List S30) (ha : acc.length ≤ 65536) (p : Nat) (r : List S30 × Int × Int) (d : Nat) : ∀ (i : Nat), i + d = s.size → p ≤ i →
    Ev (fun k => swageref09_Lex.l0 k s (acc ++ [(⟨1, s.extract p (runTo worB s i), p⟩ : S30)]) (runTo worB s i : Nat)) r → Ev (fun k => swageref09_Lex.l2 k s acc p i 1) r := by
  induction d with
  | zero =>
    intro i hi hp h
    obtain rfl : i = s.size := by omega
    rw [runTo_end worB s s.size (Nat.le_refl _)] at h
    exact Ev.step (fun k => by rw [swageref09_Lex.l2, if_neg (by omega), ev_push hs (kind := 1) hp (Nat.le_refl _) ha, Int.toNat_natCast, Int.toNat_natCast]) h
  | succ d ih =>
    intro i hi hp h
    have hlt : i < s.size := by omega
    cases hl : letB s[i]
    · cases hd : digB s[i]
      · rw [runTo_no worB s i hlt (by simp [worB, hl, hd])] at h
        exact Ev.step (fun k => by rw [swageref09_Lex.l2, if_pos (by omega), if_pos (by omega), btn_at hlt, ref_letter, hl, ref_digit, hd]; simp only [Option.bind_some, Bool.false_eq_true, if_false]; rw [ev_push hs (kind := 1) hp (by omega) ha, Int.toNat_natCast, Int.toNat_natCast]) h
      · rw [runTo_yes worB s i hlt (by simp [worB, hd])] at h
        exact Ev.step (fun k => by rw [swageref09_Lex.l2, if_pos (by omega), if_pos (by omega), btn_at hlt, ref_letter, hl, ref_digit, hd, w1 (by omega)]; simp only [Option.bind_some, Bool.false_eq_true, if_false, if_true]) (ih (i + 1) (by omega) (by omega) h)
    · rw [runTo_yes worB s i hlt (by simp [worB, hl])] at h
      exact Ev.step (fun k => by rw [swageref09_Lex.l2, if_pos (by omega), if_pos (by omega), btn_at hlt, ref_letter, hl, w1 (by omega)]; simp only [Option.bind_some, if_true]) (ih (i + 1) (by omega) (by omega) h)
theorem ev_l3 (s : ByteArray) (hs : s.size ≤ 65536) (acc : List S30) (p : Nat) (r : List S30 × Int × Int) (d : Nat) : ∀ (i : Nat), i + d = s.size →
    Ev (fun k => swageref09_Lex.j5 k s acc p (runTo digB s i : Nat) 2) r → Ev (fun k => swageref09_Lex.l3 k s acc p i 2) r := by
  induction d with
  | zero =>
    intro i hi h
    obtain rfl : i = s.size := by omega
    rw [runTo_end digB s s.size (Nat.le_refl _)] at h
    exact Ev.step (fun k => by rw [swageref09_Lex.l3, if_neg (by omega)]) h
  | succ d ih =>
    intro i hi h
    have hlt : i < s.size := by omega
    cases hd : digB s[i]
    · rw [runTo_no digB s i hlt hd] at h
      exact Ev.step (fun k => by rw [swageref09_Lex.l3, if_pos (by omega), if_pos (by omega), btn_at hlt, ref_digit, hd]; simp only [Option.bind_some, Bool.false_eq_true, if_false]) h
    · rw [runTo_yes digB s i hlt hd] at h
      exact Ev.step (fun k => by rw [swageref09_Lex.l3, if_pos (by omega), if_pos (by omega), btn_at hlt, ref_digit, hd, w1 (by omega)]; simp only [Option.bind_some, if_true]) (ih (i + 1) (by omega) h)
theorem tok_is {s : ByteArray} {p : Nat} (hp : p ≤ s.size) {e : Nat} {kind : Int} (h : cutL (s.data.toList.drop p) = (e - p, kind)) (he : p ≤ e) : (⟨kind, s.extract p e, (p : Int)⟩ : S30) = tokQ s.size (s.data.toList.drop p) := by
  have h1 := tok_text s p hp
  have h2 := tok_at s p hp
  rw [h, show p + (e - p) = e from by omega] at h1
  have h3 : (tokQ s.size (s.data.toList.drop p)).f0 = kind := by unfold tokQ; rw [h]
  rw [h1, ← h3]
  cases ht : tokQ s.size (s.data.toList.drop p)
  rw [ht] at h2
  simp only at h2
  rw [h2]
theorem ev_l0 (s : ByteArray) (hs : s.size ≤ 65536) (d : Nat) : ∀ (p : Nat) (acc : List S30), p ≤ s.size → s.size - p ≤ d → acc.length ≤ p →
    Ev (fun k => swageref09_Lex.l0 k s acc p) (cont acc (lexAt s.size (s.data.toList.drop p))) := by
  induction d with
  | zero =>
    intro p acc hp hd ha
    obtain rfl : p = s.size := by omega
    rw [drop_end s s.size (Nat.le_refl _), lex_end skipL_nil]
    refine Ev.step (f := fun _ => some (acc, (s.size : Int), 0)) (fun k => by rw [swageref09_Lex.l0, if_neg (by omega)]) ?_
    simp only [cont, if_true, List.append_nil]
    exact Ev.now _
  | succ d ih =>
    intro p acc hp hd ha
    by_cases hge : s.size ≤ p
    · obtain rfl : p = s.size := by omega
      rw [drop_end s s.size (Nat.le_refl _), lex_end skipL_nil]
      refine Ev.step (f := fun _ => some (acc, (s.size : Int), 0)) (fun k => by rw [swageref09_Lex.l0, if_neg (by omega)]) ?_
      simp only [cont, if_true, List.append_nil]
      exact Ev.now _
    have hlt : p < s.size := by omega
    cases hb : blaB s[p]
    rotate_left
    · have hk : lexAt s.size (s.data.toList.drop p) = lexAt s.size (s.data.toList.drop (p + 1)) := lexAt_skip (by rw [drop_at s p hlt, skipL_blank hb])
      rw [hk]
      exact Ev.step (fun k => by rw [swageref09_Lex.l0, if_pos (by omega), if_pos (by omega), btn_at hlt, ref_blank, hb, w1 (by omega)]; simp only [Option.bind_some, if_true]) (ih (p + 1) acc (by omega) (by omega) (by omega))
    cases hss : isSS (s.data.toList.drop p)
    rotate_left
    · -- a // row
      have h1 : p + 1 < s.size := by
        by_cases h : p + 1 < s.size
        · exact h
        · rw [isSS_last s p hlt (by omega)] at hss; cases hss
      have hk : lexAt s.size (s.data.toList.drop p) = lexAt s.size (s.data.toList.drop (runTo notLF s p)) := lexAt_skip (by rw [skipL_ss hss, runTo_drop])
      have hge := runTo_ss s p hss
      have hle := runTo_le notLF s p hp
      rw [isSS_at s p h1, Bool.and_eq_true, beq_iff_eq, beq_iff_eq] at hss
      have e1 : (s[p].toNat : Int) = 47 := by rw [hss.1]; rfl
      have e2 : (s[p + 1].toNat : Int) = 47 := by rw [hss.2]; rfl
      rw [hk]
      refine Ev.step (f := fun k => swageref09_Lex.j1 k s acc p true) (fun k => ?_) ?_
      · rw [swageref09_Lex.l0, if_pos (by omega), if_pos (by omega), btn_at hlt, ref_blank, hb, w1 (by omega), btn_at h1, e1, e2]
        simp only [Option.bind_some, Bool.false_eq_true, if_false, if_true]
        rw [if_pos (by omega), if_pos (by omega)]
        rfl
      · exact Ev.step (fun k => by rw [swageref09_Lex.j1, if_pos rfl]) (ev_l1 s hs acc _ (s.size - p) p (by omega) (ih _ acc hle (by omega) (by omega)))
    -- a token
    have hj : ∀ k, swageref09_Lex.l0 (k + 1) s acc p = swageref09_Lex.j1 k s acc p false := by
      intro k
      rw [swageref09_Lex.l0, if_pos (by omega), if_pos (by omega), btn_at hlt, ref_blank, hb, w1 (by omega)]
      simp only [Option.bind_some, Bool.false_eq_true, if_false]
      by_cases h47 : (s[p].toNat : Int) = 47
      · rw [if_pos h47]
        by_cases h1 : p + 1 < s.size
        · rw [if_pos (by omega), if_pos (by omega), btn_at h1]
          rw [isSS_at s p h1] at hss
          have e1 : s[p] = 47 := (u8_eq (n := 47) (by decide)).1 h47
          have e2 : s[p + 1] ≠ 47 := by
            intro e; rw [e1, e] at hss; cases hss
          have : ((s[p + 1].toNat : Int) == 47) = false := by
            simp only [beq_eq_false_iff_ne, ne_eq]
            intro e; exact e2 ((u8_eq (n := 47) (by decide)).1 e)
          rw [this]
        · rw [if_neg (by omega)]
      · rw [if_neg h47]
    have hsk : skipL (s.data.toList.drop p) = s.data.toList.drop p := by
      rw [drop_at s p hlt]
      rw [drop_at s p hlt] at hss
      exact skipL_id hb hss
    have hne : skipL (s.data.toList.drop p) ≠ [] := by rw [hsk, drop_at s p hlt]; simp
    have good : ∀ (e : Nat) (kind : Int), cutL (s.data.toList.drop p) = (e - p, kind) → kind ≠ 0 → p < e → e ≤ s.size →
        Ev (fun k => swageref09_Lex.l0 k s (acc ++ [(⟨kind, s.extract p e, (p : Int)⟩ : S30)]) e) (cont acc (lexAt s.size (s.data.toList.drop p))) := by
      intro e kind hc hk0 hpe hes
      rw [tok_is hp hc (by omega), cont_tok acc hne (by rw [hsk, hc]; exact hk0), hsk, hc, List.drop_drop, show p + (e - p) = e from by omega]
      exact ih e _ hes (by omega) (by rw [List.length_append, List.length_singleton]; omega)
    have bad : cutL (s.data.toList.drop p) = (0, 0) → cont acc (lexAt s.size (s.data.toList.drop p)) = ([], (p : Int), 2) := by
      intro hc
      rw [lex_bad hne (by rw [hsk, hc]), hsk, List.length_drop, data_len]
      have : (s.size : Int) - ((s.size - p : Nat) : Int) = p := by omega
      simp [cont, this]
    have hlen : (s.data.toList.drop p).length = s.size - p := by rw [List.length_drop, data_len]
    cases hl : letB s[p]
    rotate_left
    · have hc := cut_letter hlt hl
      have he : ((s.data.toList.drop p).takeWhile worB).length = runTo worB s p - p := by unfold runTo; omega
      rw [he] at hc
      have hy := runTo_yes worB s p hlt (by simp [worB, hl])
      have hg := runTo_ge worB s (p + 1)
      have g := good _ _ hc (by decide) (by omega) (runTo_le worB s p hp)
      refine Ev.step hj (Ev.step (f := fun k => swageref09_Lex.l2 k s acc p p 1) (fun k => ?_) (ev_l2 s hs acc (by omega) p _ (s.size - p) p (by omega) (Nat.le_refl _) g))
      rw [swageref09_Lex.j1, if_neg (by decide), if_pos (by omega), if_pos (by omega), btn_at hlt, ref_letter, hl]
      rfl
    cases hdg : digB s[p]
    rotate_left
    · have HC : cutL (s.data.toList.drop p) = if (numL ((s.data.toList.drop p).takeWhile digB)).2 = true ∧ headLet ((s.data.toList.drop p).dropWhile digB) = false then (((s.data.toList.drop p).takeWhile digB).length, 2) else (0, 0) := by
        rw [drop_at s p hlt, cutL, if_neg (by simp [hl]), if_pos hdg]
      have he : ((s.data.toList.drop p).takeWhile digB).length = runTo digB s p - p := by unfold runTo; omega
      rw [← runTo_drop, he, ← sub_run] at HC
      have hy := runTo_yes digB s p hlt hdg
      have hg := runTo_ge digB s (p + 1)
      have hle := runTo_le digB s p hp
      have hpe : p < runTo digB s p := by omega
      have hz : (s.extract p (runTo digB s p)).size ≤ 140737488351232 := by
        have : (s.extract p (runTo digB s p)).size ≤ s.size := by simp; omega
        omega
      have hN := ref_num _ hz
      refine Ev.step hj (Ev.step (f := fun k => swageref09_Lex.l3 k s acc p p 2) (fun k => ?_) (ev_l3 s hs acc p _ (s.size - p) p (by omega) ?_))
      · rw [swageref09_Lex.j1, if_neg (by decide), if_pos (by omega), if_pos (by omega), btn_at hlt, ref_letter, hl, ref_digit, hdg]
        rfl
      generalize runTo digB s p = e at *
      generalize numL (s.extract p e).data.toList = nn at HC hN
      obtain ⟨nv, nb⟩ := nn
      simp only at HC
      refine Ev.step (f := fun k => (swageref09_Number.f k (s.extract p e)).bind fun bt142 => (if bt142.2 = true then (if (e : Int) < (s.size : Int) then (if 0 ≤ (e : Int) then ((swageref09_letter.f (bt s e)).bind fun t144 => (if t144 = true then (some (([] : List (S30)), (p : Int), 2)) else (if acc.length < 4398046511104 then (swageref09_Lex.l0 k s (acc ++ [(⟨2, s.extract p e, p⟩ : S30)]) e) else (none)))) else (none)) else (if acc.length < 4398046511104 then (swageref09_Lex.l0 k s (acc ++ [(⟨2, s.extract p e, p⟩ : S30)]) e) else (none))) else (some (([] : List (S30)), (p : Int), 2)))) (fun k => by rw [swageref09_Lex.j5, if_pos (by omega), if_pos (by omega), if_pos (by omega), Int.toNat_natCast, Int.toNat_natCast]) (Ev.bind hN ?_)
      simp only
      cases nb
      · rw [if_neg (by simp)] at HC
        rw [bad HC]
        exact Ev.now _
      by_cases hlt2 : e < s.size
      · have hh : headLet (s.data.toList.drop e) = letB s[e] := by rw [drop_at s e hlt2]; rfl
        rw [hh] at HC
        cases hle2 : letB s[e]
        · rw [hle2, if_pos ⟨rfl, rfl⟩] at HC
          refine Ev.congr (fun k => ?_) (good e 2 HC (by decide) hpe hle)
          rw [if_pos rfl, if_pos (by omega), if_pos (by omega), btn_at hlt2, ref_letter, hle2]
          simp only [Option.bind_some, Bool.false_eq_true, if_false]
          rw [if_pos (by omega)]
        · rw [hle2, if_neg (by simp)] at HC
          rw [bad HC]
          refine Ev.congr (fun k => ?_) (Ev.now _)
          rw [if_pos rfl, if_pos (by omega), if_pos (by omega), btn_at hlt2, ref_letter, hle2]
          simp only [Option.bind_some, if_true]
      · have hh : headLet (s.data.toList.drop e) = false := by rw [drop_end s e (by omega)]; rfl
        rw [hh, if_pos ⟨rfl, rfl⟩] at HC
        refine Ev.congr (fun k => ?_) (good e 2 HC (by decide) hpe hle)
        rw [if_pos rfl, if_neg (by omega), if_pos (by omega)]
    -- a sign
    have HC : cutL (s.data.toList.drop p) = if 2 ≤ s.size - p ∧ signL ((s.data.toList.drop p).take 2) = true then (2, 3) else if signL ((s.data.toList.drop p).take 1) = true then (1, 3) else (0, 0) := by
      rw [← hlen]
      rw [drop_at s p hlt, cutL, if_neg (by simp [hl]), if_neg (by simp [hdg])]
      rfl
    have hs1 := ref_sign (s.extract p (p + 1))
    have hs2 := ref_sign (s.extract p (p + 2))
    rw [sub_take] at hs1 hs2
    have one : signL ((s.data.toList.drop p).take 2) = false ∨ ¬ 2 ≤ s.size - p → Ev (fun k => swageref09_Lex.j6 k s acc p 3 false) (cont acc (lexAt s.size (s.data.toList.drop p))) := by
      intro hno
      rw [if_neg (by rintro ⟨h1, h2⟩; rcases hno with h | h; · rw [h] at h2; cases h2
                     · exact h h1)] at HC
      refine Ev.step (f := fun k => (swageref09_Sign.f k (s.extract p (p + 1))).bind fun t155 => (if t155 = true then (if acc.length < 4398046511104 then (swageref09_Lex.l0 k s (acc ++ [(⟨3, s.extract p (p + 1), p⟩ : S30)]) ((p + 1 : Nat) : Int)) else (none)) else (some (([] : List (S30)), (p : Int), 2)))) (fun k => by rw [swageref09_Lex.j6, if_neg (by decide), w1 (by omega), if_pos (by omega), if_pos (by omega), if_pos (by omega), Int.toNat_natCast, Int.toNat_natCast]) (Ev.bind hs1 ?_)
      cases hb1 : signL ((s.data.toList.drop p).take 1)
      · rw [hb1, if_neg (by decide)] at HC
        rw [bad HC]
        refine Ev.congr (fun k => ?_) (Ev.now _)
        rw [if_neg (by decide)]
      · rw [hb1, if_pos rfl] at HC
        refine Ev.congr (fun k => ?_) (good (p + 1) 3 (by rw [HC, show p + 1 - p = 1 from by omega]) (by decide) (by omega) (by omega))
        rw [if_pos rfl, if_pos (by omega)]
    refine Ev.step hj ?_
    by_cases h2 : p + 1 < s.size
    · refine Ev.step (f := fun k => (swageref09_Sign.f k (s.extract p (p + 2))).bind fun t151 => (swageref09_Lex.j6 k s acc p 3 t151)) (fun k => ?_) (Ev.bind hs2 ?_)
      · rw [swageref09_Lex.j1, if_neg (by decide), if_pos (by omega), if_pos (by omega), btn_at hlt, ref_letter, hl, ref_digit, hdg, w1 (by omega), w2 (by omega)]
        simp only [Option.bind_some, Bool.false_eq_true, if_false]
        rw [if_pos (by omega), if_pos (by omega), if_pos (by omega), Int.toNat_natCast, Int.toNat_natCast]
      cases hb2 : signL ((s.data.toList.drop p).take 2)
      · exact one (.inl hb2)
      · rw [hb2, if_pos ⟨by omega, rfl⟩] at HC
        refine Ev.step (fun k => ?_) (good (p + 2) 3 (by rw [HC, show p + 2 - p = 2 from by omega]) (by decide) (by omega) (by omega))
        rw [swageref09_Lex.j6, if_pos rfl, w2 (by omega), if_pos (by omega), if_pos (by omega), if_pos (by omega), if_pos (by omega), Int.toNat_natCast, Int.toNat_natCast]
    · refine Ev.step (f := fun k => swageref09_Lex.j6 k s acc p 3 false) (fun k => ?_) (one (.inr (by omega)))
      rw [swageref09_Lex.j1, if_neg (by decide), if_pos (by omega), if_pos (by omega), btn_at hlt, ref_letter, hl, ref_digit, hdg, w1 (by omega)]
      simp only [Option.bind_some, Bool.false_eq_true, if_false]
      rw [if_neg (by omega)]
theorem ref_lex (s : ByteArray) : Ev (fun k => swageref09_Lex.f k s) (lexL s) := by
  unfold lexL
  by_cases h : s.size > 65536
  · rw [if_pos h]
    refine Ev.congr (fun k => ?_) (Ev.now _)
    unfold swageref09_Lex.f
    rw [if_pos (by omega)]
  · rw [if_neg h]
    have := ev_l0 s (by omega) s.size 0 [] (by omega) (by omega) (by simp)
    rw [List.drop_zero] at this
    have e : cont [] (lexAt s.size s.data.toList) = lexOf s.size (streamQ s.size (skipL s.data.toList)) := by
      unfold cont lexAt
      rw [List.nil_append]
      split <;> rfl
    rw [e] at this
    refine Ev.congr (fun k => ?_) this
    unfold swageref09_Lex.f
    rw [if_neg (by omega)]
    rfl
theorem same_run (l : List S30) (hl : l.length ≤ 140737488355328) (d : Nat) : ∀ (i : Nat), i + d = l.length → Ev (fun k => swageref09_Same.l0 k l l i) true := by
  induction d with
  | zero =>
    intro i hi
    exact Ev.step (f := fun _ => some true) (fun k => by rw [swageref09_Same.l0, if_neg (by omega)]) (Ev.now _)
  | succ d ih =>
    intro i hi
    exact Ev.step (fun k => by rw [swageref09_Same.l0, if_pos (by omega), if_pos (by omega), if_pos (by omega), if_neg (by simp), w1 (by omega)]) (ih (i + 1) (by omega))
theorem ref_same (l : List S30) (hl : l.length ≤ 140737488355328) : Ev (fun k => swageref09_Same.f k l l) true :=
  Ev.congr (fun k => by unfold swageref09_Same.f; rw [if_pos rfl]; rfl) (same_run l hl l.length 0 (by omega))
theorem lexOf_len (n : Nat) (ys : List S30) : (lexOf n ys).1.length ≤ ys.length := by
  unfold lexOf; split <;> simp
theorem lexL_len (s : ByteArray) : (lexL s).1.length ≤ 65536 := by
  unfold lexL
  split
  · simp
  · have h1 := lexOf_len s.size (streamQ s.size (skipL s.data.toList))
    have h2 := streamQ_len s.size (skipL s.data.toList)
    have h3 := skipL_le s.data.toList
    rw [data_len] at h3
    omega
theorem small_ev : Ev (fun k => swagelaw09_small.f k) true := Ev.of (fun k => swagelaw09_small.mono k) small_ten
end Go.Proofs.Ytpjoajoacakpgaa.Tok
