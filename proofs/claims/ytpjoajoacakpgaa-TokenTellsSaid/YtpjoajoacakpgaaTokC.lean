/- What the reference's Number and Sign answer. No program in sight. -/
import Derived.Test.YtpjoajoacakpgaaTokB
import Derived.Test.YtpjoajoacakpgaaQx4
set_option linter.unusedVariables false
set_option linter.unusedSimpArgs false
namespace Go.Proofs.Ytpjoajoacakpgaa.Tok
open Go.RowKit Go.Proofs.Ytpjoajoacakpgaa.Q Go.Proofs.Ytpjoajoacakpgaa.Given Go.Proofs.YtpjoajoacakpgaaW.PrintWords Go.Proofs.YtpjoajoacakpgaaW.PrintLast Go.Proofs.YtpjoajoacakpgaaW.PrintMore
theorem data_len (s : ByteArray) : s.data.toList.length = s.size := by simp
theorem ref_letter (c : UInt8) : swageref09_letter.f (c.toNat : Int) = some (letB c) := by
  unfold swageref09_letter.f letB
  generalize (c.toNat : Int) = n
  repeat' split
  all_goals (congr 1; rw [Bool.eq_iff_iff]; simp; try omega)
theorem ref_digit (c : UInt8) : swageref09_digit.f (c.toNat : Int) = some (digB c) := by
  unfold swageref09_digit.f digB
  generalize (c.toNat : Int) = n
  repeat' split
  all_goals (congr 1; rw [Bool.eq_iff_iff]; simp; try omega)
theorem ref_blank (c : UInt8) : swageref09_blank.f (c.toNat : Int) = some (blaB c) := by
  unfold swageref09_blank.f blaB
  generalize (c.toNat : Int) = n
  repeat' split
  all_goals (congr 1; rw [Bool.eq_iff_iff]; simp; try omega)
theorem signs_eq : swageref09_signs.f = some (signs.map fun l => (⟨l.toArray⟩ : ByteArray)) := rfl
/-- The reference's signs, one by one. -/
theorem ref_sign_run (s : ByteArray) (d : Nat) : ∀ (i : Nat), i + d = 24 → Ev (fun k => swageref09_Sign.l0 k s (signs.map fun l => (⟨l.toArray⟩ : ByteArray)) i) ((signs.drop i).any fun l => l == s.toList) := by
  induction d with
  | zero =>
    intro i hi
    obtain rfl : i = 24 := by omega
    refine Ev.step (f := fun _ => some false) (fun k => by rw [swageref09_Sign.l0, if_neg (by decide)]) ?_
    exact Ev.now _
  | succ d ih =>
    intro i hi
    have hl : i < signs.length := by have : signs.length = 24 := rfl; omega
    have hd : signs.drop i = signs[i] :: signs.drop (i + 1) := List.drop_eq_getElem_cons hl
    have hr : (rdOf ByteArray.empty (signs.map fun l => (⟨l.toArray⟩ : ByteArray)) (i : Int)).toList = signs[i] := by
      unfold rdOf
      rw [Int.toNat_natCast, List.getD_eq_getElem?_getD, List.getElem?_map, List.getElem?_eq_getElem hl]
      exact ByteArray.toList_mk _
    have hlen : ((signs.map fun l => (⟨l.toArray⟩ : ByteArray)).length : Int) = 24 := rfl
    by_cases h : signs[i] = s.toList
    · refine Ev.step (f := fun _ => some true) (fun k => by rw [swageref09_Sign.l0, hlen, if_pos (by omega), if_pos (by omega), hr, if_pos h]) ?_
      have : ((signs.drop i).any fun l => l == s.toList) = true := by rw [hd]; simp [h]
      rw [this]; exact Ev.now _
    · refine Ev.step (f := fun k => swageref09_Sign.l0 k s (signs.map fun l => (⟨l.toArray⟩ : ByteArray)) (wrap64 ((i : Int) + 1))) (fun k => by rw [swageref09_Sign.l0, hlen, if_pos (by omega), if_pos (by omega), hr, if_neg h]) ?_
      rw [w1 (by omega)]
      have : ((signs.drop i).any fun l => l == s.toList) = ((signs.drop (i + 1)).any fun l => l == s.toList) := by rw [hd, List.any_cons, beq_eq_false_iff_ne.2 h, Bool.false_or]
      rw [this]; exact ih (i + 1) (by omega)
theorem ref_sign (s : ByteArray) : Ev (fun k => swageref09_Sign.f k s) (signL s.data.toList) := by
  refine Ev.congr (f := fun k => swageref09_Sign.l0 k s (signs.map fun l => (⟨l.toArray⟩ : ByteArray)) ((0 : Nat) : Int)) (fun k => by unfold swageref09_Sign.f; rw [signs_eq]; rfl) ?_
  have := ref_sign_run s 24 0 (by omega)
  have e : ((signs.drop 0).any fun l => l == s.toList) = signL s.data.toList := by
    rw [List.drop_zero, signL, ByteArray.toList_eq, List.contains_eq_any_beq]
    congr 1; funext l; exact BEq.comm
  rw [e] at this; exact this
/-- The reference's number: the digits one by one. -/
theorem ref_num_end (s : ByteArray) (n : Int) (k : Nat) : swageref09_Number.l0 (k + 1) s n (s.size : Int) = some (if s.data.toList = [] ∨ 1 < s.data.toList.length ∧ s.data.toList.head? = some 48 then (0, false) else (n, true)) := by
  rw [swageref09_Number.l0, if_neg (by omega)]
  have hl : s.data.toList.length = s.size := data_len s
  by_cases h0 : s.size = 0
  · rw [if_pos (by omega), if_pos (.inl (List.length_eq_zero_iff.1 (by omega)))]
  · have hne : s.data.toList ≠ [] := fun h => by rw [h] at hl; simp at hl; omega
    rw [if_neg (by omega)]
    have hd := drop_at s 0 (by omega)
    rw [List.drop_zero] at hd
    by_cases h1 : 1 < s.size
    · rw [if_pos (by omega), if_pos (by omega)]
      have e := btn_at (s := s) (i := 0) (by omega)
      rw [Int.natCast_zero] at e
      rw [e]
      by_cases h2 : (s[0].toNat : Int) = 48
      · have : s[0] = 48 := (u8_eq (n := 48) (by decide)).1 h2
        rw [if_pos h2, if_pos (.inr ⟨by omega, by rw [hd, List.head?_cons, this]⟩)]
      · rw [if_neg h2, if_neg]
        rintro (h | ⟨_, h⟩)
        · exact hne h
        · rw [hd, List.head?_cons, Option.some.injEq] at h
          exact h2 (by rw [h]; rfl)
    · rw [if_neg (by omega), if_neg]
      rintro (h | ⟨h, _⟩)
      · exact hne h
      · omega
theorem ref_num_run (s : ByteArray) (hs : s.size ≤ 140737488351232) (d : Nat) : ∀ (i : Nat) (n : Int), i + d = s.size → 0 ≤ n → n ≤ 9223372036854775807 →
    Ev (fun k => swageref09_Number.l0 k s n i) (if s.data.toList = [] ∨ 1 < s.data.toList.length ∧ s.data.toList.head? = some 48 then (0, false) else match numGo (s.data.toList.drop i) n with
      | some m => (m, true)
      | none => (0, false)) := by
  induction d with
  | zero =>
    intro i n hi h0 h1
    obtain rfl : i = s.size := by omega
    rw [drop_end s s.size (Nat.le_refl _)]
    exact ⟨1, fun k hk => by obtain ⟨m, rfl⟩ : ∃ m, k = m + 1 := ⟨k - 1, by omega⟩; exact ref_num_end s n m⟩
  | succ d ih =>
    intro i n hi h0 h1
    have hlt : i < s.size := by omega
    have hx := s[i].toNat_lt
    have hne : s.data.toList ≠ [] := fun h => by have := data_len s; rw [h] at this; simp at this; omega
    cases hd : digB s[i]
    · rw [numGo_no s i n hlt hd]
      refine Ev.step (f := fun k => swageref09_Number.j1 k s n i true) (fun k => by rw [swageref09_Number.l0, if_pos (by omega), if_pos (by omega), btn_at hlt, ref_digit, hd]; rfl) ?_
      refine Ev.step (f := fun _ => some (0, false)) (fun k => by rw [swageref09_Number.j1, if_pos rfl]) ?_
      split <;> exact Ev.now _
    · obtain ⟨hx0, hx1⟩ := (digB_iff _).1 hd
      by_cases hb : n > 922337203685477580
      · rw [numGo_big s i n hlt (by omega)]
        refine Ev.step (f := fun k => swageref09_Number.j1 k s n i true) (fun k => by rw [swageref09_Number.l0, if_pos (by omega), if_pos (by omega), btn_at hlt, ref_digit, hd]; simp [hb]) ?_
        refine Ev.step (f := fun _ => some (0, false)) (fun k => by rw [swageref09_Number.j1, if_pos rfl]) ?_
        split <;> exact Ev.now _
      · have e1 : wrap64 (wrap64 (s[i].toNat : Int) - 48) = (s[i].toNat : Int) - 48 := by unfold wrap64; omega
        refine Ev.step (f := fun k => swageref09_Number.j1 k s n i false) (fun k => by rw [swageref09_Number.l0, if_pos (by omega), if_pos (by omega), btn_at hlt, ref_digit, hd]; simp [hb]) ?_
        by_cases hq : n ≤ (9223372036854775807 - ((s[i].toNat : Int) - 48)) / 10
        · rw [numGo_yes s i n hlt hd hq]
          have hn : 10 * n + ((s[i].toNat : Int) - 48) ≤ 9223372036854775807 := by omega
          have e2 : wrap64 (wrap64 (10 * n) + ((s[i].toNat : Int) - 48)) = 10 * n + ((s[i].toNat : Int) - 48) := by unfold wrap64; omega
          refine Ev.step (f := fun k => swageref09_Number.l0 k s (10 * n + ((s[i].toNat : Int) - 48)) ((i + 1 : Nat) : Int)) (fun k => ?_) (ih (i + 1) _ (by omega) (by omega) hn)
          rw [swageref09_Number.j1, if_neg (by decide), if_pos (by omega), if_pos (by omega), btn_at hlt, e1, e2, w1 (by omega)]
          by_cases he : n = 922337203685477580
          · rw [if_pos he, if_neg (by omega)]
          · rw [if_neg he]
        · rw [numGo_big s i n hlt hq]
          refine Ev.step (f := fun _ => some (0, false)) (fun k => ?_) (by split <;> exact Ev.now _)
          rw [swageref09_Number.j1, if_neg (by decide), if_pos (by omega), if_pos (by omega), btn_at hlt, e1, if_pos (by omega), if_pos (by omega)]
theorem ref_num (s : ByteArray) (hs : s.size ≤ 140737488351232) : Ev (fun k => swageref09_Number.f k s) (numL s.data.toList) := by
  have := ref_num_run s hs s.size 0 0 (by omega) (by decide) (by decide)
  rw [List.drop_zero] at this
  exact this
end Go.Proofs.Ytpjoajoacakpgaa.Tok
