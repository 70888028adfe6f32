/- Texts of this work, joined: TyD. -/
import Derived.Test.YtdklnjmdaecboaaDoorSyNTypesTellc
set_option linter.unusedVariables false
set_option linter.unusedSimpArgs false
namespace Go.Proofs.YtdklnjmdaecboaaDoor.Sy
open Go Go.RowKit Go.Proofs.YtdklnjmdaecboaaDoorW.PrintWords Go.Proofs.YtdklnjmdaecboaaDoor.SyO
theorem i64_of_wf {n : Int} (h : (Lit.int .i64 n).wf = true) : -9223372036854775808 ≤ n ∧ n ≤ 9223372036854775807 := by
  simp [Lit.wf, IntKind.min, IntKind.max, IntKind.signed, IntKind.bits] at h
  omega
theorem ok24_kids {t : S24} (h : ok24 t) : (-9223372036854775808 ≤ t.f1 ∧ t.f1 ≤ 9223372036854775807) ∧ ∀ y ∈ t.f2, ok24 y := by
  obtain ⟨n, h⟩ := h
  cases n with
  | zero => exact h.elim
  | succ n => exact ⟨i64_of_wf h.2.1, fun y hy => ⟨n, h.2.2.2 y hy⟩⟩
theorem text_l0 {rec : S24 → Option ByteArray} {t : S24} (hl : t.f2.length ≤ 300) (hr : ∀ y ∈ t.f2, rec y = some (bt (txt y))) :
    ∀ (ys : List S24) (n i : Nat) (p : List ByteArray), t.f2.drop i = ys → ys.length < n → i ≤ t.f2.length → p.length = i → types_Text.l0 rec t n p i = some (p ++ ys.map (fun y => bt (txt y))) := by
  intro ys
  induction ys with
  | nil =>
    intro n i p hdr hn hi hp
    obtain ⟨n, rfl⟩ : ∃ m, n = m + 1 := ⟨n - 1, by simp at hn; omega⟩
    rw [types_Text.l0, if_neg (drop_nil hdr)]; simp
  | cons y ys ih =>
    intro n i p hdr hn hi hp
    obtain ⟨n, rfl⟩ : ∃ m, n = m + 1 := ⟨n - 1, by simp at hn; omega⟩
    obtain ⟨h1, h2, h3, h4⟩ := drop_cons hdr
    rw [types_Text.l0, if_pos h1, h2]
    simp only [Option.bind_some]
    rw [hr y h4]
    simp only [Option.bind_some]
    rw [if_pos (by omega), wsucc (by omega), ih n (i + 1) _ h3 (by simp at hn; omega) (by omega) (by simp; omega)]
    simp
theorem joinTail_txtT : ∀ l : List S24, Lib.joinTail [44] (l.map txt) = txtT l
  | [] => rfl
  | x :: r => by
    have := joinTail_txtT r
    unfold Lib.joinTail at this ⊢
    simp [txtT, ← this]
theorem join_txt (l : List S24) : Lib.join (l.map txt) [44] = txtJ l := by
  cases l with
  | nil => rfl
  | cons x r => rw [List.map_cons, Lib.join_cons, joinTail_txtT]; rfl
theorem join_f {l : List S24} (hl : l.length ≤ 300) (hb : (txtJ l).length ≤ 100000) : strings_Join.f (l.map (fun y => bt (txt y))) (⟨#[44]⟩ : ByteArray) = some (bt (txtJ l)) := by
  unfold strings_Join.f
  have e1 : ((l.map (fun y => bt (txt y))).map (·.data.toList)) = l.map txt := by simp [bt]
  have e2 : (⟨#[44]⟩ : ByteArray).data.toList = [44] := rfl
  rw [e1, e2, join_txt, if_pos ⟨by simp; omega, by omega⟩]
  rfl
theorem text_fix : ∀ (m : Nat) (t : S24), dep t ≤ m → cnt t ≤ 300 → ok24 t → types_Text.fix m t = some (bt (txt t))
  | 0, t, h, _, _ => by have := dep_eq t; omega
  | m + 1, t, h, hc, ho => by
    have hd := dep_eq t
    have hce := cnt_eq t
    obtain ⟨hl, hk⟩ := kids_small hc
    obtain ⟨⟨r0, r1⟩, hok⟩ := ok24_kids ho
    have hT := txtT_len (l := t.f2) (fun y _ => txt_len y)
    have hH := txtH_len (l := t.f2) (fun y _ => txt_len y)
    have hJ := txtJ_len t.f2
    have hi := itoaK_len t.f1
    show types_Text.g (types_Text.fix m) t = _
    unfold types_Text.g
    have := text_l0 (rec := types_Text.fix m) (t := t) (by omega) (fun y hy => text_fix m y (by have := depL_mem hy; omega) (hk y hy) (hok y hy)) t.f2 (t.f2.length + 1) 0 [] (by simp) (by omega) (by omega) rfl
    have this' : types_Text.l0 (types_Text.fix m) t (t.f2.length + 1) [] 0 = some ([] ++ t.f2.map (fun y => bt (txt y))) := this
    rw [this']
    simp only [Option.bind_some, List.nil_append, jn]
    rw [txt_eq]
    by_cases a1 : t.f0 = 1
    · rw [if_pos a1, if_pos a1]; rfl
    rw [if_neg a1, if_neg a1]
    by_cases ab : t.f0 < 1 ∨ 4 < t.f0 ∨ t.f2.length = 0
    · rw [if_pos ab]
      by_cases c1 : t.f0 < 1
      · rw [if_pos c1, if_pos trivial]; rfl
      by_cases c2 : 4 < t.f0
      · rw [if_neg c1, if_pos c2, if_pos trivial]; rfl
      · have c3 : t.f2.length = 0 := by omega
        rw [if_neg c1, if_neg c2, if_pos (decide_eq_true (by rw [List.length_map]; omega))]; rfl
    · have c1 : ¬ t.f0 < 1 := fun c => ab (.inl c)
      have c2 : ¬ 4 < t.f0 := fun c => ab (.inr (.inl c))
      have c3 : ¬ t.f2.length = 0 := fun c => ab (.inr (.inr c))
      rw [if_neg ab, if_neg c1, if_neg c2]
      have c3' : decide (((t.f2.map (fun y => bt (txt y))).length : Int) = 0) = false := by
        rw [List.length_map]; exact decide_eq_false (by omega)
      rw [c3']
      simp only [Bool.false_eq_true, if_false]
      match hf : t.f2, c3 with
      | x :: r, _ =>
        rw [hf] at hH hT hJ hl hce
        simp only [txtH] at hH
        have hat : at? ((x :: r).map (fun y => bt (txt y))) 0 = some (bt (txt x)) := rfl
        by_cases a2 : t.f0 = 2
        · rw [if_pos a2, if_pos a2, hat]
          simp only [Option.bind_some]
          rw [if_pos (by rw [bt_size]; show 1 + _ ≤ _; omega)]
          exact congrArg some (cat_bt [42] (txt x))
        rw [if_neg a2, if_neg a2]
        by_cases a3 : t.f0 = 3
        · rw [if_pos a3, if_pos a3, hat, itoa_f _ r0 r1]
          simp only [Option.bind_some]
          have k1 : cat (⟨#[91]⟩ : ByteArray) (bt (itoaK t.f1)) = bt ([91] ++ itoaK t.f1) := cat_bt [91] (itoaK t.f1)
          have k2 : cat (bt ([91] ++ itoaK t.f1)) (⟨#[93]⟩ : ByteArray) = bt ([91] ++ itoaK t.f1 ++ [93]) := cat_bt _ [93]
          rw [k1, k2, cat_bt, if_pos (by rw [bt_size]; show 1 + _ ≤ _; omega), if_pos (by rw [bt_size]; show _ + 1 ≤ _; simp; omega), if_pos (by rw [bt_size, bt_size]; simp; omega)]
          simp [txtH]
        · rw [if_neg a3, if_neg a3, join_f (by omega) (by omega)]
          simp only [Option.bind_some]
          have k1 : cat (⟨#[40]⟩ : ByteArray) (bt (txtJ (x :: r))) = bt ([40] ++ txtJ (x :: r)) := cat_bt [40] _
          have k2 : cat (bt ([40] ++ txtJ (x :: r))) (⟨#[41]⟩ : ByteArray) = bt ([40] ++ txtJ (x :: r) ++ [41]) := cat_bt _ [41]
          rw [k1, k2, if_pos (by rw [bt_size]; show 1 + _ ≤ _; omega), if_pos (by rw [bt_size]; show _ + 1 ≤ _; simp; omega)]
          simp
theorem rtext_l0 {rec : S24 → Option ByteArray} {t : S24} (hl : t.f2.length ≤ 300) (hr : ∀ y ∈ t.f2, rec y = some (bt (txt y))) :
    ∀ (ys : List S24) (n i : Nat) (s : List UInt8), t.f2.drop i = ys → ys.length < n → i ≤ t.f2.length → s.length + (txtT ys).length ≤ 100000 → swageref11_Text.l0 rec t n (bt s) i = some (bt (s ++ if i = 0 then txtJ ys else txtT ys)) := by
  intro ys
  induction ys with
  | nil =>
    intro n i s hdr hn hi hs
    obtain ⟨n, rfl⟩ : ∃ m, n = m + 1 := ⟨n - 1, by simp at hn; omega⟩
    rw [swageref11_Text.l0, if_neg (drop_nil hdr)]; simp [txtJ, txtT]
  | cons y ys ih =>
    intro n i s hdr hn hi hs
    obtain ⟨n, rfl⟩ : ∃ m, n = m + 1 := ⟨n - 1, by simp at hn; omega⟩
    obtain ⟨h1, h2, h3, h4⟩ := drop_cons hdr
    simp only [txtT, List.length_cons, List.length_append] at hs
    rw [swageref11_Text.l0, if_pos h1, h2]
    simp only [jn, Option.bind_some]
    rw [hr y h4]
    simp only [Option.bind_some]
    by_cases i0 : i = 0
    · subst i0
      rw [if_neg (by omega), if_pos (by rw [bt_size, bt_size]; omega), wsucc (by omega), cat_bt, ih n 1 _ h3 (by simp at hn; omega) (by omega) (by simp; omega)]
      simp [txtJ]
    · have k1 : cat (bt s) (⟨#[44]⟩ : ByteArray) = bt (s ++ [44]) := cat_bt s [44]
      rw [if_pos (by omega), if_pos (by rw [bt_size]; show _ + 1 ≤ _; omega), k1, if_pos (by rw [bt_size, bt_size]; simp; omega), wsucc (by omega), cat_bt, ih n (i + 1) _ h3 (by simp at hn; omega) (by omega) (by simp; omega)]
      simp [txtT, i0]
theorem rtext_fix : ∀ (m : Nat) (t : S24), dep t ≤ m → cnt t ≤ 300 → ok24 t → swageref11_Text.fix m t = some (bt (txt t))
  | 0, t, h, _, _ => by have := dep_eq t; omega
  | m + 1, t, h, hc, ho => by
    have hd := dep_eq t
    have hce := cnt_eq t
    obtain ⟨hl, hk⟩ := kids_small hc
    obtain ⟨⟨r0, r1⟩, hok⟩ := ok24_kids ho
    have hT := txtT_len (l := t.f2) (fun y _ => txt_len y)
    have hH := txtH_len (l := t.f2) (fun y _ => txt_len y)
    have hJ := txtJ_len t.f2
    have hi := itoaK_len t.f1
    have hr : ∀ y ∈ t.f2, swageref11_Text.fix m y = some (bt (txt y)) := fun y hy => rtext_fix m y (by have := depL_mem hy; omega) (hk y hy) (hok y hy)
    show swageref11_Text.g (swageref11_Text.fix m) t = _
    unfold swageref11_Text.g
    simp only [jn]
    rw [txt_eq]
    by_cases a1 : t.f0 = 1
    · rw [if_pos a1, if_pos a1]; rfl
    rw [if_neg a1, if_neg a1]
    by_cases ab : t.f0 < 1 ∨ 4 < t.f0 ∨ t.f2.length = 0
    · rw [if_pos ab]
      by_cases c1 : t.f0 < 1
      · rw [if_pos c1, if_pos trivial]; rfl
      by_cases c2 : 4 < t.f0
      · rw [if_neg c1, if_pos c2, if_pos trivial]; rfl
      · have c3 : t.f2.length = 0 := by omega
        rw [if_neg c1, if_neg c2, if_pos (decide_eq_true (by omega))]; rfl
    · have c1 : ¬ t.f0 < 1 := fun c => ab (.inl c)
      have c2 : ¬ 4 < t.f0 := fun c => ab (.inr (.inl c))
      have c3 : ¬ t.f2.length = 0 := fun c => ab (.inr (.inr c))
      rw [if_neg ab, if_neg c1, if_neg c2]
      have c3' : decide ((t.f2.length : Int) < 1) = false := decide_eq_false (by omega)
      rw [c3']
      simp only [Bool.false_eq_true, if_false]
      have h0 := rtext_l0 (rec := swageref11_Text.fix m) (t := t) (by omega) hr t.f2 (t.f2.length + 1) 0 [40] (by simp) (by omega) (by omega) (by simp; omega)
      have h0' : swageref11_Text.l0 (swageref11_Text.fix m) t (t.f2.length + 1) (⟨#[40]⟩ : ByteArray) 0 = some (bt ([40] ++ txtJ t.f2)) := h0
      obtain ⟨x, hx, hxm, hHx⟩ : ∃ x, at? t.f2 0 = some x ∧ x ∈ t.f2 ∧ txtH t.f2 = txt x := by
        match hf : t.f2, c3 with
        | x :: r, _ => exact ⟨x, rfl, List.mem_cons_self, rfl⟩
      rw [hHx] at hH ⊢
      by_cases a2 : t.f0 = 2
      · rw [if_pos a2, if_pos a2, hx]
        simp only [Option.bind_some]
        rw [hr x hxm]
        simp only [Option.bind_some]
        rw [if_pos (by rw [bt_size]; show 1 + _ ≤ _; omega)]
        exact congrArg some (cat_bt [42] (txt x))
      rw [if_neg a2, if_neg a2]
      by_cases a3 : t.f0 = 3
      · rw [if_pos a3, if_pos a3, hx, number_f _ r0 r1]
        simp only [Option.bind_some]
        have k1 : cat (⟨#[91]⟩ : ByteArray) (bt (itoaK t.f1)) = bt ([91] ++ itoaK t.f1) := cat_bt [91] (itoaK t.f1)
        have k2 : cat (bt ([91] ++ itoaK t.f1)) (⟨#[93]⟩ : ByteArray) = bt ([91] ++ itoaK t.f1 ++ [93]) := cat_bt _ [93]
        rw [k1, k2, hr x hxm]
        simp only [Option.bind_some]
        rw [cat_bt, if_pos (by rw [bt_size]; show 1 + _ ≤ _; omega), if_pos (by rw [bt_size]; show _ + 1 ≤ _; simp; omega), if_pos (by rw [bt_size, bt_size]; simp; omega)]
        simp
      · rw [if_neg a3, if_neg a3, h0']
        simp only [Option.bind_some]
        have k2 : cat (bt ([40] ++ txtJ t.f2)) (⟨#[41]⟩ : ByteArray) = bt ([40] ++ txtJ t.f2 ++ [41]) := cat_bt _ [41]
        rw [k2, if_pos (by rw [bt_size]; show _ + 1 ≤ _; simp; omega)]
        simp
theorem small_true : swagelaw11_small.f = some true := by decide +kernel
theorem tell_l0 : ∀ (ys : List S24) (n i : Nat) (l : List S24), l.drop i = ys → ys.length < n → i ≤ l.length → l.length ≤ 300 → swagelaw11_TypesTell.l0 n i l = some () := by
  intro ys
  induction ys with
  | nil =>
    intro n i l hdr hn hi hl
    obtain ⟨n, rfl⟩ : ∃ m, n = m + 1 := ⟨n - 1, by simp at hn; omega⟩
    rw [swagelaw11_TypesTell.l0, if_neg (drop_nil hdr)]
  | cons y ys ih =>
    intro n i l hdr hn hi hl
    obtain ⟨n, rfl⟩ : ∃ m, n = m + 1 := ⟨n - 1, by simp at hn; omega⟩
    obtain ⟨h1, h2, h3, h4⟩ := drop_cons hdr
    rw [swagelaw11_TypesTell.l0, if_pos h1, h2]
    simp only [Option.bind_some]
    rw [wsucc (by omega), Int.toNat_natCast]
    refine ih n (i + 1) _ ?_ (by simp at hn; omega) (by rw [List.length_set]; omega) (by rw [List.length_set]; omega)
    rw [List.drop_set_of_lt (by omega)]; exact h3
/-- THE LAW. -/
theorem typesTell_law (t u : S24) (k : Int) (h1 : ok24 t) (h2 : ok24 u) (h3 : (Lit.int .i64 k).wf = true) : swagelaw11_TypesTell.f t u k = some true := by
  unfold swagelaw11_TypesTell.f
  obtain ⟨b1, e1, f1⟩ := few_f t
  obtain ⟨b2, e2, f2⟩ := few_f u
  rw [small_true, e1, e2]
  simp only [jn, Option.bind_some]
  cases b1 with
  | false => simp
  | true =>
    cases b2 with
    | false => simp
    | true =>
      obtain ⟨hc, hd⟩ := f1 rfl
      have hl := (kids_small hc).1
      have q1 : swageref11_Copy.f t = some t := rcopy_fix 1000 t (by omega) hc
      have q2 : types_Copy.f t = some t := copy_fix 1000 t (by omega) hc
      have q3 : types_Pointer.f t = some ⟨2, 0, [t]⟩ := by unfold types_Pointer.f; rw [q2]; rfl
      have q4 : ∀ v, swageref11_Same.f t v = some (same t v) := fun v => rsame_fix 1000 t v (by omega) hc
      have q5 : ∀ v, types_Same.f t v = some (same t v) := fun v => same_fix 1000 t v (by omega) hc
      have q6 := right_f (t := t) (by omega) hc
      have q7 := rright_f (t := t) (by omega) hc
      have q8 := size_f (t := t) (by omega) hc
      have q9 := rsize_f (t := t) (by omega) hc
      obtain ⟨o, q10, q11⟩ := offset_f (t := t) (by omega) hc k
      have q12 : types_Text.f t = some (bt (txt t)) := text_fix 1000 t (by omega) hc h1
      have q13 : swageref11_Text.f t = some (bt (txt t)) := rtext_fix 1000 t (by omega) hc h1
      have q14 : ∃ b, types_Scalar.f t = some b ∧ swageref11_Scalar.f t = some b := by
        unfold types_Scalar.f swageref11_Scalar.f
        rw [q6, q7]
        cases rgt t with
        | false => exact ⟨false, rfl, rfl⟩
        | true =>
          by_cases a : t.f0 = 1
          · exact ⟨true, by simp [a], by simp [a]⟩
          · exact ⟨decide (t.f0 = 2), by simp [a], by simp [a]⟩
      obtain ⟨sc, q14, q15⟩ := q14
      have q16 : swagelaw11_TypesTell.l0 (t.f2.length + 1) 0 t.f2 = some () := tell_l0 t.f2 (t.f2.length + 1) 0 t.f2 (by simp) (by omega) (by omega) (by omega)
      have q17 : at? [t] 0 = some t := rfl
      simp [q1, q2, q3, q6, q7, q8, q9, q10, q11, q12, q13, q14, q15, q4, q5, same_refl, q16, q17]
end Go.Proofs.YtdklnjmdaecboaaDoor.Sy
