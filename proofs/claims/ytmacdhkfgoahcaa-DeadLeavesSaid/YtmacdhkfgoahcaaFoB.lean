/- What the operations on words answer, as plain functions. -/
import Derived.OpenShut
import Derived.Test.YtmacdhkfgoahcaaFoA
set_option linter.unusedVariables false
set_option linter.unusedSimpArgs false
namespace Go.Proofs.Ytmacdhkfgoahcaa.Fo
open Go Go.RowKit Go.Maps Go.Proofs.Ytmacdhkfgoahcaa.Q Go.Proofs.YtmacdhkfgoahcaaW.PrintWords Go.Proofs.YtmacdhkfgoahcaaW.PrintLast Go.Proofs.YtmacdhkfgoahcaaW.PrintMore
def knownB (op : Int) : Bool := decide (1 ≤ op) && decide (op ≤ 14)
theorem known_some (op : Int) : word_Known.f op = some (knownB op) := by
  unfold word_Known.f knownB
  by_cases h : op ≥ 1
  · rw [if_pos h]; simp [show (1 : Int) ≤ op from h]
  · rw [if_neg h]; simp [show ¬ (1 : Int) ≤ op from h]
def doR (op a b : Int) : Int × Int := (word_Do.f 9 op a b).getD (0, 0)
theorem divided_some (op a b : Int) (hb : b ≠ 0) : ∃ r, word_divided.f op a b = some r := by
  unfold word_divided.f
  by_cases h : op = 4
  · rw [if_pos h, if_neg hb]; exact ⟨_, rfl⟩
  · rw [if_neg h, if_neg hb]; exact ⟨_, rfl⟩
theorem u64_nonneg (x : Int) : 0 ≤ IntKind.u64.wrap x := by unfold IntKind.wrap; simp only [IntKind.bits, IntKind.signed]; simp; omega
theorem moved_some (op a b : Int) : ∃ r, word_moved.f op a b = some r := by
  unfold word_moved.f
  have h := u64_nonneg (mn b 64)
  rw [if_pos h, if_pos h]
  split <;> exact ⟨_, rfl⟩
theorem flag_some (x : Bool) : ∃ r, word_flag.f x = some r := by unfold word_flag.f; split <;> exact ⟨_, rfl⟩
theorem compare_some (a b : Int) : ∃ r, cmp_Compare_int.f a b = some r := by
  unfold cmp_Compare_int.f cmp_isNaN_int.f
  simp only [Option.bind_some]
  repeat' split
  all_goals exact ⟨_, rfl⟩
theorem ordered_some (op a b : Int) : ∃ r, word_ordered_int.f op a b = some r := by
  unfold word_ordered_int.f
  obtain ⟨c, hc⟩ := compare_some a b
  rw [hc]; simp only [Option.bind_some]
  repeat' split
  · obtain ⟨r, hr⟩ := flag_some (decide (c < 0)); rw [hr]; exact ⟨_, rfl⟩
  · obtain ⟨r, hr⟩ := flag_some (decide (c ≤ 0)); rw [hr]; exact ⟨_, rfl⟩
  · obtain ⟨r, hr⟩ := flag_some (c == 0); rw [hr]; exact ⟨_, rfl⟩
  · obtain ⟨r, hr⟩ := flag_some (c != 0); rw [hr]; exact ⟨_, rfl⟩
theorem plain_some (op a b : Int) : ∃ r, word_plain.f op a b = some r := by
  unfold word_plain.f
  repeat' split
  all_goals first | exact ⟨_, rfl⟩ | (obtain ⟨r, hr⟩ := ordered_some op a b; rw [hr]; exact ⟨_, rfl⟩)
theorem do_some (op a b : Int) : word_Do.f 9 op a b = some (doR op a b) := by
  have h : ∃ r, word_Do.f 9 op a b = some r := by
    unfold word_Do.f
    obtain ⟨r1, h1⟩ := moved_some op a b
    obtain ⟨r2, h2⟩ := plain_some op a b
    have h3 := known_some op
    by_cases hb : b = 0
    · simp only [word_Do.j0, word_Do.j1, h1, h2, h3, hb, Option.bind_some]
      repeat' split
      all_goals first | exact ⟨_, rfl⟩ | omega | contradiction | simp_all
    · obtain ⟨r3, h4⟩ := divided_some op a b hb
      simp only [word_Do.j0, word_Do.j1, h1, h2, h3, h4, Option.bind_some]
      repeat' split
      all_goals first | exact ⟨_, rfl⟩ | omega | contradiction | simp_all
  obtain ⟨r, hr⟩ := h
  unfold doR; rw [hr]; rfl
def turB (op : Int) : Bool := op == 1 || op == 3 || op == 6 || op == 7 || op == 8 || op == 13 || op == 14
theorem turned_some (op : Int) : ∃ n, word_Turned.f op = some (n, turB op) := by
  unfold word_Turned.f turB
  repeat' split
  all_goals first | (exact ⟨_, by simp [*]; rfl⟩) | (exact ⟨_, by simp [*]⟩)
def folR (op : Int) : Int × Bool := (word_Fold.f 9 op 0).getD (0, false)
theorem fold_some (op : Int) : word_Fold.f 9 op 0 = some (folR op) := by
  have h : ∃ r, word_Fold.f 9 op 0 = some r := by
    unfold word_Fold.f
    simp only [word_Fold.j0]
    repeat' split
    all_goals exact ⟨_, rfl⟩
  obtain ⟨r, hr⟩ := h
  unfold folR; rw [hr]; rfl
def neuB (op n : Int) : Bool := (fold_Neutral.f 9 op n).getD false
theorem neutral_some (op n : Int) : fold_Neutral.f 9 op n = some (neuB op n) := by
  have h : ∃ r, fold_Neutral.f 9 op n = some r := by
    unfold fold_Neutral.f
    simp only [fold_Neutral.j0, fold_Neutral.j1]
    repeat' split
    all_goals exact ⟨_, rfl⟩
  obtain ⟨r, hr⟩ := h
  unfold neuB; rw [hr]; rfl
def setsI (x : S30) : Int := if x.f0 < 1 ∨ x.f0 > 8 ∨ x.f0 = 5 then 0 else x.f1
theorem sets_some (x : S30) : code_Sets.f 9 x.f0 x.f1 x.f2 x.f3 x.f4 x.f5 = some (setsI x) := by
  unfold code_Sets.f code_shapeOf.f setsI
  simp only [code_shapeOf.j0]
  generalize x.f0 = a
  by_cases h1 : a = 1
  · subst h1; simp
  by_cases h2 : a = 2
  · subst h2; simp
  by_cases h3 : a = 3
  · subst h3; simp
  by_cases h4 : a = 4
  · subst h4; simp
  by_cases h5 : a = 5
  · subst h5; simp
  by_cases h6 : a = 6
  · subst h6; simp
  by_cases h7 : a = 7
  · subst h7; simp
  by_cases h8 : a = 8
  · subst h8; simp
  by_cases h9 : a = 9
  · subst h9; simp
  simp [h1, h2, h3, h4, h5, h6, h7, h8, h9]
  omega
theorem wf_iff (a : Int) : wf a ↔ -9223372036854775808 ≤ a ∧ a ≤ 9223372036854775807 := by
  unfold wf
  simp [Lit.wf, IntKind.min, IntKind.max, IntKind.signed, IntKind.bits]
instance (a : Int) : Decidable (wf a) := inferInstanceAs (Decidable (_ = true))
theorem wf_zero : wf 0 := by decide
theorem wf_shr (x n : Int) (h : wf x) : wf (shr .i64 x n) := by
  rw [wf_iff] at h ⊢
  unfold shr
  obtain ⟨c, hc⟩ : ∃ c : Int, (2 : Int) ^ min n.toNat IntKind.i64.bits = c := ⟨_, rfl⟩
  have hp : (0 : Int) < c := by rw [← hc]; exact Int.pow_pos (by decide)
  rw [hc]
  have h1 : x / c * c ≤ x := Int.ediv_mul_le x (by omega)
  have h2 : x < (x / c + 1) * c := Int.lt_ediv_add_one_mul_self x hp
  generalize x / c = q at *
  constructor
  · by_cases hq : q < -9223372036854775808
    · exfalso
      have h4 : (q + 1) * c ≤ (-9223372036854775808) * 1 := by
        have h5 : (q + 1) * c ≤ (q + 1) * 1 := Int.mul_le_mul_of_nonpos_left (by omega) (by omega)
        omega
      omega
    · omega
  · by_cases hq : 9223372036854775807 < q
    · exfalso
      have h5 : q * 1 ≤ q * c := Int.mul_le_mul_of_nonneg_left (by omega) (by omega)
      omega
    · omega
theorem wf_tmod (a b : Int) (h : wf a) : wf (Int.tmod a b) := by
  rw [wf_iff] at h ⊢
  by_cases h0 : 0 ≤ a
  · have h1 := Int.tmod_nonneg b h0
    have h2 : Int.tmod a b ≤ a := by
      have h3 := Int.natAbs_tmod a b
      have h4 := Nat.mod_le a.natAbs b.natAbs
      omega
    omega
  · have h1 : Int.tmod (-a) b = - Int.tmod a b := Int.neg_tmod a b
    have h2 := Int.tmod_nonneg b (show 0 ≤ -a by omega)
    have h3 : Int.tmod (-a) b ≤ -a := by
      have h3 := Int.natAbs_tmod (-a) b
      have h4 := Nat.mod_le (-a).natAbs b.natAbs
      omega
    omega
theorem wf_divided {op a b r : Int} (ha : wf a) (h : word_divided.f op a b = some r) : wf r := by
  unfold word_divided.f at h
  split at h <;> split at h
  · cases h
  · injection h with h; subst h; exact wrap64_wf _
  · cases h
  · injection h with h; subst h; exact wf_tmod _ _ ha
theorem wf_moved {op a b r : Int} (ha : wf a) (h : word_moved.f op a b = some r) : wf r := by
  unfold word_moved.f at h
  split at h <;> split at h
  · injection h with h; subst h; exact wf_wrap _ _
  · cases h
  · injection h with h; subst h; exact wf_shr _ _ ha
  · cases h
theorem wf_flag {x : Bool} {r : Int} (h : word_flag.f x = some r) : wf r := by
  unfold word_flag.f at h
  split at h <;> (injection h with h; subst h; decide)
theorem wf_ordered {op a b r : Int} (h : word_ordered_int.f op a b = some r) : wf r := by
  unfold word_ordered_int.f at h
  obtain ⟨c, hc⟩ := compare_some a b
  rw [hc] at h; simp only [Option.bind_some] at h
  repeat' split at h
  all_goals
    obtain ⟨t, ht, h⟩ := Option.bind_eq_some_iff.1 h
    injection h with h; subst h; exact wf_flag ht
theorem wf_plain {op a b r : Int} (h : word_plain.f op a b = some r) : wf r := by
  unfold word_plain.f at h
  repeat' split at h
  all_goals first
    | (injection h with h; subst h; first | exact wrap64_wf _ | exact wf_bits _ _ _ _)
    | (obtain ⟨t, ht, h⟩ := Option.bind_eq_some_iff.1 h; injection h with h; subst h; exact wf_ordered ht)
theorem wf_do (op a b : Int) (ha : wf a) (hb : wf b) : wf (doR op a b).1 := by
  have h := do_some op a b
  revert h
  generalize doR op a b = r
  intro h
  unfold word_Do.f at h
  obtain ⟨r1, h1⟩ := moved_some op a b
  obtain ⟨r2, h2⟩ := plain_some op a b
  have w1 := wf_moved ha h1
  have w2 := wf_plain h2
  have h3 := known_some op
  by_cases hb : b = 0
  · simp only [word_Do.j0, word_Do.j1, h1, h2, h3, hb, Option.bind_some, if_true] at h
    subst hb
    simp only [h1, h2, Option.bind_some] at h
    repeat' split at h
    all_goals first | (injection h with h; subst h; first | exact wf_zero | exact w1 | exact w2) | contradiction
  · obtain ⟨r3, h4⟩ := divided_some op a b hb
    have w3 := wf_divided ha h4
    simp only [word_Do.j0, word_Do.j1, h1, h2, h3, h4, Option.bind_some] at h
    repeat' split at h
    all_goals first | (injection h with h; subst h; first | exact wf_zero | exact w1 | exact w2 | exact w3) | contradiction
theorem wf_fold (op : Int) : wf (folR op).1 := by
  have h := fold_some op
  revert h
  generalize folR op = r
  intro h
  unfold word_Fold.f at h
  simp only [word_Fold.j0] at h
  repeat' split at h
  all_goals (injection h with h; subst h; show wf _; dsimp only; decide)
end Go.Proofs.Ytmacdhkfgoahcaa.Fo
