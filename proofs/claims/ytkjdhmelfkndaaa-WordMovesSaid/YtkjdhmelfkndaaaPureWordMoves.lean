/- The pure statement of the law WordMoves holds: whatever the numbers and lists are, what the code computes is true. No condition beside the statement's own. -/
import Derived.Test.YtkjdhmelfkndaaaPWordMovesx2
set_option linter.unusedSimpArgs false
set_option linter.unusedVariables false
namespace Go.Proofs.Ytkjdhmelfkndaaa.Pure
open Go.RowKit Go.Proofs.Ytkjdhmelfkndaaa.PWordMoves Go.Proofs.YtkjdhmelfkndaaaW.PrintWords Go.Proofs.YtkjdhmelfkndaaaW.PrintLast Go.Proofs.YtkjdhmelfkndaaaW.PrintMore
theorem wrap_eq (n : Int) : IntKind.i64.wrap n = wrap64 n := by unfold wrap64; exact IntKind.wrap_i64 n
theorem wrap_in {n : Int} (h : -9223372036854775808 ≤ n) (h' : n ≤ 9223372036854775807) : wrap64 n = n := by unfold wrap64; omega
theorem wrap_wrap (n : Int) : wrap64 (wrap64 n) = wrap64 n := by unfold wrap64; omega
theorem wrap_lo (n : Int) : -9223372036854775808 ≤ wrap64 n := by unfold wrap64; omega
theorem wrap_hi (n : Int) : wrap64 n ≤ 9223372036854775807 := by unfold wrap64; omega
theorem wrap_add_l (a b : Int) : wrap64 (wrap64 a + b) = wrap64 (a + b) := by unfold wrap64; omega
theorem wrap_add_r (a b : Int) : wrap64 (a + wrap64 b) = wrap64 (a + b) := by unfold wrap64; omega
theorem wrap_sub_r (a b : Int) : wrap64 (a - wrap64 b) = wrap64 (a - b) := by unfold wrap64; omega
theorem wrap_two (a : Int) : wrap64 (2 * wrap64 a) = wrap64 (2 * a) := by unfold wrap64; omega
theorem wrap_mul_l (a b : Int) : wrap64 (wrap64 a * b) = wrap64 (a * b) := by
  have h : (wrap64 a - a) % 18446744073709551616 = 0 := by unfold wrap64; omega
  obtain ⟨q, hq⟩ := Int.dvd_of_emod_eq_zero h
  have e : wrap64 a = a + 18446744073709551616 * q := by omega
  rw [e, Int.add_mul, Int.mul_assoc]
  generalize q * b = z
  generalize a * b = y
  unfold wrap64; omega
theorem wrap_mul_r (a b : Int) : wrap64 (a * wrap64 b) = wrap64 (a * b) := by rw [Int.mul_comm, wrap_mul_l, Int.mul_comm]
theorem wrap_bv (n : Int) : wrap64 n = (BitVec.ofInt 64 n).toInt := by
  rw [BitVec.toInt_ofInt]; unfold wrap64 Int.bmod; simp only [Int.reducePow, Nat.reducePow, Int.cast_ofNat_Int]; split <;> omega
theorem wrap_nat (v : BitVec 64) : wrap64 (v.toNat : Int) = v.toInt := by
  have := v.isLt
  rw [BitVec.toInt_eq_toNat_cond]; unfold wrap64; split <;> omega
theorem ofInt_toInt64 (v : BitVec 64) : BitVec.ofInt 64 v.toInt = v := BitVec.ofInt_toInt
theorem toInt_ofInt64 {a : Int} (h : -9223372036854775808 ≤ a) (h' : a ≤ 9223372036854775807) : (BitVec.ofInt 64 a).toInt = a := by rw [← wrap_bv, wrap_in h h']
theorem and_bv (a b : Int) : Go.bits .and .i64 a b = (BitVec.ofInt 64 a &&& BitVec.ofInt 64 b).toInt := by
  show IntKind.i64.wrap ((BitVec.ofInt 64 a &&& BitVec.ofInt 64 b).toNat : Int) = _
  rw [wrap_eq, wrap_nat]
theorem or_bv (a b : Int) : Go.bits .or .i64 a b = (BitVec.ofInt 64 a ||| BitVec.ofInt 64 b).toInt := by
  show IntKind.i64.wrap ((BitVec.ofInt 64 a ||| BitVec.ofInt 64 b).toNat : Int) = _
  rw [wrap_eq, wrap_nat]
theorem xor_bv (a b : Int) : Go.bits .xor .i64 a b = (BitVec.ofInt 64 a ^^^ BitVec.ofInt 64 b).toInt := by
  show IntKind.i64.wrap ((BitVec.ofInt 64 a ^^^ BitVec.ofInt 64 b).toNat : Int) = _
  rw [wrap_eq, wrap_nat]
def ordB (op a b : Int) : Int := if op = 11 then (if a < b then 1 else 0) else if op = 12 then (if a ≤ b then 1 else 0) else if op = 13 then (if a = b then 1 else 0) else (if a = b then 0 else 1)
theorem isNaN_eq (a : Int) : cmp_isNaN_int.f a = some false := by unfold cmp_isNaN_int.f; simp
theorem flag_eq (b : Bool) : word_flag.f b = some (if b = true then 1 else 0) := by unfold word_flag.f; split <;> rfl
theorem compare_eq (a b : Int) : cmp_Compare_int.f a b = some (if a < b then -1 else if a > b then 1 else 0) := by
  unfold cmp_Compare_int.f
  rw [isNaN_eq, isNaN_eq]
  simp only [Option.bind_some, Bool.false_eq_true, if_false]
  split <;> (try split) <;> rfl
theorem ordered_eq (op a b : Int) : word_ordered_int.f op a b = some (ordB op a b) := by
  unfold word_ordered_int.f ordB
  rw [compare_eq]
  simp only [Option.bind_some, flag_eq]
  rcases Int.lt_trichotomy a b with h | h | h
  · simp [h, Int.le_of_lt h, Int.ne_of_lt h]
    split <;> (try split) <;> (try split) <;> rfl
  · subst h
    simp
    split <;> (try split) <;> (try split) <;> rfl
  · have h1 : ¬ a < b := by omega
    have h2 : ¬ a ≤ b := by omega
    have h3 : ¬ a = b := by omega
    simp [h, h1, h2, h3]
    split <;> (try split) <;> (try split) <;> rfl
def plainB (op a b : Int) : Int := if op = 1 then wrap64 (a + b) else if op = 2 then wrap64 (a - b) else if op = 3 then wrap64 (a * b) else if op = 6 then Go.bits .and .i64 a b else if op = 7 then Go.bits .or .i64 a b else if op = 8 then Go.bits .xor .i64 a b else ordB op a b
theorem plain_eq (op a b : Int) : word_plain.f op a b = some (plainB op a b) := by
  unfold word_plain.f plainB
  rw [ordered_eq]
  simp only [Option.bind_some]
  repeat' split
  all_goals rfl
def movB (op a b : Int) : Int := if op = 9 then wrap64 (a * 2 ^ min b.toNat 64) else a / 2 ^ min b.toNat 64
theorem moved_eq (op a b : Int) (hb : 0 ≤ b) : word_moved.f op a b = some (movB op a b) := by
  have e : IntKind.u64.wrap (mn b 64) = mn b 64 := by
    have : IntKind.u64.wrap (mn b 64) = mn b 64 % 18446744073709551616 := by simp [IntKind.wrap, IntKind.bits, IntKind.signed]
    rw [this]; unfold mn; split <;> omega
  have hm : 0 ≤ mn b 64 := by unfold mn; split <;> omega
  have ht : min (mn b 64).toNat 64 = min b.toNat 64 := by unfold mn; split <;> omega
  unfold word_moved.f movB shl shr
  rw [e, if_pos hm, if_pos hm, wrap_eq]
  show (if op = 9 then some (wrap64 (a * 2 ^ min (mn b 64).toNat 64)) else some (a / 2 ^ min (mn b 64).toNat 64)) = _
  rw [ht]
  split <;> rfl
def doB (op a b : Int) : Int × Int :=
  if op = 4 ∨ op = 5 then (if b = 0 then (0, 6) else (if op = 4 then wrap64 (a.tdiv b) else a.tmod b, 0))
  else if op = 9 ∨ op = 10 then (if b < 0 then (0, 6) else (movB op a b, 0))
  else if 1 ≤ op ∧ op ≤ 14 then (plainB op a b, 0) else (0, 1)
theorem known_eq (op : Int) : word_Known.f op = some (decide (1 ≤ op ∧ op ≤ 14)) := by
  unfold word_Known.f
  by_cases h : 1 ≤ op
  · rw [if_pos h]; simp [h]
  · rw [if_neg h]; simp [h]
theorem divided_eq (op a b : Int) (hb : b ≠ 0) : word_divided.f op a b = some (if op = 4 then wrap64 (a.tdiv b) else a.tmod b) := by
  unfold word_divided.f
  rw [if_neg hb, if_neg hb]; split <;> rfl
theorem do_eq (m : Nat) (op a b : Int) : word_Do.f (m + 2) op a b = some (doB op a b) := by
  unfold doB word_Do.f
  by_cases h4 : op = 4
  · subst h4
    simp only [if_true, word_Do.j0, true_or, beq_self_eq_true]
    by_cases hb : b = 0
    · rw [if_pos hb, if_pos hb]
    · rw [if_neg hb, if_neg hb, divided_eq _ _ _ hb]; simp
  by_cases h5 : op = 5
  · subst h5
    simp only [if_true, word_Do.j0, or_true, beq_self_eq_true]
    rw [if_neg (by decide)]
    by_cases hb : b = 0
    · rw [if_pos hb, if_pos hb]
    · rw [if_neg hb, if_neg hb, divided_eq _ _ _ hb]; simp
  rw [if_neg h4, if_neg (by omega)]
  have e5 : (op == 5) = false := by simpa using h5
  simp only [word_Do.j0, e5, Bool.false_eq_true, if_false]
  by_cases h9 : op = 9
  · subst h9
    simp only [if_true, word_Do.j1, true_or, beq_self_eq_true]
    by_cases hb : b < 0
    · rw [if_pos hb, if_pos hb]
    · rw [if_neg hb, if_neg hb, moved_eq _ _ _ (by omega)]; rfl
  rw [if_neg h9]
  by_cases h10 : op = 10
  · subst h10
    simp only [if_true, word_Do.j1, or_true, beq_self_eq_true]
    by_cases hb : b < 0
    · rw [if_pos hb, if_pos hb]
    · rw [if_neg hb, if_neg hb, moved_eq _ _ _ (by omega)]; rfl
  have e10 : (op == 10) = false := by simpa using h10
  rw [if_neg (by omega)]
  simp only [word_Do.j1, e10, Bool.false_eq_true, if_false]
  rw [known_eq, plain_eq]
  simp only [Option.bind_some, decide_eq_true_eq]
  split <;> rfl
theorem small_five : swagelaw01_small.f 5 = some true := by kernel_rfl
theorem small_more (m : Nat) : swagelaw01_small.f (m + 5) = some true := by
  exact at_rounds (g := fun k => swagelaw01_small.f k) (fun k => swagelaw01_small.mono k) (by omega : 5 ≤ m + 5) small_five
theorem bounds {n : Int} (h : (Lit.int .i64 n).wf = true) : -9223372036854775808 ≤ n ∧ n ≤ 9223372036854775807 := by
  simp [Lit.wf, IntKind.min, IntKind.max, IntKind.signed, IntKind.bits] at h; omega
theorem moves_run (a b : Int) (x y : Int) (hb : 0 ≤ b) (hb2 : b < 63) (d : Nat) : ∀ (i m : Nat), i + d = b.toNat → swagelaw01_WordMoves.l0 (m + d + 1) a b true x y (2 ^ i) i = swagelaw01_WordMoves.l0 (m + 1) a b true x y (2 ^ b.toNat) b := by
  induction d with
  | zero => intro i m hi; obtain rfl : i = b.toNat := by omega
            rw [Int.toNat_of_nonneg hb]
  | succ d ih =>
    intro i m hi
    have e : m + (d + 1) + 1 = (m + d + 1) + 1 := by omega
    have c : (i : Int) < b := by omega
    have e3 : wrap64 ((i : Int) + 1) = ((i + 1 : Nat) : Int) := by rw [wrap_in (by omega) (by omega)]; omega
    have e4 : wrap64 (2 * 2 ^ i) = 2 ^ (i + 1) := by
      have h1 : (2 : Int) ^ (i + 1) ≤ 2 ^ 62 := by
        have : (2 : Nat) ^ (i + 1) ≤ 2 ^ 62 := Nat.pow_le_pow_right (by decide) (by omega)
        exact_mod_cast this
      have h2 : (0 : Int) < 2 ^ (i + 1) := Int.pow_pos (by decide)
      have h3 : (2 : Int) * 2 ^ i = 2 ^ (i + 1) := by rw [Int.pow_succ]; omega
      rw [h3]; exact wrap_in (by omega) (by omega)
    rw [e, swagelaw01_WordMoves.l0, if_pos c, e3, e4]
    exact ih (i + 1) m (by omega)
theorem div_63 {a : Int} (l : -9223372036854775808 ≤ a) (u : a ≤ 9223372036854775807) (n : Nat) (h : 63 ≤ n) : a / 2 ^ n = if 0 ≤ a then 0 else -1 := by
  have h1 : (9223372036854775808 : Int) ≤ 2 ^ n := by
    have e : n = 63 + (n - 63) := by omega
    have hp : (0 : Int) < 2 ^ (n - 63) := Int.pow_pos (by decide)
    rw [e, Int.pow_add]
    generalize (2 : Int) ^ (n - 63) = p at hp
    omega
  generalize (2 : Int) ^ n = p at h1
  split
  · exact Int.ediv_eq_zero_of_lt (by omega) (by omega)
  · rw [Int.ediv_eq_iff_of_pos (by omega)]; omega
theorem moves_all (m : Nat) (a b : Int) (la : -9223372036854775808 ≤ a) (ua : a ≤ 9223372036854775807) (hb : 0 ≤ b) : swagelaw01_WordMoves.j0 (m + 70) a b true (wrap64 (a * 2 ^ min b.toNat 64)) (a / 2 ^ min b.toNat 64) false = some true := by
  rw [swagelaw01_WordMoves.j0, if_neg (by decide)]
  by_cases h63 : b ≥ 63
  · have hd := div_63 la ua (min b.toNat 64) (by omega)
    rw [if_pos h63, if_pos rfl, hd]
    by_cases e : b = 63
    · rw [if_pos e]
      by_cases ha : 0 ≤ a
      · simp [ha]
      · simp [ha]; omega
    · rw [if_neg e]
      have : wrap64 (a * 2 ^ min b.toNat 64) = 0 := by
        rw [show min b.toNat 64 = 64 from by omega, show (2 : Int) ^ 64 = 18446744073709551616 from by decide]
        unfold wrap64; omega
      rw [this, if_pos rfl]
      by_cases ha : 0 ≤ a
      · simp [ha]
      · simp [ha]; omega
  · rw [if_neg h63]
    have hm : min b.toNat 64 = b.toNat := by omega
    rw [hm]
    have := moves_run a b (wrap64 (a * 2 ^ b.toNat)) (a / 2 ^ b.toNat) (by omega) (by omega) b.toNat 0 (m + 68 - b.toNat) (by omega)
    rw [show m + 68 - b.toNat + b.toNat + 1 = m + 69 from by omega, Int.pow_zero] at this
    refine this.trans ?_
    have hp : (0 : Int) < 2 ^ b.toNat := Int.pow_pos (by decide)
    have hp2 : (2 : Int) ^ b.toNat ≤ 2 ^ 62 := by
      have : (2 : Nat) ^ b.toNat ≤ 2 ^ 62 := Nat.pow_le_pow_right (by decide) (by omega)
      exact_mod_cast this
    have hr : wrap64 (a - wrap64 (a / 2 ^ b.toNat * 2 ^ b.toNat)) = a % 2 ^ b.toNat := by
      rw [wrap_sub_r, Int.mul_comm, ← Int.emod_def]
      have h1 := Int.emod_nonneg a (Int.ne_of_gt hp)
      have h2 := Int.emod_lt_of_pos a hp
      exact wrap_in (by omega) (by omega)
    rw [swagelaw01_WordMoves.l0, if_neg (Int.lt_irrefl b), if_pos rfl, if_pos rfl, hr, if_pos (Int.emod_nonneg a (Int.ne_of_gt hp))]
    simp [Int.emod_lt_of_pos a hp]
theorem WordMoves : swagelaw01_WordMoves.Pure := by
  intro a b wa wb
  obtain ⟨la, ua⟩ := bounds wa
  obtain ⟨lb, ub⟩ := bounds wb
  refine ⟨70, ?_⟩
  unfold swagelaw01_WordMoves.f
  rw [small_more 65, do_eq 68, do_eq 68]
  by_cases hb : b < 0
  · have e9 : doB 9 a b = (0, 6) := by simp [doB, hb]
    have e10 : doB 10 a b = (0, 6) := by simp [doB, hb]
    rw [e9, e10]; simp [hb]
  have e9 : doB 9 a b = (wrap64 (a * 2 ^ min b.toNat 64), 0) := by simp [doB, hb, movB]
  have e10 : doB 10 a b = (a / 2 ^ min b.toNat 64, 0) := by simp [doB, hb, movB]
  rw [e9, e10]
  simp only [Option.bind_some, if_neg hb, if_true, bne_self_eq_false]
  exact moves_all 0 a b la ua (by omega)
end Go.Proofs.Ytkjdhmelfkndaaa.Pure
