/- The pure statement of the law WordDoes holds: whatever the numbers and lists are, what the code computes is true. No condition beside the statement's own. -/
import Derived.Test.YtkjdhmelfkndaaaQx4
set_option linter.unusedSimpArgs false
set_option linter.unusedVariables false
namespace Go.Proofs.Ytkjdhmelfkndaaa.Pure
open Go.RowKit Go.Proofs.Ytkjdhmelfkndaaa.Q Go.Proofs.YtkjdhmelfkndaaaW.PrintWords Go.Proofs.YtkjdhmelfkndaaaW.PrintLast Go.Proofs.YtkjdhmelfkndaaaW.PrintMore
theorem wrap_eq (n : Int) : IntKind.i64.wrap n = wrap64 n := by unfold wrap64; exact IntKind.wrap_i64 n
theorem wrap_in {n : Int} (h : -9223372036854775808 ≤ n) (h' : n ≤ 9223372036854775807) : wrap64 n = n := by unfold wrap64; omega
theorem wrap_wrap (n : Int) : wrap64 (wrap64 n) = wrap64 n := by unfold wrap64; omega
theorem wrap_lo (n : Int) : -9223372036854775808 ≤ wrap64 n := by unfold wrap64; omega
theorem wrap_hi (n : Int) : wrap64 n ≤ 9223372036854775807 := by unfold wrap64; omega
theorem wrap_add_l (a b : Int) : wrap64 (wrap64 a + b) = wrap64 (a + b) := by unfold wrap64; omega
theorem wrap_add_r (a b : Int) : wrap64 (a + wrap64 b) = wrap64 (a + b) := by unfold wrap64; omega
theorem wrap_sub_r (a b : Int) : wrap64 (a - wrap64 b) = wrap64 (a - b) := by unfold wrap64; omega
theorem wrap_two (a : Int) : wrap64 (2 * wrap64 a) = wrap64 (2 * a) := by unfold wrap64; omega
theorem wrap_mul_l (a b : Int) : wrap64 (wrap64 a * b) = wrap64 (a * b) := by
  have h : (wrap64 a - a) % 18446744073709551616 = 0 := by unfold wrap64; omega
  obtain ⟨q, hq⟩ := Int.dvd_of_emod_eq_zero h
  have e : wrap64 a = a + 18446744073709551616 * q := by omega
  rw [e, Int.add_mul, Int.mul_assoc]
  generalize q * b = z
  generalize a * b = y
  unfold wrap64; omega
theorem wrap_mul_r (a b : Int) : wrap64 (a * wrap64 b) = wrap64 (a * b) := by rw [Int.mul_comm, wrap_mul_l, Int.mul_comm]
theorem wrap_bv (n : Int) : wrap64 n = (BitVec.ofInt 64 n).toInt := by
  rw [BitVec.toInt_ofInt]; unfold wrap64 Int.bmod; simp only [Int.reducePow, Nat.reducePow, Int.cast_ofNat_Int]; split <;> omega
theorem wrap_nat (v : BitVec 64) : wrap64 (v.toNat : Int) = v.toInt := by
  have := v.isLt
  rw [BitVec.toInt_eq_toNat_cond]; unfold wrap64; split <;> omega
theorem ofInt_toInt64 (v : BitVec 64) : BitVec.ofInt 64 v.toInt = v := BitVec.ofInt_toInt
theorem toInt_ofInt64 {a : Int} (h : -9223372036854775808 ≤ a) (h' : a ≤ 9223372036854775807) : (BitVec.ofInt 64 a).toInt = a := by rw [← wrap_bv, wrap_in h h']
theorem and_bv (a b : Int) : Go.bits .and .i64 a b = (BitVec.ofInt 64 a &&& BitVec.ofInt 64 b).toInt := by
  show IntKind.i64.wrap ((BitVec.ofInt 64 a &&& BitVec.ofInt 64 b).toNat : Int) = _
  rw [wrap_eq, wrap_nat]
theorem or_bv (a b : Int) : Go.bits .or .i64 a b = (BitVec.ofInt 64 a ||| BitVec.ofInt 64 b).toInt := by
  show IntKind.i64.wrap ((BitVec.ofInt 64 a ||| BitVec.ofInt 64 b).toNat : Int) = _
  rw [wrap_eq, wrap_nat]
theorem xor_bv (a b : Int) : Go.bits .xor .i64 a b = (BitVec.ofInt 64 a ^^^ BitVec.ofInt 64 b).toInt := by
  show IntKind.i64.wrap ((BitVec.ofInt 64 a ^^^ BitVec.ofInt 64 b).toNat : Int) = _
  rw [wrap_eq, wrap_nat]
def ordB (op a b : Int) : Int := if op = 11 then (if a < b then 1 else 0) else if op = 12 then (if a ≤ b then 1 else 0) else if op = 13 then (if a = b then 1 else 0) else (if a = b then 0 else 1)
theorem isNaN_eq (a : Int) : cmp_isNaN_int.f a = some false := by unfold cmp_isNaN_int.f; simp
theorem flag_eq (b : Bool) : word_flag.f b = some (if b = true then 1 else 0) := by unfold word_flag.f; split <;> rfl
theorem compare_eq (a b : Int) : cmp_Compare_int.f a b = some (if a < b then -1 else if a > b then 1 else 0) := by
  unfold cmp_Compare_int.f
  rw [isNaN_eq, isNaN_eq]
  simp only [Option.bind_some, Bool.false_eq_true, if_false]
  split <;> (try split) <;> rfl
theorem ordered_eq (op a b : Int) : word_ordered_int.f op a b = some (ordB op a b) := by
  unfold word_ordered_int.f ordB
  rw [compare_eq]
  simp only [Option.bind_some, flag_eq]
  rcases Int.lt_trichotomy a b with h | h | h
  · simp [h, Int.le_of_lt h, Int.ne_of_lt h]
    split <;> (try split) <;> (try split) <;> rfl
  · subst h
    simp
    split <;> (try split) <;> (try split) <;> rfl
  · have h1 : ¬ a < b := by omega
    have h2 : ¬ a ≤ b := by omega
    have h3 : ¬ a = b := by omega
    simp [h, h1, h2, h3]
    split <;> (try split) <;> (try split) <;> rfl
def plainB (op a b : Int) : Int := if op = 1 then wrap64 (a + b) else if op = 2 then wrap64 (a - b) else if op = 3 then wrap64 (a * b) else if op = 6 then Go.bits .and .i64 a b else if op = 7 then Go.bits .or .i64 a b else if op = 8 then Go.bits .xor .i64 a b else ordB op a b
theorem plain_eq (op a b : Int) : word_plain.f op a b = some (plainB op a b) := by
  unfold word_plain.f plainB
  rw [ordered_eq]
  simp only [Option.bind_some]
  repeat' split
  all_goals rfl
def movB (op a b : Int) : Int := if op = 9 then wrap64 (a * 2 ^ min b.toNat 64) else a / 2 ^ min b.toNat 64
theorem moved_eq (op a b : Int) (hb : 0 ≤ b) : word_moved.f op a b = some (movB op a b) := by
  have e : IntKind.u64.wrap (mn b 64) = mn b 64 := by
    have : IntKind.u64.wrap (mn b 64) = mn b 64 % 18446744073709551616 := by simp [IntKind.wrap, IntKind.bits, IntKind.signed]
    rw [this]; unfold mn; split <;> omega
  have hm : 0 ≤ mn b 64 := by unfold mn; split <;> omega
  have ht : min (mn b 64).toNat 64 = min b.toNat 64 := by unfold mn; split <;> omega
  unfold word_moved.f movB shl shr
  rw [e, if_pos hm, if_pos hm, wrap_eq]
  show (if op = 9 then some (wrap64 (a * 2 ^ min (mn b 64).toNat 64)) else some (a / 2 ^ min (mn b 64).toNat 64)) = _
  rw [ht]
  split <;> rfl
def doB (op a b : Int) : Int × Int :=
  if op = 4 ∨ op = 5 then (if b = 0 then (0, 6) else (if op = 4 then wrap64 (a.tdiv b) else a.tmod b, 0))
  else if op = 9 ∨ op = 10 then (if b < 0 then (0, 6) else (movB op a b, 0))
  else if 1 ≤ op ∧ op ≤ 14 then (plainB op a b, 0) else (0, 1)
theorem known_eq (op : Int) : word_Known.f op = some (decide (1 ≤ op ∧ op ≤ 14)) := by
  unfold word_Known.f
  by_cases h : 1 ≤ op
  · rw [if_pos h]; simp [h]
  · rw [if_neg h]; simp [h]
theorem divided_eq (op a b : Int) (hb : b ≠ 0) : word_divided.f op a b = some (if op = 4 then wrap64 (a.tdiv b) else a.tmod b) := by
  unfold word_divided.f
  rw [if_neg hb, if_neg hb]; split <;> rfl
theorem do_eq (m : Nat) (op a b : Int) : word_Do.f (m + 2) op a b = some (doB op a b) := by
  unfold doB word_Do.f
  by_cases h4 : op = 4
  · subst h4
    simp only [if_true, word_Do.j0, true_or, beq_self_eq_true]
    by_cases hb : b = 0
    · rw [if_pos hb, if_pos hb]
    · rw [if_neg hb, if_neg hb, divided_eq _ _ _ hb]; simp
  by_cases h5 : op = 5
  · subst h5
    simp only [if_true, word_Do.j0, or_true, beq_self_eq_true]
    rw [if_neg (by decide)]
    by_cases hb : b = 0
    · rw [if_pos hb, if_pos hb]
    · rw [if_neg hb, if_neg hb, divided_eq _ _ _ hb]; simp
  rw [if_neg h4, if_neg (by omega)]
  have e5 : (op == 5) = false := by simpa using h5
  simp only [word_Do.j0, e5, Bool.false_eq_true, if_false]
  by_cases h9 : op = 9
  · subst h9
    simp only [if_true, word_Do.j1, true_or, beq_self_eq_true]
    by_cases hb : b < 0
    · rw [if_pos hb, if_pos hb]
    · rw [if_neg hb, if_neg hb, moved_eq _ _ _ (by omega)]; rfl
  rw [if_neg h9]
  by_cases h10 : op = 10
  · subst h10
    simp only [if_true, word_Do.j1, or_true, beq_self_eq_true]
    by_cases hb : b < 0
    · rw [if_pos hb, if_pos hb]
    · rw [if_neg hb, if_neg hb, moved_eq _ _ _ (by omega)]; rfl
  have e10 : (op == 10) = false := by simpa using h10
  rw [if_neg (by omega)]
  simp only [word_Do.j1, e10, Bool.false_eq_true, if_false]
  rw [known_eq, plain_eq]
  simp only [Option.bind_some, decide_eq_true_eq]
  split <;> rfl
theorem small_five : swagelaw01_small.f 5 = some true := by kernel_rfl
theorem small_more (m : Nat) : swagelaw01_small.f (m + 5) = some true := by
  exact at_rounds (g := fun k => swagelaw01_small.f k) (fun k => swagelaw01_small.mono k) (by omega : 5 ≤ m + 5) small_five
theorem bounds {n : Int} (h : (Lit.int .i64 n).wf = true) : -9223372036854775808 ≤ n ∧ n ≤ 9223372036854775807 := by
  simp [Lit.wf, IntKind.min, IntKind.max, IntKind.signed, IntKind.bits] at h; omega
theorem tmod_two (a : Int) : a.tmod 2 = if 0 ≤ a ∨ a % 2 = 0 then a % 2 else -1 := by
  rw [Int.tmod_eq_emod]
  by_cases h : 0 ≤ a ∨ a % 2 = 0
  · rw [if_pos h, if_pos (by omega)]; omega
  · rw [if_neg h, if_neg (by omega)]; have : ((2 : Int).natAbs : Int) = 2 := rfl; omega
theorem tdiv_two (a : Int) : a.tdiv 2 = if 0 ≤ a ∨ a % 2 = 0 then a / 2 else a / 2 + 1 := by
  rw [Int.tdiv_eq_ediv]
  by_cases h : 0 ≤ a ∨ a % 2 = 0
  · rw [if_pos h, if_pos (by omega)]; omega
  · rw [if_neg h, if_neg (by omega)]; rfl
theorem half_eq {a : Int} (h : -9223372036854775808 ≤ a) (h' : a ≤ 9223372036854775807) : swageref01_half.f a = some (a / 2) := by
  unfold swageref01_half.f halfR
  congr 1
  rw [tmod_two, tdiv_two]
  by_cases c : 0 ≤ a ∨ a % 2 = 0
  · rw [if_pos c, if_pos c, if_neg (by omega), wrap_in (by omega) (by omega)]
  · rw [if_neg c, if_neg c, if_pos rfl, wrap_in (n := a / 2 + 1) (by omega) (by omega), wrap_in (by omega) (by omega)]
    omega
theorem halfR_eq {a : Int} (h : -9223372036854775808 ≤ a) (h' : a ≤ 9223372036854775807) : halfR a = a / 2 := Option.some.inj (half_eq h h')
theorem ediv_lo {a : Int} {i : Nat} (h : -9223372036854775808 ≤ a) : -9223372036854775808 ≤ a / 2 ^ i := by
  have hp : (0 : Int) < 2 ^ i := Int.pow_pos (by decide)
  rw [Int.le_ediv_iff_mul_le hp]
  have h1 : (1 : Int) ≤ 2 ^ i := by omega
  generalize (2 : Int) ^ i = p at *
  have := Int.mul_le_mul_of_nonneg_left h1 (by decide : (0 : Int) ≤ 9223372036854775808)
  omega
theorem ediv_hi {a : Int} {i : Nat} (h : a ≤ 9223372036854775807) : a / 2 ^ i ≤ 9223372036854775807 := by
  have hp : (0 : Int) < 2 ^ i := Int.pow_pos (by decide)
  apply Int.le_of_lt_add_one
  rw [Int.ediv_lt_iff_lt_mul hp]
  have h1 : (1 : Int) ≤ 2 ^ i := by omega
  generalize (2 : Int) ^ i = p at *
  have := Int.mul_le_mul_of_nonneg_left h1 (by decide : (0 : Int) ≤ 9223372036854775807 + 1)
  omega
theorem ediv_two (a : Int) (i : Nat) : a / 2 ^ i / 2 = a / 2 ^ (i + 1) := by
  rw [Int.pow_succ, Int.ediv_ediv_of_nonneg (Int.pow_nonneg (by decide))]
def bitB (op : Int) (x y : Bool) : Bool := if op = 6 then x && y else if op = 7 then x || y else x != y
theorem tmod_zero (x : Int) : (x.tmod 2 = 0) ↔ (x % 2 = 0) := by rw [tmod_two]; split <;> omega
theorem bitR_eq (op x y : Int) (h : op = 6 ∨ op = 7 ∨ op = 8) : bitR op x y = bitB op (decide (x % 2 ≠ 0)) (decide (y % 2 ≠ 0)) := by
  have e1 : (x.tmod 2 != 0) = decide (x % 2 ≠ 0) := by rw [Bool.eq_iff_iff]; simp [tmod_zero]
  have e2 : (y.tmod 2 != 0) = decide (y % 2 ≠ 0) := by rw [Bool.eq_iff_iff]; simp [tmod_zero]
  unfold bitR bitB
  rw [e1, e2]
  rcases h with rfl | rfl | rfl <;> simp
theorem bits_run (op a b : Int) (h : op = 6 ∨ op = 7 ∨ op = 8) (l1 : -9223372036854775808 ≤ a) (u1 : a ≤ 9223372036854775807) (l2 : -9223372036854775808 ≤ b) (u2 : b ≤ 9223372036854775807)
    (s : Nat → Int) (hs : ∀ i, i < 64 → s (i + 1) = s i + if bitB op (decide (a / 2 ^ i % 2 ≠ 0)) (decide (b / 2 ^ i % 2 ≠ 0)) = true then 2 ^ i else 0) (d : Nat) :
    ∀ (i : Nat), i + d = 64 → bitsR d op (a / 2 ^ i) (b / 2 ^ i) (wrap64 (s i)) (wrap64 (2 ^ i)) = wrap64 (s 64) := by
  induction d with
  | zero => intro i hi; obtain rfl : i = 64 := by omega
            rfl
  | succ d ih =>
    intro i hi
    rw [bitsR, halfR_eq (ediv_lo l1) (ediv_hi u1), halfR_eq (ediv_lo l2) (ediv_hi u2), bitR_eq _ _ _ h, ediv_two, ediv_two, wrap_two]
    have e2 : (2 : Int) * 2 ^ i = 2 ^ (i + 1) := by rw [Int.pow_succ]; omega
    have e4 : (if bitB op (decide (a / 2 ^ i % 2 ≠ 0)) (decide (b / 2 ^ i % 2 ≠ 0)) = true then wrap64 (wrap64 (s i) + wrap64 (2 ^ i)) else wrap64 (s i)) = wrap64 (s (i + 1)) := by
      rw [hs i (by omega)]
      split
      · rw [wrap_add_l, wrap_add_r]
      · rw [Int.add_zero]
    rw [e2, e4]
    exact ih (i + 1) (by omega)
theorem bit_of (a : Int) (i : Nat) (hi : i < 64) : (BitVec.ofInt 64 a).toNat.testBit i = decide (a / 2 ^ i % 2 ≠ 0) := by
  rw [Nat.testBit_eq_decide_div_mod_eq, BitVec.toNat_ofInt]
  have hr : 0 ≤ a % ((2 ^ 64 : Nat) : Int) := Int.emod_nonneg _ (by decide)
  obtain ⟨r, hr2⟩ := Int.eq_ofNat_of_zero_le hr
  rw [hr2, Int.toNat_natCast]
  have ha : a = (r : Int) + 2 ^ i * (2 * (2 ^ (63 - i) * (a / ((2 ^ 64 : Nat) : Int)))) := by
    have h1 : (2 : Int) ^ i * (2 * (2 ^ (63 - i) * (a / ((2 ^ 64 : Nat) : Int)))) = ((2 ^ 64 : Nat) : Int) * (a / ((2 ^ 64 : Nat) : Int)) := by
      have h2 : ((2 ^ 64 : Nat) : Int) = 2 ^ i * (2 * 2 ^ (63 - i)) := by
        have h3 : (2 : Int) * 2 ^ (63 - i) = 2 ^ (64 - i) := by
          rw [show 64 - i = (63 - i) + 1 from by omega, Int.pow_succ]; omega
        rw [h3, ← Int.pow_add, show i + (64 - i) = 64 from by omega]; rfl
      generalize a / ((2 ^ 64 : Nat) : Int) = z
      rw [h2]; simp only [Int.mul_assoc]
    rw [h1, ← hr2]
    have := Int.emod_add_mul_ediv a ((2 ^ 64 : Nat) : Int)
    omega
  have hp : (2 : Int) ^ i ≠ 0 := Int.ne_of_gt (Int.pow_pos (by decide))
  have hd : a / 2 ^ i % 2 = ((r / 2 ^ i % 2 : Nat) : Int) := by
    rw [ha, Int.add_mul_ediv_left _ _ hp, Int.add_mul_emod_self_left]
    simp
  rw [hd]
  have : r / 2 ^ i % 2 < 2 := Nat.mod_lt _ (by decide)
  rw [decide_eq_decide]
  omega
theorem sum_bits (n i : Nat) : ((n % 2 ^ (i + 1) : Nat) : Int) = ((n % 2 ^ i : Nat) : Int) + if n.testBit i = true then 2 ^ i else 0 := by
  have h : n % 2 ^ (i + 1) = n % 2 ^ i + 2 ^ i * (n / 2 ^ i % 2) := Nat.mod_pow_succ
  rw [h, Nat.testBit_eq_decide_div_mod_eq]
  have : n / 2 ^ i % 2 < 2 := Nat.mod_lt _ (by decide)
  rcases (by omega : n / 2 ^ i % 2 = 0 ∨ n / 2 ^ i % 2 = 1) with e | e <;> simp [e]
def opV (op : Int) (A B : BitVec 64) : BitVec 64 := if op = 6 then A &&& B else if op = 7 then A ||| B else A ^^^ B
theorem bits_bv (op a b : Int) (h : op = 6 ∨ op = 7 ∨ op = 8) : plainB op a b = (opV op (BitVec.ofInt 64 a) (BitVec.ofInt 64 b)).toInt := by
  rcases h with rfl | rfl | rfl <;> simp [plainB, opV, and_bv, or_bv, xor_bv]
theorem opV_bit (op : Int) (h : op = 6 ∨ op = 7 ∨ op = 8) (A B : BitVec 64) (i : Nat) : (opV op A B).toNat.testBit i = bitB op (A.toNat.testBit i) (B.toNat.testBit i) := by
  rcases h with rfl | rfl | rfl <;> simp [opV, bitB, Nat.testBit_xor]
theorem bits_eq (op a b : Int) (h : op = 6 ∨ op = 7 ∨ op = 8) (l1 : -9223372036854775808 ≤ a) (u1 : a ≤ 9223372036854775807) (l2 : -9223372036854775808 ≤ b) (u2 : b ≤ 9223372036854775807) :
    swageref01_bits.f op a b = some (plainB op a b) := by
  rw [bits_bv op a b h, ← wrap_nat]
  generalize hR : opV op (BitVec.ofInt 64 a) (BitVec.ofInt 64 b) = R
  have hs : ∀ i, i < 64 → ((R.toNat % 2 ^ (i + 1) : Nat) : Int) = ((R.toNat % 2 ^ i : Nat) : Int) + if bitB op (decide (a / 2 ^ i % 2 ≠ 0)) (decide (b / 2 ^ i % 2 ≠ 0)) = true then 2 ^ i else 0 := by
    intro i hi
    rw [sum_bits, ← hR, opV_bit op h, bit_of a i hi, bit_of b i hi]
  have e0 : wrap64 ((R.toNat % 2 ^ 0 : Nat) : Int) = 0 := by rw [Nat.pow_zero, Nat.mod_one]; unfold wrap64; rfl
  have e1 : wrap64 (2 ^ 0) = 1 := by unfold wrap64; rfl
  have e64 : R.toNat % 2 ^ 64 = R.toNat := Nat.mod_eq_of_lt R.isLt
  have := bits_run op a b h l1 u1 l2 u2 (fun i => ((R.toNat % 2 ^ i : Nat) : Int)) hs 64 0 (by omega)
  rw [e0, e1, e64, Int.pow_zero, Int.ediv_one, Int.ediv_one] at this
  unfold swageref01_bits.f
  rw [this]
theorem ref_flag (b : Bool) : swageref01_flag.f b = some (if b = true then 1 else 0) := by unfold swageref01_flag.f; split <;> rfl
theorem ref_known (op : Int) : swageref01_Known.f op = some (decide (1 ≤ op ∧ op ≤ 14)) := by
  unfold swageref01_Known.f
  by_cases h : 1 ≤ op
  · rw [if_pos h]; simp [h]
  · rw [if_neg h]; simp [h]
theorem shift_end (m : Nat) (op x b : Int) (i : Nat) (hb : 0 ≤ b) (hi : i = min b.toNat 64) : swageref01_Do.l0 (m + 2) op x b i = some (x, 0) := by
  by_cases c : (i : Int) < b
  · have e : decide ((i : Int) < 64) = false := by simp; omega
    simp only [swageref01_Do.l0, if_pos c, swageref01_Do.j4, e, Bool.false_eq_true, if_false]
  · simp only [swageref01_Do.l0, if_neg c, swageref01_Do.j4, Bool.false_eq_true, if_false]
theorem shl_run (a b : Int) (hb : 0 ≤ b) (d : Nat) : ∀ (i m : Nat), i + d = min b.toNat 64 → swageref01_Do.l0 (m + 2 * d + 2) 9 (wrap64 (a * 2 ^ i)) b i = some (wrap64 (a * 2 ^ min b.toNat 64), 0) := by
  induction d with
  | zero => intro i m hi; rw [← hi]; exact shift_end m 9 _ b i hb (by omega)
  | succ d ih =>
    intro i m hi
    have c : (i : Int) < b := by omega
    have e : decide ((i : Int) < 64) = true := by simp; omega
    have e1 : m + 2 * (d + 1) + 2 = (m + 2 * d + 2) + 1 + 1 := by omega
    have e2 : (2 : Int) * (a * 2 ^ i) = a * 2 ^ (i + 1) := by rw [Int.pow_succ]; generalize (2 : Int) ^ i = p; rw [← Int.mul_assoc a p 2]; omega
    have e3 : wrap64 ((i : Int) + 1) = ((i + 1 : Nat) : Int) := by rw [wrap_in (by omega) (by omega)]; omega
    have := ih (i + 1) m (by omega)
    rw [e1, swageref01_Do.l0, if_pos c, e, swageref01_Do.j4, if_pos rfl, if_pos rfl, wrap_two, e2, e3]
    exact this
theorem shr_run (a b : Int) (hb : 0 ≤ b) (l1 : -9223372036854775808 ≤ a) (u1 : a ≤ 9223372036854775807) (d : Nat) : ∀ (i m : Nat), i + d = min b.toNat 64 → swageref01_Do.l0 (m + 2 * d + 2) 10 (a / 2 ^ i) b i = some (a / 2 ^ min b.toNat 64, 0) := by
  induction d with
  | zero => intro i m hi; rw [← hi]; exact shift_end m 10 _ b i hb (by omega)
  | succ d ih =>
    intro i m hi
    have c : (i : Int) < b := by omega
    have e : decide ((i : Int) < 64) = true := by simp; omega
    have e1 : m + 2 * (d + 1) + 2 = (m + 2 * d + 2) + 1 + 1 := by omega
    have e3 : wrap64 ((i : Int) + 1) = ((i + 1 : Nat) : Int) := by rw [wrap_in (by omega) (by omega)]; omega
    have := ih (i + 1) m (by omega)
    rw [e1, swageref01_Do.l0, if_pos c, e, swageref01_Do.j4, if_pos rfl, if_neg (by decide), half_eq (ediv_lo l1) (ediv_hi u1), Option.bind_some, ediv_two, e3]
    exact this
theorem tdiv_m1 (a : Int) : a.tdiv (-1) = -a := by rw [Int.tdiv_neg, Int.tdiv_one]
theorem tmod_m1 (a : Int) : a.tmod (-1) = 0 := by rw [Int.tmod_neg, Int.tmod_one]
theorem ref_do (m : Nat) (op a b : Int) (l1 : -9223372036854775808 ≤ a) (u1 : a ≤ 9223372036854775807) (l2 : -9223372036854775808 ≤ b) (u2 : b ≤ 9223372036854775807) :
    swageref01_Do.f (m + 140) op a b = some (doB op a b) := by
  unfold doB swageref01_Do.f
  by_cases h4 : op = 4
  · subst h4
    simp only [if_true, swageref01_Do.j0, true_or, beq_self_eq_true]
    by_cases hb : b = 0
    · rw [if_pos hb, if_pos hb]
    rw [if_neg hb, if_neg hb]
    by_cases hc : b = -1
    · subst hc
      simp only [if_true, swageref01_Do.j1, tdiv_m1]
    · rw [if_neg hc]
      simp only [swageref01_Do.j1, Bool.false_eq_true, if_false, if_neg hc, if_neg hb, if_true]
  by_cases h5 : op = 5
  · subst h5
    simp only [if_true, swageref01_Do.j0, or_true, beq_self_eq_true]
    rw [if_neg (by decide)]
    by_cases hb : b = 0
    · rw [if_pos hb, if_pos hb]
    rw [if_neg hb, if_neg hb]
    by_cases hc : b = -1
    · subst hc
      simp [swageref01_Do.j1, tmod_m1]
    · rw [if_neg hc]
      have e : wrap64 (a - wrap64 (wrap64 (a.tdiv b) * b)) = a.tmod b := by
        rw [wrap_mul_l, wrap_sub_r]
        have h1 : a - a.tdiv b * b = a.tmod b := by
          have := Int.tmod_add_mul_tdiv a b
          rw [Int.mul_comm] at this; omega
        rw [h1]
        have h2 : a.tmod b = a.tmod b := rfl
        have h3 : (a.tmod b).natAbs ≤ a.natAbs := by
          rw [Int.natAbs_tmod]; exact Nat.mod_le _ _
        apply wrap_in
        · by_cases ha : 0 ≤ a
          · have := Int.tmod_nonneg b ha; omega
          · omega
        · by_cases ha : 0 ≤ a
          · omega
          · have h5 : a.tmod b ≤ 0 := by
              have := Int.tmod_nonneg b (show 0 ≤ -a by omega)
              rw [Int.neg_tmod] at this; omega
            omega
      simp only [swageref01_Do.j1, Bool.false_eq_true, if_false, if_neg hc, if_neg hb, e]
      simp
  have e5 : (op == 5) = false := by simpa using h5
  rw [if_neg h4, if_neg (by omega)]
  simp only [swageref01_Do.j0, e5, Bool.false_eq_true, if_false]
  by_cases h9 : op = 9
  · subst h9
    simp only [if_true, swageref01_Do.j2, true_or]
    by_cases hb : b < 0
    · rw [if_pos hb, if_pos hb]
    · rw [if_neg hb, if_neg hb]
      have := shl_run a b (by omega) (min b.toNat 64) 0 (m + 136 - 2 * min b.toNat 64) (by omega)
      rw [show m + 136 - 2 * min b.toNat 64 + 2 * min b.toNat 64 + 2 = m + 138 from by omega, Int.pow_zero, Int.mul_one, wrap_in l1 u1] at this
      exact this
  rw [if_neg h9]
  by_cases h10 : op = 10
  · subst h10
    simp only [if_true, swageref01_Do.j2, or_true, beq_self_eq_true]
    by_cases hb : b < 0
    · rw [if_pos hb, if_pos hb]
    · rw [if_neg hb, if_neg hb]
      have := shr_run a b (by omega) l1 u1 (min b.toNat 64) 0 (m + 136 - 2 * min b.toNat 64) (by omega)
      rw [show m + 136 - 2 * min b.toNat 64 + 2 * min b.toNat 64 + 2 = m + 138 from by omega, Int.pow_zero, Int.ediv_one] at this
      exact this
  have e10 : (op == 10) = false := by simpa using h10
  rw [if_neg (by omega)]
  simp only [swageref01_Do.j2, e10, Bool.false_eq_true, if_false]
  by_cases h1 : op = 1
  · subst h1; simp [plainB]
  by_cases h2 : op = 2
  · subst h2; simp [plainB]
  by_cases h3 : op = 3
  · subst h3; simp [plainB]
  rw [if_neg h1, if_neg h2, if_neg h3]
  by_cases h6 : op = 6
  · subst h6
    simp only [if_true, swageref01_Do.j5, beq_self_eq_true]
    rw [bits_eq 6 a b (by omega) l1 u1 l2 u2]; rfl
  by_cases h7 : op = 7
  · subst h7
    simp only [if_true, swageref01_Do.j5, beq_self_eq_true]
    rw [if_neg (by decide), bits_eq 7 a b (by omega) l1 u1 l2 u2]; rfl
  by_cases h8 : op = 8
  · subst h8
    simp only [swageref01_Do.j5, beq_self_eq_true, if_true]
    rw [if_neg (by decide), if_neg (by decide), bits_eq 8 a b (by omega) l1 u1 l2 u2]; rfl
  have e8 : (op == 8) = false := by simpa using h8
  rw [if_neg h6, if_neg h7]
  simp only [swageref01_Do.j5, e8, Bool.false_eq_true, if_false, ref_flag, Option.bind_some, decide_eq_true_eq, beq_iff_eq, bne_iff_ne, ne_eq]
  unfold plainB ordB
  by_cases h11 : op = 11
  · subst h11; simp
  by_cases h12 : op = 12
  · subst h12; simp
  by_cases h13 : op = 13
  · subst h13; simp
  by_cases h14 : op = 14
  · subst h14; simp
  rw [if_neg h11, if_neg h12, if_neg h13, if_neg h14, if_neg (by omega)]
theorem WordDoes : swagelaw01_WordDoes.Pure := by
  intro op a b _ wa wb
  obtain ⟨la, ua⟩ := bounds wa
  obtain ⟨lb, ub⟩ := bounds wb
  refine ⟨145, ?_⟩
  unfold swagelaw01_WordDoes.f
  rw [small_more 140, do_eq 143, ref_do 5 op a b la ua lb ub, known_eq, ref_known]
  simp
end Go.Proofs.Ytkjdhmelfkndaaa.Pure
