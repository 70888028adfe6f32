/- The pure statement of the law WordOrders holds: whatever the numbers and lists are, what the code computes is true. No condition beside the statement's own. -/
import Derived.Test.YtkjdhmelfkndaaaPWordOrdersx2
set_option linter.unusedSimpArgs false
set_option linter.unusedVariables false
namespace Go.Proofs.Ytkjdhmelfkndaaa.Pure
open Go.RowKit Go.Proofs.Ytkjdhmelfkndaaa.PWordOrders Go.Proofs.YtkjdhmelfkndaaaW.PrintWords Go.Proofs.YtkjdhmelfkndaaaW.PrintLast Go.Proofs.YtkjdhmelfkndaaaW.PrintMore
theorem wrap_eq (n : Int) : IntKind.i64.wrap n = wrap64 n := by unfold wrap64; exact IntKind.wrap_i64 n
theorem wrap_in {n : Int} (h : -9223372036854775808 ≤ n) (h' : n ≤ 9223372036854775807) : wrap64 n = n := by unfold wrap64; omega
theorem wrap_wrap (n : Int) : wrap64 (wrap64 n) = wrap64 n := by unfold wrap64; omega
theorem wrap_lo (n : Int) : -9223372036854775808 ≤ wrap64 n := by unfold wrap64; omega
theorem wrap_hi (n : Int) : wrap64 n ≤ 9223372036854775807 := by unfold wrap64; omega
theorem wrap_add_l (a b : Int) : wrap64 (wrap64 a + b) = wrap64 (a + b) := by unfold wrap64; omega
theorem wrap_add_r (a b : Int) : wrap64 (a + wrap64 b) = wrap64 (a + b) := by unfold wrap64; omega
theorem wrap_sub_r (a b : Int) : wrap64 (a - wrap64 b) = wrap64 (a - b) := by unfold wrap64; omega
theorem wrap_two (a : Int) : wrap64 (2 * wrap64 a) = wrap64 (2 * a) := by unfold wrap64; omega
theorem wrap_mul_l (a b : Int) : wrap64 (wrap64 a * b) = wrap64 (a * b) := by
  have h : (wrap64 a - a) % 18446744073709551616 = 0 := by unfold wrap64; omega
  obtain ⟨q, hq⟩ := Int.dvd_of_emod_eq_zero h
  have e : wrap64 a = a + 18446744073709551616 * q := by omega
  rw [e, Int.add_mul, Int.mul_assoc]
  generalize q * b = z
  generalize a * b = y
  unfold wrap64; omega
theorem wrap_mul_r (a b : Int) : wrap64 (a * wrap64 b) = wrap64 (a * b) := by rw [Int.mul_comm, wrap_mul_l, Int.mul_comm]
theorem wrap_bv (n : Int) : wrap64 n = (BitVec.ofInt 64 n).toInt := by
  rw [BitVec.toInt_ofInt]; unfold wrap64 Int.bmod; simp only [Int.reducePow, Nat.reducePow, Int.cast_ofNat_Int]; split <;> omega
theorem wrap_nat (v : BitVec 64) : wrap64 (v.toNat : Int) = v.toInt := by
  have := v.isLt
  rw [BitVec.toInt_eq_toNat_cond]; unfold wrap64; split <;> omega
theorem ofInt_toInt64 (v : BitVec 64) : BitVec.ofInt 64 v.toInt = v := BitVec.ofInt_toInt
theorem toInt_ofInt64 {a : Int} (h : -9223372036854775808 ≤ a) (h' : a ≤ 9223372036854775807) : (BitVec.ofInt 64 a).toInt = a := by rw [← wrap_bv, wrap_in h h']
theorem and_bv (a b : Int) : Go.bits .and .i64 a b = (BitVec.ofInt 64 a &&& BitVec.ofInt 64 b).toInt := by
  show IntKind.i64.wrap ((BitVec.ofInt 64 a &&& BitVec.ofInt 64 b).toNat : Int) = _
  rw [wrap_eq, wrap_nat]
theorem or_bv (a b : Int) : Go.bits .or .i64 a b = (BitVec.ofInt 64 a ||| BitVec.ofInt 64 b).toInt := by
  show IntKind.i64.wrap ((BitVec.ofInt 64 a ||| BitVec.ofInt 64 b).toNat : Int) = _
  rw [wrap_eq, wrap_nat]
theorem xor_bv (a b : Int) : Go.bits .xor .i64 a b = (BitVec.ofInt 64 a ^^^ BitVec.ofInt 64 b).toInt := by
  show IntKind.i64.wrap ((BitVec.ofInt 64 a ^^^ BitVec.ofInt 64 b).toNat : Int) = _
  rw [wrap_eq, wrap_nat]
def ordB (op a b : Int) : Int := if op = 11 then (if a < b then 1 else 0) else if op = 12 then (if a ≤ b then 1 else 0) else if op = 13 then (if a = b then 1 else 0) else (if a = b then 0 else 1)
theorem isNaN_eq (a : Int) : cmp_isNaN_int.f a = some false := by unfold cmp_isNaN_int.f; simp
theorem flag_eq (b : Bool) : word_flag.f b = some (if b = true then 1 else 0) := by unfold word_flag.f; split <;> rfl
theorem compare_eq (a b : Int) : cmp_Compare_int.f a b = some (if a < b then -1 else if a > b then 1 else 0) := by
  unfold cmp_Compare_int.f
  rw [isNaN_eq, isNaN_eq]
  simp only [Option.bind_some, Bool.false_eq_true, if_false]
  split <;> (try split) <;> rfl
theorem ordered_eq (op a b : Int) : word_ordered_int.f op a b = some (ordB op a b) := by
  unfold word_ordered_int.f ordB
  rw [compare_eq]
  simp only [Option.bind_some, flag_eq]
  rcases Int.lt_trichotomy a b with h | h | h
  · simp [h, Int.le_of_lt h, Int.ne_of_lt h]
    split <;> (try split) <;> (try split) <;> rfl
  · subst h
    simp
    split <;> (try split) <;> (try split) <;> rfl
  · have h1 : ¬ a < b := by omega
    have h2 : ¬ a ≤ b := by omega
    have h3 : ¬ a = b := by omega
    simp [h, h1, h2, h3]
    split <;> (try split) <;> (try split) <;> rfl
def plainB (op a b : Int) : Int := if op = 1 then wrap64 (a + b) else if op = 2 then wrap64 (a - b) else if op = 3 then wrap64 (a * b) else if op = 6 then Go.bits .and .i64 a b else if op = 7 then Go.bits .or .i64 a b else if op = 8 then Go.bits .xor .i64 a b else ordB op a b
theorem plain_eq (op a b : Int) : word_plain.f op a b = some (plainB op a b) := by
  unfold word_plain.f plainB
  rw [ordered_eq]
  simp only [Option.bind_some]
  repeat' split
  all_goals rfl
def movB (op a b : Int) : Int := if op = 9 then wrap64 (a * 2 ^ min b.toNat 64) else a / 2 ^ min b.toNat 64
theorem moved_eq (op a b : Int) (hb : 0 ≤ b) : word_moved.f op a b = some (movB op a b) := by
  have e : IntKind.u64.wrap (mn b 64) = mn b 64 := by
    have : IntKind.u64.wrap (mn b 64) = mn b 64 % 18446744073709551616 := by simp [IntKind.wrap, IntKind.bits, IntKind.signed]
    rw [this]; unfold mn; split <;> omega
  have hm : 0 ≤ mn b 64 := by unfold mn; split <;> omega
  have ht : min (mn b 64).toNat 64 = min b.toNat 64 := by unfold mn; split <;> omega
  unfold word_moved.f movB shl shr
  rw [e, if_pos hm, if_pos hm, wrap_eq]
  show (if op = 9 then some (wrap64 (a * 2 ^ min (mn b 64).toNat 64)) else some (a / 2 ^ min (mn b 64).toNat 64)) = _
  rw [ht]
  split <;> rfl
def doB (op a b : Int) : Int × Int :=
  if op = 4 ∨ op = 5 then (if b = 0 then (0, 6) else (if op = 4 then wrap64 (a.tdiv b) else a.tmod b, 0))
  else if op = 9 ∨ op = 10 then (if b < 0 then (0, 6) else (movB op a b, 0))
  else if 1 ≤ op ∧ op ≤ 14 then (plainB op a b, 0) else (0, 1)
theorem known_eq (op : Int) : word_Known.f op = some (decide (1 ≤ op ∧ op ≤ 14)) := by
  unfold word_Known.f
  by_cases h : 1 ≤ op
  · rw [if_pos h]; simp [h]
  · rw [if_neg h]; simp [h]
theorem divided_eq (op a b : Int) (hb : b ≠ 0) : word_divided.f op a b = some (if op = 4 then wrap64 (a.tdiv b) else a.tmod b) := by
  unfold word_divided.f
  rw [if_neg hb, if_neg hb]; split <;> rfl
theorem do_eq (m : Nat) (op a b : Int) : word_Do.f (m + 2) op a b = some (doB op a b) := by
  unfold doB word_Do.f
  by_cases h4 : op = 4
  · subst h4
    simp only [if_true, word_Do.j0, true_or, beq_self_eq_true]
    by_cases hb : b = 0
    · rw [if_pos hb, if_pos hb]
    · rw [if_neg hb, if_neg hb, divided_eq _ _ _ hb]; simp
  by_cases h5 : op = 5
  · subst h5
    simp only [if_true, word_Do.j0, or_true, beq_self_eq_true]
    rw [if_neg (by decide)]
    by_cases hb : b = 0
    · rw [if_pos hb, if_pos hb]
    · rw [if_neg hb, if_neg hb, divided_eq _ _ _ hb]; simp
  rw [if_neg h4, if_neg (by omega)]
  have e5 : (op == 5) = false := by simpa using h5
  simp only [word_Do.j0, e5, Bool.false_eq_true, if_false]
  by_cases h9 : op = 9
  · subst h9
    simp only [if_true, word_Do.j1, true_or, beq_self_eq_true]
    by_cases hb : b < 0
    · rw [if_pos hb, if_pos hb]
    · rw [if_neg hb, if_neg hb, moved_eq _ _ _ (by omega)]; rfl
  rw [if_neg h9]
  by_cases h10 : op = 10
  · subst h10
    simp only [if_true, word_Do.j1, or_true, beq_self_eq_true]
    by_cases hb : b < 0
    · rw [if_pos hb, if_pos hb]
    · rw [if_neg hb, if_neg hb, moved_eq _ _ _ (by omega)]; rfl
  have e10 : (op == 10) = false := by simpa using h10
  rw [if_neg (by omega)]
  simp only [word_Do.j1, e10, Bool.false_eq_true, if_false]
  rw [known_eq, plain_eq]
  simp only [Option.bind_some, decide_eq_true_eq]
  split <;> rfl
theorem small_five : swagelaw01_small.f 5 = some true := by kernel_rfl
theorem small_more (m : Nat) : swagelaw01_small.f (m + 5) = some true := by
  exact at_rounds (g := fun k => swagelaw01_small.f k) (fun k => swagelaw01_small.mono k) (by omega : 5 ≤ m + 5) small_five
theorem bounds {n : Int} (h : (Lit.int .i64 n).wf = true) : -9223372036854775808 ≤ n ∧ n ≤ 9223372036854775807 := by
  simp [Lit.wf, IntKind.min, IntKind.max, IntKind.signed, IntKind.bits] at h; omega
theorem turned_eq (op : Int) : word_Turned.f op = some (if op = 1 ∨ op = 3 ∨ op = 6 ∨ op = 7 ∨ op = 8 ∨ op = 13 ∨ op = 14 then (op, true) else (0, false)) := by
  unfold word_Turned.f
  by_cases h : op = 1 ∨ op = 3 ∨ op = 6 ∨ op = 7 ∨ op = 8 ∨ op = 13 ∨ op = 14
  · rw [if_pos h]; rcases h with h | h | h | h | h | h | h <;> simp [h]
  · rw [if_neg h]; simp only [not_or] at h; simp [h]
theorem fold_eq (m : Nat) (op x : Int) : word_Fold.f (m + 1) op x = some (if op = 2 ∨ op = 8 ∨ op = 11 ∨ op = 14 then (0, true) else if op = 12 ∨ op = 13 then (1, true) else (0, false)) := by
  unfold word_Fold.f
  simp only [word_Fold.j0]
  by_cases h : op = 2 ∨ op = 8 ∨ op = 11 ∨ op = 14
  · rw [if_pos h]; rcases h with h | h | h | h <;> simp [h]
  · rw [if_neg h]; simp only [not_or] at h
    obtain ⟨h1, h2, h3, h4⟩ := h
    by_cases h' : op = 12 ∨ op = 13
    · rw [if_pos h']; rcases h' with h' | h' <;> simp [h']
    · simp only [not_or] at h'; simp [h1, h2, h3, h4, h']
theorem turned_ok (op a b : Int) (h : op = 1 ∨ op = 3 ∨ op = 6 ∨ op = 7 ∨ op = 8 ∨ op = 13 ∨ op = 14) : doB op b a = doB op a b := by
  rcases h with rfl | rfl | rfl | rfl | rfl | rfl | rfl
  · simp [doB, plainB, Int.add_comm]
  · simp [doB, plainB, Int.mul_comm]
  · simp [doB, plainB, and_bv, BitVec.and_comm]
  · simp [doB, plainB, or_bv, BitVec.or_comm]
  · simp [doB, plainB, xor_bv, BitVec.xor_comm]
  · simp [doB, plainB, ordB, eq_comm]
  · simp [doB, plainB, ordB, eq_comm]
theorem fold_ok0 (op a : Int) (h : op = 2 ∨ op = 8 ∨ op = 11 ∨ op = 14) : doB op a a = (0, 0) := by
  rcases h with rfl | rfl | rfl | rfl
  · simp [doB, plainB]; unfold wrap64; rfl
  · simp [doB, plainB, xor_bv]
  · simp [doB, plainB, ordB]
  · simp [doB, plainB, ordB]
theorem fold_ok1 (op a : Int) (h : op = 12 ∨ op = 13) : doB op a a = (1, 0) := by
  rcases h with rfl | rfl <;> simp [doB, plainB, ordB]
theorem orders_j1 (m : Nat) (op a : Int) : swagelaw01_WordOrders.j1 (m + 3) op a true false = some true := by
  simp only [swagelaw01_WordOrders.j1, Bool.false_eq_true, if_false, fold_eq, do_eq, Option.bind_some, if_true]
  by_cases h : op = 2 ∨ op = 8 ∨ op = 11 ∨ op = 14
  · rw [if_pos h, fold_ok0 op a h]; simp
  · rw [if_neg h]
    by_cases h' : op = 12 ∨ op = 13
    · rw [if_pos h', fold_ok1 op a h']; simp
    · rw [if_neg h']; simp
theorem orders_j0 (m : Nat) (op a b : Int) : swagelaw01_WordOrders.j0 (m + 4) op a b true false = some true := by
  simp only [swagelaw01_WordOrders.j0, Bool.false_eq_true, if_false, turned_eq, do_eq (m + 1), Option.bind_some]
  by_cases h : op = 1 ∨ op = 3 ∨ op = 6 ∨ op = 7 ∨ op = 8 ∨ op = 13 ∨ op = 14
  · rw [if_pos h]; simp only [if_true, turned_ok op a b h, bne_self_eq_false]; exact orders_j1 m op a
  · rw [if_neg h]; simp only [Bool.false_eq_true, if_false]; exact orders_j1 m op a
theorem do11 (a b : Int) : doB 11 a b = (if a < b then 1 else 0, 0) := by simp [doB, plainB, ordB]
theorem do12 (a b : Int) : doB 12 a b = (if a ≤ b then 1 else 0, 0) := by simp [doB, plainB, ordB]
theorem do13 (a b : Int) : doB 13 a b = (if a = b then 1 else 0, 0) := by simp [doB, plainB, ordB]
theorem do14 (a b : Int) : doB 14 a b = (if a = b then 0 else 1, 0) := by simp [doB, plainB, ordB]
theorem WordOrders : swagelaw01_WordOrders.Pure := by
  intro op a b _ _ _
  refine ⟨10, ?_⟩
  unfold swagelaw01_WordOrders.f
  rw [small_more 5, do_eq 8, do_eq 8, do_eq 8, do_eq 8, do_eq 8, do11, do11, do12, do13, do14]
  simp only [Option.bind_some]
  have h11 : wrap64 1 = 1 := by unfold wrap64; rfl
  have h00 : wrap64 0 = 0 := by unfold wrap64; rfl
  rcases Int.lt_trichotomy a b with h | h | h
  · have h1 : ¬ b < a := by omega
    have h2 : ¬ a = b := by omega
    have h3 : a ≤ b := by omega
    simp [h, h1, h2, h3, h11]
    exact orders_j0 6 op a b
  · subst h
    simp [h11, h00]
    exact orders_j0 6 op a a
  · have h1 : ¬ a < b := by omega
    have h2 : ¬ a = b := by omega
    have h3 : ¬ a ≤ b := by omega
    simp [h, h1, h2, h3, h11, h00]
    exact orders_j0 6 op a b
end Go.Proofs.Ytkjdhmelfkndaaa.Pure
