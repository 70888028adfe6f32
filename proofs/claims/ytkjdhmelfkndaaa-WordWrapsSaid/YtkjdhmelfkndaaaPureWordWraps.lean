/- The pure statement of the law WordWraps holds: whatever the numbers and lists are, what the code computes is true. No condition beside the statement's own. -/
import Derived.Test.YtkjdhmelfkndaaaQx5
set_option linter.unusedSimpArgs false
set_option linter.unusedVariables false
namespace Go.Proofs.Ytkjdhmelfkndaaa.Pure
open Go.RowKit Go.Proofs.Ytkjdhmelfkndaaa.Q Go.Proofs.YtkjdhmelfkndaaaW.PrintWords Go.Proofs.YtkjdhmelfkndaaaW.PrintLast Go.Proofs.YtkjdhmelfkndaaaW.PrintMore
theorem wrap_eq (n : Int) : IntKind.i64.wrap n = wrap64 n := by unfold wrap64; exact IntKind.wrap_i64 n
theorem wrap_in {n : Int} (h : -9223372036854775808 ≤ n) (h' : n ≤ 9223372036854775807) : wrap64 n = n := by unfold wrap64; omega
theorem wrap_wrap (n : Int) : wrap64 (wrap64 n) = wrap64 n := by unfold wrap64; omega
theorem wrap_lo (n : Int) : -9223372036854775808 ≤ wrap64 n := by unfold wrap64; omega
theorem wrap_hi (n : Int) : wrap64 n ≤ 9223372036854775807 := by unfold wrap64; omega
theorem wrap_add_l (a b : Int) : wrap64 (wrap64 a + b) = wrap64 (a + b) := by unfold wrap64; omega
theorem wrap_add_r (a b : Int) : wrap64 (a + wrap64 b) = wrap64 (a + b) := by unfold wrap64; omega
theorem wrap_sub_r (a b : Int) : wrap64 (a - wrap64 b) = wrap64 (a - b) := by unfold wrap64; omega
theorem wrap_two (a : Int) : wrap64 (2 * wrap64 a) = wrap64 (2 * a) := by unfold wrap64; omega
theorem wrap_mul_l (a b : Int) : wrap64 (wrap64 a * b) = wrap64 (a * b) := by
  have h : (wrap64 a - a) % 18446744073709551616 = 0 := by unfold wrap64; omega
  obtain ⟨q, hq⟩ := Int.dvd_of_emod_eq_zero h
  have e : wrap64 a = a + 18446744073709551616 * q := by omega
  rw [e, Int.add_mul, Int.mul_assoc]
  generalize q * b = z
  generalize a * b = y
  unfold wrap64; omega
theorem wrap_mul_r (a b : Int) : wrap64 (a * wrap64 b) = wrap64 (a * b) := by rw [Int.mul_comm, wrap_mul_l, Int.mul_comm]
theorem wrap_bv (n : Int) : wrap64 n = (BitVec.ofInt 64 n).toInt := by
  rw [BitVec.toInt_ofInt]; unfold wrap64 Int.bmod; simp only [Int.reducePow, Nat.reducePow, Int.cast_ofNat_Int]; split <;> omega
theorem wrap_nat (v : BitVec 64) : wrap64 (v.toNat : Int) = v.toInt := by
  have := v.isLt
  rw [BitVec.toInt_eq_toNat_cond]; unfold wrap64; split <;> omega
theorem ofInt_toInt64 (v : BitVec 64) : BitVec.ofInt 64 v.toInt = v := BitVec.ofInt_toInt
theorem toInt_ofInt64 {a : Int} (h : -9223372036854775808 ≤ a) (h' : a ≤ 9223372036854775807) : (BitVec.ofInt 64 a).toInt = a := by rw [← wrap_bv, wrap_in h h']
theorem and_bv (a b : Int) : Go.bits .and .i64 a b = (BitVec.ofInt 64 a &&& BitVec.ofInt 64 b).toInt := by
  show IntKind.i64.wrap ((BitVec.ofInt 64 a &&& BitVec.ofInt 64 b).toNat : Int) = _
  rw [wrap_eq, wrap_nat]
theorem or_bv (a b : Int) : Go.bits .or .i64 a b = (BitVec.ofInt 64 a ||| BitVec.ofInt 64 b).toInt := by
  show IntKind.i64.wrap ((BitVec.ofInt 64 a ||| BitVec.ofInt 64 b).toNat : Int) = _
  rw [wrap_eq, wrap_nat]
theorem xor_bv (a b : Int) : Go.bits .xor .i64 a b = (BitVec.ofInt 64 a ^^^ BitVec.ofInt 64 b).toInt := by
  show IntKind.i64.wrap ((BitVec.ofInt 64 a ^^^ BitVec.ofInt 64 b).toNat : Int) = _
  rw [wrap_eq, wrap_nat]
def ordB (op a b : Int) : Int := if op = 11 then (if a < b then 1 else 0) else if op = 12 then (if a ≤ b then 1 else 0) else if op = 13 then (if a = b then 1 else 0) else (if a = b then 0 else 1)
theorem isNaN_eq (a : Int) : cmp_isNaN_int.f a = some false := by unfold cmp_isNaN_int.f; simp
theorem flag_eq (b : Bool) : word_flag.f b = some (if b = true then 1 else 0) := by unfold word_flag.f; split <;> rfl
theorem compare_eq (a b : Int) : cmp_Compare_int.f a b = some (if a < b then -1 else if a > b then 1 else 0) := by
  unfold cmp_Compare_int.f
  rw [isNaN_eq, isNaN_eq]
  simp only [Option.bind_some, Bool.false_eq_true, if_false]
  split <;> (try split) <;> rfl
theorem ordered_eq (op a b : Int) : word_ordered_int.f op a b = some (ordB op a b) := by
  unfold word_ordered_int.f ordB
  rw [compare_eq]
  simp only [Option.bind_some, flag_eq]
  rcases Int.lt_trichotomy a b with h | h | h
  · simp [h, Int.le_of_lt h, Int.ne_of_lt h]
    split <;> (try split) <;> (try split) <;> rfl
  · subst h
    simp
    split <;> (try split) <;> (try split) <;> rfl
  · have h1 : ¬ a < b := by omega
    have h2 : ¬ a ≤ b := by omega
    have h3 : ¬ a = b := by omega
    simp [h, h1, h2, h3]
    split <;> (try split) <;> (try split) <;> rfl
def plainB (op a b : Int) : Int := if op = 1 then wrap64 (a + b) else if op = 2 then wrap64 (a - b) else if op = 3 then wrap64 (a * b) else if op = 6 then Go.bits .and .i64 a b else if op = 7 then Go.bits .or .i64 a b else if op = 8 then Go.bits .xor .i64 a b else ordB op a b
theorem plain_eq (op a b : Int) : word_plain.f op a b = some (plainB op a b) := by
  unfold word_plain.f plainB
  rw [ordered_eq]
  simp only [Option.bind_some]
  repeat' split
  all_goals rfl
def movB (op a b : Int) : Int := if op = 9 then wrap64 (a * 2 ^ min b.toNat 64) else a / 2 ^ min b.toNat 64
theorem moved_eq (op a b : Int) (hb : 0 ≤ b) : word_moved.f op a b = some (movB op a b) := by
  have e : IntKind.u64.wrap (mn b 64) = mn b 64 := by
    have : IntKind.u64.wrap (mn b 64) = mn b 64 % 18446744073709551616 := by simp [IntKind.wrap, IntKind.bits, IntKind.signed]
    rw [this]; unfold mn; split <;> omega
  have hm : 0 ≤ mn b 64 := by unfold mn; split <;> omega
  have ht : min (mn b 64).toNat 64 = min b.toNat 64 := by unfold mn; split <;> omega
  unfold word_moved.f movB shl shr
  rw [e, if_pos hm, if_pos hm, wrap_eq]
  show (if op = 9 then some (wrap64 (a * 2 ^ min (mn b 64).toNat 64)) else some (a / 2 ^ min (mn b 64).toNat 64)) = _
  rw [ht]
  split <;> rfl
def doB (op a b : Int) : Int × Int :=
  if op = 4 ∨ op = 5 then (if b = 0 then (0, 6) else (if op = 4 then wrap64 (a.tdiv b) else a.tmod b, 0))
  else if op = 9 ∨ op = 10 then (if b < 0 then (0, 6) else (movB op a b, 0))
  else if 1 ≤ op ∧ op ≤ 14 then (plainB op a b, 0) else (0, 1)
theorem known_eq (op : Int) : word_Known.f op = some (decide (1 ≤ op ∧ op ≤ 14)) := by
  unfold word_Known.f
  by_cases h : 1 ≤ op
  · rw [if_pos h]; simp [h]
  · rw [if_neg h]; simp [h]
theorem divided_eq (op a b : Int) (hb : b ≠ 0) : word_divided.f op a b = some (if op = 4 then wrap64 (a.tdiv b) else a.tmod b) := by
  unfold word_divided.f
  rw [if_neg hb, if_neg hb]; split <;> rfl
theorem do_eq (m : Nat) (op a b : Int) : word_Do.f (m + 2) op a b = some (doB op a b) := by
  unfold doB word_Do.f
  by_cases h4 : op = 4
  · subst h4
    simp only [if_true, word_Do.j0, true_or, beq_self_eq_true]
    by_cases hb : b = 0
    · rw [if_pos hb, if_pos hb]
    · rw [if_neg hb, if_neg hb, divided_eq _ _ _ hb]; simp
  by_cases h5 : op = 5
  · subst h5
    simp only [if_true, word_Do.j0, or_true, beq_self_eq_true]
    rw [if_neg (by decide)]
    by_cases hb : b = 0
    · rw [if_pos hb, if_pos hb]
    · rw [if_neg hb, if_neg hb, divided_eq _ _ _ hb]; simp
  rw [if_neg h4, if_neg (by omega)]
  have e5 : (op == 5) = false := by simpa using h5
  simp only [word_Do.j0, e5, Bool.false_eq_true, if_false]
  by_cases h9 : op = 9
  · subst h9
    simp only [if_true, word_Do.j1, true_or, beq_self_eq_true]
    by_cases hb : b < 0
    · rw [if_pos hb, if_pos hb]
    · rw [if_neg hb, if_neg hb, moved_eq _ _ _ (by omega)]; rfl
  rw [if_neg h9]
  by_cases h10 : op = 10
  · subst h10
    simp only [if_true, word_Do.j1, or_true, beq_self_eq_true]
    by_cases hb : b < 0
    · rw [if_pos hb, if_pos hb]
    · rw [if_neg hb, if_neg hb, moved_eq _ _ _ (by omega)]; rfl
  have e10 : (op == 10) = false := by simpa using h10
  rw [if_neg (by omega)]
  simp only [word_Do.j1, e10, Bool.false_eq_true, if_false]
  rw [known_eq, plain_eq]
  simp only [Option.bind_some, decide_eq_true_eq]
  split <;> rfl
theorem small_five : swagelaw01_small.f 5 = some true := by kernel_rfl
theorem small_more (m : Nat) : swagelaw01_small.f (m + 5) = some true := by
  exact at_rounds (g := fun k => swagelaw01_small.f k) (fun k => swagelaw01_small.mono k) (by omega : 5 ≤ m + 5) small_five
theorem bounds {n : Int} (h : (Lit.int .i64 n).wf = true) : -9223372036854775808 ≤ n ∧ n ≤ 9223372036854775807 := by
  simp [Lit.wf, IntKind.min, IntKind.max, IntKind.signed, IntKind.bits] at h; omega
theorem turned_eq (op : Int) : word_Turned.f op = swageref01_Turned.f op := by unfold word_Turned.f swageref01_Turned.f; rfl
theorem fold_eq (m : Nat) (op x : Int) : word_Fold.f (m + 1) op x = swageref01_Fold.f op := by
  unfold word_Fold.f swageref01_Fold.f
  simp only [word_Fold.j0]
  by_cases h2 : op = 2
  · subst h2; simp
  by_cases h8 : op = 8
  · subst h8; simp
  by_cases h11 : op = 11
  · subst h11; simp
  by_cases h14 : op = 14
  · subst h14; simp
  have e14 : (op == 14) = false := by simp [h14]
  simp [h2, h8, h11, e14]
theorem turned_some (op : Int) : ∃ p : Int × Bool, swageref01_Turned.f op = some p := by
  unfold swageref01_Turned.f; repeat' split
  all_goals exact ⟨_, rfl⟩
theorem fold_some (op : Int) : ∃ p : Int × Bool, swageref01_Fold.f op = some p := by
  unfold swageref01_Fold.f; repeat' split
  all_goals exact ⟨_, rfl⟩
theorem wl_run (n bits : Int) (s : Bool) (hb : 0 ≤ bits) (hb2 : bits ≤ 32) (d : Nat) : ∀ (i m : Nat), i + d = bits.toNat → swageref01_Wrap.l0 (m + d + 1) n bits s (2 ^ i) i = swageref01_Wrap.l0 (m + 1) n bits s (2 ^ bits.toNat) bits := by
  induction d with
  | zero => intro i m hi; obtain rfl : i = bits.toNat := by omega
            rw [Int.toNat_of_nonneg hb]
  | succ d ih =>
    intro i m hi
    have e : m + (d + 1) + 1 = (m + d + 1) + 1 := by omega
    have c : (i : Int) < bits := by omega
    have e3 : wrap64 ((i : Int) + 1) = ((i + 1 : Nat) : Int) := by rw [wrap_in (by omega) (by omega)]; omega
    have e4 : wrap64 (2 * 2 ^ i) = 2 ^ (i + 1) := by
      have h1 : (2 : Int) ^ (i + 1) ≤ 2 ^ 62 := by
        have : (2 : Nat) ^ (i + 1) ≤ 2 ^ 62 := Nat.pow_le_pow_right (by decide) (by omega)
        exact_mod_cast this
      have h2 : (0 : Int) < 2 ^ (i + 1) := Int.pow_pos (by decide)
      have h3 : (2 : Int) * 2 ^ i = 2 ^ (i + 1) := by rw [Int.pow_succ]; omega
      rw [h3]; exact wrap_in (by omega) (by omega)
    rw [e, swageref01_Wrap.l0, if_pos c, e3, e4]
    exact ih (i + 1) m (by omega)
def wrapB (n p : Int) (s : Bool) : Int := if s = true ∧ n % p ≥ p / 2 then n % p - p else n % p
theorem wl_end (m : Nat) (n bits p : Int) (s : Bool) (hp : p = 256 ∨ p = 65536 ∨ p = 4294967296) : swageref01_Wrap.l0 (m + 1) n bits s p bits = some (wrapB n p s) := by
  simp only [swageref01_Wrap.l0, Int.lt_irrefl, if_false]
  have h0 : p ≠ 0 := by omega
  rw [if_neg h0]
  have e1 : wrap64 (p.tdiv 2) = p / 2 := by
    rcases hp with rfl | rfl | rfl <;> (unfold wrap64; decide)
  have hm := Int.emod_nonneg n h0
  have hl := Int.emod_lt_of_pos n (show 0 < p by omega)
  have ht : n.tmod p = if 0 ≤ n ∨ p ∣ n then n % p else n % p - p := by
    rw [Int.tmod_eq_emod]; split <;> omega
  rw [e1, ht]
  unfold wrapB
  by_cases c : 0 ≤ n ∨ p ∣ n
  · rw [if_pos c, if_neg (by omega)]
    cases s
    · simp
    · simp only [if_true, true_and]
      split
      · rw [wrap_in (by omega) (by omega)]
      · rfl
  · rw [if_neg c, if_pos (by omega)]
    have e2 : wrap64 (n % p - p + p) = n % p := by rw [wrap_in (by omega) (by omega)]; omega
    rw [e2]
    cases s
    · simp
    · simp only [if_true, true_and]
      split
      · rw [wrap_in (by omega) (by omega)]
      · rfl
theorem pow_cases {bits : Int} (h : bits = 8 ∨ bits = 16 ∨ bits = 32) : (2 : Int) ^ bits.toNat = 256 ∨ (2 : Int) ^ bits.toNat = 65536 ∨ (2 : Int) ^ bits.toNat = 4294967296 := by
  rcases h with rfl | rfl | rfl
  · exact .inl rfl
  · exact .inr (.inl rfl)
  · exact .inr (.inr rfl)
theorem ref_wrap (m : Nat) (n bits : Int) (s : Bool) : swageref01_Wrap.f (m + 40) n bits s = some (if bits = 8 ∨ bits = 16 ∨ bits = 32 then wrapB n (2 ^ bits.toNat) s else n) := by
  have go : (bits = 8 ∨ bits = 16 ∨ bits = 32) → swageref01_Wrap.j0 (m + 40) n bits s false = some (wrapB n (2 ^ bits.toNat) s) := by
    intro h
    simp only [swageref01_Wrap.j0, Bool.false_eq_true, if_false]
    have := wl_run n bits s (by omega) (by omega) bits.toNat 0 (m + 38 - bits.toNat) (by omega)
    rw [show m + 38 - bits.toNat + bits.toNat + 1 = m + 39 from by omega, wl_end _ _ _ _ _ (pow_cases h)] at this
    exact this
  unfold swageref01_Wrap.f
  by_cases h8 : bits = 8
  · rw [if_pos h8, if_pos (.inl h8)]; exact go (.inl h8)
  by_cases h16 : bits = 16
  · rw [if_neg h8, if_pos h16, if_pos (.inr (.inl h16))]; exact go (.inr (.inl h16))
  by_cases h32 : bits = 32
  · rw [if_neg h8, if_neg h16, if_pos (.inr (.inr h32))]
    have e : (bits != 32) = false := by simp [h32]
    rw [e]; exact go (.inr (.inr h32))
  · rw [if_neg h8, if_neg h16, if_neg (by omega)]
    have e : (bits != 32) = true := by simp [h32]
    rw [e]; simp [swageref01_Wrap.j0]
theorem and_mask (n : Int) (b : Nat) (hb : b ≤ 32) (l : -9223372036854775808 ≤ n) (u : n ≤ 9223372036854775807) : Go.bits .and .i64 n (2 ^ b - 1) = n % 2 ^ b := by
  rw [and_bv, ← wrap_nat, BitVec.toNat_and, BitVec.toNat_ofInt, BitVec.toNat_ofInt]
  have h2 : (2 : Nat) ^ b ≤ 2 ^ 32 := Nat.pow_le_pow_right (by decide) hb
  have h1 : 0 < (2 : Nat) ^ b := Nat.pow_pos (by decide)
  have e1 : (((2 : Int) ^ b - 1) % ((2 ^ 64 : Nat) : Int)).toNat = 2 ^ b - 1 := by
    have e2 : (2 : Int) ^ b - 1 = ((2 ^ b - 1 : Nat) : Int) := by
      rw [Int.natCast_sub (by omega)]; simp
    have hz : 2 ^ b - 1 ≤ 2 ^ 32 := by omega
    rw [e2]; generalize 2 ^ b - 1 = z at hz ⊢
    omega
  rw [e1, Nat.and_two_pow_sub_one_eq_mod]
  have hn : 0 ≤ n % ((2 ^ 64 : Nat) : Int) := Int.emod_nonneg _ (by decide)
  have e3 : (((n % ((2 ^ 64 : Nat) : Int)).toNat % 2 ^ b : Nat) : Int) = n % 2 ^ b := by
    rw [Int.natCast_emod, Int.toNat_of_nonneg hn]
    have : ((2 ^ b : Nat) : Int) = 2 ^ b := by simp
    rw [this]
    apply Int.emod_emod_of_dvd
    refine ⟨2 ^ (64 - b), ?_⟩
    rw [← Int.pow_add, show b + (64 - b) = 64 from by omega]; rfl
  rw [e3]
  have h3 : (0 : Int) < 2 ^ b := Int.pow_pos (by decide)
  have h4 : (2 : Int) ^ b ≤ 2 ^ 32 := by exact_mod_cast h2
  have h5 := Int.emod_nonneg n (Int.ne_of_gt h3)
  have h6 := Int.emod_lt_of_pos n h3
  exact wrap_in (by omega) (by omega)
theorem prog_wrap (m : Nat) (n bits : Int) (s : Bool) (l : -9223372036854775808 ≤ n) (u : n ≤ 9223372036854775807) : word_Wrap.f (m + 1) n bits s = some (if bits = 8 ∨ bits = 16 ∨ bits = 32 then wrapB n (2 ^ bits.toNat) s else n) := by
  have go : (bits = 8 ∨ bits = 16 ∨ bits = 32) → word_Wrap.j0 (m + 1) n bits s false = some (wrapB n (2 ^ bits.toNat) s) := by
    intro h
    simp only [word_Wrap.j0, Bool.false_eq_true, if_false]
    cases s
    · rw [if_neg (by decide), if_pos (by omega)]
      have e : wrap64 (shl .i64 1 bits - 1) = 2 ^ bits.toNat - 1 := by
        rcases h with rfl | rfl | rfl <;> (unfold shl wrap64; rfl)
      rw [e, and_mask n bits.toNat (by omega) l u]; rfl
    · rw [if_pos rfl]
      rcases h with rfl | rfl | rfl
      · rw [if_pos (by unfold wrap64; decide)]
        show some (IntKind.i64.wrap (n * 2 ^ min (wrap64 (64 - 8)).toNat 64) / 2 ^ min (wrap64 (64 - 8)).toNat 64) = _
        rw [wrap_eq, show min (wrap64 (64 - 8)).toNat 64 = 56 from by unfold wrap64; rfl]
        unfold wrapB wrap64
        simp only [true_and, Int.reducePow, Int.reduceToNat]
        congr 1
        split <;> omega
      · rw [if_pos (by unfold wrap64; decide)]
        show some (IntKind.i64.wrap (n * 2 ^ min (wrap64 (64 - 16)).toNat 64) / 2 ^ min (wrap64 (64 - 16)).toNat 64) = _
        rw [wrap_eq, show min (wrap64 (64 - 16)).toNat 64 = 48 from by unfold wrap64; rfl]
        unfold wrapB wrap64
        simp only [true_and, Int.reducePow, Int.reduceToNat]
        congr 1
        split <;> omega
      · rw [if_pos (by unfold wrap64; decide)]
        show some (IntKind.i64.wrap (n * 2 ^ min (wrap64 (64 - 32)).toNat 64) / 2 ^ min (wrap64 (64 - 32)).toNat 64) = _
        rw [wrap_eq, show min (wrap64 (64 - 32)).toNat 64 = 32 from by unfold wrap64; rfl]
        unfold wrapB wrap64
        simp only [true_and, Int.reducePow, Int.reduceToNat]
        congr 1
        split <;> omega
  unfold word_Wrap.f
  by_cases h8 : bits = 8
  · rw [if_pos h8, if_pos (.inl h8)]; exact go (.inl h8)
  by_cases h16 : bits = 16
  · rw [if_neg h8, if_pos h16, if_pos (.inr (.inl h16))]; exact go (.inr (.inl h16))
  by_cases h32 : bits = 32
  · rw [if_neg h8, if_neg h16, if_pos (.inr (.inr h32))]
    have e : (bits != 32) = false := by simp [h32]
    rw [e]; exact go (.inr (.inr h32))
  · rw [if_neg h8, if_neg h16, if_neg (by omega)]
    have e : (bits != 32) = true := by simp [h32]
    rw [e]; simp [word_Wrap.j0]
theorem WordWraps : swagelaw01_WordWraps.Pure := by
  intro n bits s op wn _ _
  obtain ⟨l, u⟩ := bounds wn
  refine ⟨50, ?_⟩
  unfold swagelaw01_WordWraps.f word_Fits.f
  obtain ⟨t, ht⟩ := turned_some op
  obtain ⟨f, hf⟩ := fold_some op
  rw [small_more 45, turned_eq, ht, fold_eq 49, hf, prog_wrap 49 n bits s l u, ref_wrap 10]
  simp
end Go.Proofs.Ytkjdhmelfkndaaa.Pure
