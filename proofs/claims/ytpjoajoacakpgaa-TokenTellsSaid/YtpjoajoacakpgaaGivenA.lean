/- Contracts, walked by hand, of the small functions of package token: which bytes are letters, digits, blanks; where a row of such bytes ends; where the next token begins. No condition but that the place lies within the text. -/
import Derived.Test.YtpjoajoacakpgaaProg
import Derived.Below
import Derived.Deep.Draws
import Derived.WalkKit
import Derived.WalkSpells
import Derived.KernelRfl
import Derived.Deep.LoopGhost
import Derived.Deep.QuietTactic
import Derived.BigQuiet
import Derived.RowKit
import Derived.Lib.Strings
import Derived.Lib.IndexBytes
import Derived.Test.YtpjoajoacakpgaaWMore
set_option linter.unusedVariables false
set_option linter.unusedSimpArgs false
namespace Go.Proofs.Ytpjoajoacakpgaa.Given
open Go.RowKit Go.Proofs.YtpjoajoacakpgaaW.PrintWords Go.Proofs.YtpjoajoacakpgaaW.PrintLast Go.Proofs.YtpjoajoacakpgaaW.PrintMore
def letB (c : UInt8) : Bool := decide (97 ≤ (c.toNat : Int) ∧ (c.toNat : Int) ≤ 122 ∨ 65 ≤ (c.toNat : Int) ∧ (c.toNat : Int) ≤ 90 ∨ (c.toNat : Int) = 95)
def digB (c : UInt8) : Bool := decide (48 ≤ (c.toNat : Int) ∧ (c.toNat : Int) ≤ 57)
def worB (c : UInt8) : Bool := letB c || digB c
def blaB (c : UInt8) : Bool := decide ((c.toNat : Int) = 32 ∨ (c.toNat : Int) = 9 ∨ (c.toNat : Int) = 10 ∨ (c.toNat : Int) = 13)
def notLF (c : UInt8) : Bool := decide ((c.toNat : Int) ≠ 10)
theorem ret_bool {a b : Bool} (h : a = b) : Ending.returned (.bool a) = .returned (.bool b) := by rw [h]
theorem ret_int {k : IntKind} {a b : Int} (h : a = b) : Ending.returned (.int k a) = .returned (.int k b) := by rw [h]

set_option maxHeartbeats 1000000 in
theorem letter_any (c : UInt8) (w : World) : Calls Try.prog 27 #[.int .u8 c.toNat] w fun e w' => e = .returned (.bool (letB c)) ∧ w = w' := by
  generalize hn : (c.toNat : Int) = n
  have hc : letB c = decide (97 ≤ n ∧ n ≤ 122 ∨ 65 ≤ n ∧ n ≤ 90 ∨ n = 95) := by rw [← hn]; rfl
  rw [hc]
  clear hc hn
  go_enter Try.func27, Try.ntmps27
  go_wp2
  all_goals
    go_ret
    exact ⟨ret_bool (by first | rfl | (simp; done) | (simp; omega) | (rw [Bool.eq_iff_iff]; simp; done) | (rw [Bool.eq_iff_iff]; simp; omega)), rfl⟩

set_option maxHeartbeats 1000000 in
theorem digit_any (c : UInt8) (w : World) : Calls Try.prog 26 #[.int .u8 c.toNat] w fun e w' => e = .returned (.bool (digB c)) ∧ w = w' := by
  generalize hn : (c.toNat : Int) = n
  have hc : digB c = decide (48 ≤ n ∧ n ≤ 57) := by rw [← hn]; rfl
  rw [hc]
  clear hc hn
  go_enter Try.func26, Try.ntmps26
  go_wp2
  all_goals
    go_ret
    exact ⟨ret_bool (by first | rfl | (simp; done) | (simp; omega) | (rw [Bool.eq_iff_iff]; simp; done) | (rw [Bool.eq_iff_iff]; simp; omega)), rfl⟩

set_option maxHeartbeats 1000000 in
theorem blank_any (c : UInt8) (w : World) : Calls Try.prog 38 #[.int .u8 c.toNat] w fun e w' => e = .returned (.bool (blaB c)) ∧ w = w' := by
  generalize hn : (c.toNat : Int) = n
  have hc : blaB c = decide (n = 32 ∨ n = 9 ∨ n = 10 ∨ n = 13) := by rw [← hn]; rfl
  rw [hc]
  clear hc hn
  go_enter Try.func38, Try.ntmps38
  go_wp2
  all_goals
    go_ret
    exact ⟨ret_bool (by first | rfl | (simp; done) | (simp; omega) | (rw [Bool.eq_iff_iff]; simp; done) | (rw [Bool.eq_iff_iff]; simp; omega)), rfl⟩

set_option maxHeartbeats 1000000 in
theorem notlf_any (c : UInt8) (w : World) : Calls Try.prog 40 #[.int .u8 c.toNat] w fun e w' => e = .returned (.bool (notLF c)) ∧ w = w' := by
  generalize hn : (c.toNat : Int) = n
  have hc : notLF c = decide (n ≠ 10) := by rw [← hn]; rfl
  rw [hc]
  clear hc hn
  go_enter Try.func40, Try.ntmps40
  go_wp2
  all_goals
    go_ret
    exact ⟨ret_bool (by first | rfl | (simp; done) | (simp; omega) | (rw [Bool.eq_iff_iff]; simp; done) | (rw [Bool.eq_iff_iff]; simp; omega)), rfl⟩

theorem word_any (c : UInt8) (w : World) : Calls Try.prog 29 #[.int .u8 c.toNat] w fun e w' => e = .returned (.bool (worB c)) ∧ w = w' := by
  cases hl : letB c
  · have h1 : ∀ w, Calls Try.prog 27 #[.int .u8 c.toNat] w fun e w' => e = .returned (.bool false) ∧ w = w' := fun w => hl ▸ letter_any c w
    have hw : worB c = digB c := by simp [worB, hl]
    rw [hw]
    clear hw hl
    go_enter Try.func29, Try.ntmps29
    go_wp2_with (first | (go_at_call 27; refine (h1 _).mono ?_; rintro e w' ⟨rfl, rfl⟩) | (go_at_call 26; refine (digit_any _ _).mono ?_; rintro e w' ⟨rfl, rfl⟩))
    go_ret
    exact ⟨rfl, rfl⟩
  · have h1 : ∀ w, Calls Try.prog 27 #[.int .u8 c.toNat] w fun e w' => e = .returned (.bool true) ∧ w = w' := fun w => hl ▸ letter_any c w
    have hw : worB c = true := by simp [worB, hl]
    rw [hw]
    clear hw hl
    go_enter Try.func29, Try.ntmps29
    go_wp2_with (first | (go_at_call 27; refine (h1 _).mono ?_; rintro e w' ⟨rfl, rfl⟩) | (go_at_call 26; refine (digit_any _ _).mono ?_; rintro e w' ⟨rfl, rfl⟩))
    go_ret
    exact ⟨rfl, rfl⟩
/-- Where a row of bytes ends that begins at i. -/
def runTo (p : UInt8 → Bool) (s : ByteArray) (i : Nat) : Nat := i + ((s.data.toList.drop i).takeWhile p).length
theorem drop_at (s : ByteArray) (i : Nat) (h : i < s.size) : s.data.toList.drop i = s[i] :: s.data.toList.drop (i + 1) := by
  exact List.drop_eq_getElem_cons (by simpa using h)
theorem drop_end (s : ByteArray) (i : Nat) (h : s.size ≤ i) : s.data.toList.drop i = [] := List.drop_eq_nil_of_le (by simpa using h)
theorem runTo_end (p : UInt8 → Bool) (s : ByteArray) (i : Nat) (h : s.size ≤ i) : runTo p s i = i := by simp [runTo, drop_end s i h]
theorem runTo_no (p : UInt8 → Bool) (s : ByteArray) (i : Nat) (h : i < s.size) (hp : p s[i] = false) : runTo p s i = i := by simp [runTo, drop_at s i h, hp]
theorem runTo_yes (p : UInt8 → Bool) (s : ByteArray) (i : Nat) (h : i < s.size) (hp : p s[i] = true) : runTo p s i = runTo p s (i + 1) := by simp [runTo, drop_at s i h, hp]; try omega
theorem runTo_le (p : UInt8 → Bool) (s : ByteArray) (i : Nat) (h : i ≤ s.size) : runTo p s i ≤ s.size := by
  have h1 := (List.takeWhile_prefix (l := s.data.toList.drop i) p).length_le
  have h2 : (s.data.toList.drop i).length = s.size - i := by simp
  unfold runTo; omega
theorem runTo_ge (p : UInt8 → Bool) (s : ByteArray) (i : Nat) : i ≤ runTo p s i := by unfold runTo; omega
theorem runTo_drop (p : UInt8 → Bool) (s : ByteArray) (i : Nat) : s.data.toList.drop (runTo p s i) = (s.data.toList.drop i).dropWhile p := by
  rw [runTo, ← List.drop_drop]
  generalize s.data.toList.drop i = l
  induction l with
  | nil => rfl
  | cons c l ih => by_cases h : p c = true <;> simp [h, ih]

set_option maxHeartbeats 1000000 in
theorem run_word (s : ByteArray) (hs : s.size ≤ 140737488351232) (i : Nat) (hi : i ≤ s.size) (w : World) : Calls Try.prog 28 #[.string s, .int .i64 i, .func (.func 29) #[] #[]] w fun e w' => e = .returned (.int .i64 (runTo worB s i : Nat)) ∧ w = w' := by
  go_enter Try.func28, Try.ntmps28
  go_wp2
  go_loop [1] (fun v => ∃ k : Nat, k ≤ s.size ∧ v = .int .i64 k ∧ Aside0 (runTo worB s k = runTo worB s i)) (fun v => s.size - (intOf v).toNat)
  case atStart => exact ⟨i, hi, rfl, ⟨rfl⟩⟩
  case round =>
    obtain ⟨k, hk, rfl, HR⟩ := hrel
    by_cases hlt : k < s.size
    · cases hp : worB s[k]
      · have h1 : ∀ w, Calls Try.prog 29 #[.int .u8 (s[k].toNat : Int)] w fun e w' => e = .returned (.bool false) ∧ w = w' := fun w => hp ▸ word_any s[k] w
        have HE := Aside0.mk ((runTo_no worB s k hlt hp).symm.trans HR.out)
        clear HR hp
        go_wp2_with (go_at_call 29; refine (h1 _).mono ?_; rintro e w' ⟨rfl, rfl⟩)
        go_ret
        exact ⟨ret_int (by rw [← HE.out]), rfl⟩
      · have h1 : ∀ w, Calls Try.prog 29 #[.int .u8 (s[k].toNat : Int)] w fun e w' => e = .returned (.bool true) ∧ w = w' := fun w => hp ▸ word_any s[k] w
        have HE := Aside0.mk ((runTo_yes worB s k hlt hp).symm.trans HR.out)
        clear HR hp
        go_wp2_with (go_at_call 29; refine (h1 _).mono ?_; rintro e w' ⟨rfl, rfl⟩)
        go_round
        case rel => exact ⟨k + 1, by omega, by go_num, HE⟩
        case measure => simp [intOf]; omega
    · have HE := Aside0.mk ((runTo_end worB s k (by omega)).symm.trans HR.out)
      clear HR
      go_wp2
      go_ret
      exact ⟨ret_int (by rw [← HE.out]), rfl⟩

set_option maxHeartbeats 1000000 in
theorem run_digit (s : ByteArray) (hs : s.size ≤ 140737488351232) (i : Nat) (hi : i ≤ s.size) (w : World) : Calls Try.prog 28 #[.string s, .int .i64 i, .func (.func 26) #[] #[]] w fun e w' => e = .returned (.int .i64 (runTo digB s i : Nat)) ∧ w = w' := by
  go_enter Try.func28, Try.ntmps28
  go_wp2
  go_loop [1] (fun v => ∃ k : Nat, k ≤ s.size ∧ v = .int .i64 k ∧ Aside0 (runTo digB s k = runTo digB s i)) (fun v => s.size - (intOf v).toNat)
  case atStart => exact ⟨i, hi, rfl, ⟨rfl⟩⟩
  case round =>
    obtain ⟨k, hk, rfl, HR⟩ := hrel
    by_cases hlt : k < s.size
    · cases hp : digB s[k]
      · have h1 : ∀ w, Calls Try.prog 26 #[.int .u8 (s[k].toNat : Int)] w fun e w' => e = .returned (.bool false) ∧ w = w' := fun w => hp ▸ digit_any s[k] w
        have HE := Aside0.mk ((runTo_no digB s k hlt hp).symm.trans HR.out)
        clear HR hp
        go_wp2_with (go_at_call 26; refine (h1 _).mono ?_; rintro e w' ⟨rfl, rfl⟩)
        go_ret
        exact ⟨ret_int (by rw [← HE.out]), rfl⟩
      · have h1 : ∀ w, Calls Try.prog 26 #[.int .u8 (s[k].toNat : Int)] w fun e w' => e = .returned (.bool true) ∧ w = w' := fun w => hp ▸ digit_any s[k] w
        have HE := Aside0.mk ((runTo_yes digB s k hlt hp).symm.trans HR.out)
        clear HR hp
        go_wp2_with (go_at_call 26; refine (h1 _).mono ?_; rintro e w' ⟨rfl, rfl⟩)
        go_round
        case rel => exact ⟨k + 1, by omega, by go_num, HE⟩
        case measure => simp [intOf]; omega
    · have HE := Aside0.mk ((runTo_end digB s k (by omega)).symm.trans HR.out)
      clear HR
      go_wp2
      go_ret
      exact ⟨ret_int (by rw [← HE.out]), rfl⟩

set_option maxHeartbeats 1000000 in
theorem run_blank (s : ByteArray) (hs : s.size ≤ 140737488351232) (i : Nat) (hi : i ≤ s.size) (w : World) : Calls Try.prog 28 #[.string s, .int .i64 i, .func (.func 38) #[] #[]] w fun e w' => e = .returned (.int .i64 (runTo blaB s i : Nat)) ∧ w = w' := by
  go_enter Try.func28, Try.ntmps28
  go_wp2
  go_loop [1] (fun v => ∃ k : Nat, k ≤ s.size ∧ v = .int .i64 k ∧ Aside0 (runTo blaB s k = runTo blaB s i)) (fun v => s.size - (intOf v).toNat)
  case atStart => exact ⟨i, hi, rfl, ⟨rfl⟩⟩
  case round =>
    obtain ⟨k, hk, rfl, HR⟩ := hrel
    by_cases hlt : k < s.size
    · cases hp : blaB s[k]
      · have h1 : ∀ w, Calls Try.prog 38 #[.int .u8 (s[k].toNat : Int)] w fun e w' => e = .returned (.bool false) ∧ w = w' := fun w => hp ▸ blank_any s[k] w
        have HE := Aside0.mk ((runTo_no blaB s k hlt hp).symm.trans HR.out)
        clear HR hp
        go_wp2_with (go_at_call 38; refine (h1 _).mono ?_; rintro e w' ⟨rfl, rfl⟩)
        go_ret
        exact ⟨ret_int (by rw [← HE.out]), rfl⟩
      · have h1 : ∀ w, Calls Try.prog 38 #[.int .u8 (s[k].toNat : Int)] w fun e w' => e = .returned (.bool true) ∧ w = w' := fun w => hp ▸ blank_any s[k] w
        have HE := Aside0.mk ((runTo_yes blaB s k hlt hp).symm.trans HR.out)
        clear HR hp
        go_wp2_with (go_at_call 38; refine (h1 _).mono ?_; rintro e w' ⟨rfl, rfl⟩)
        go_round
        case rel => exact ⟨k + 1, by omega, by go_num, HE⟩
        case measure => simp [intOf]; omega
    · have HE := Aside0.mk ((runTo_end blaB s k (by omega)).symm.trans HR.out)
      clear HR
      go_wp2
      go_ret
      exact ⟨ret_int (by rw [← HE.out]), rfl⟩

set_option maxHeartbeats 1000000 in
theorem run_notlf (s : ByteArray) (hs : s.size ≤ 140737488351232) (i : Nat) (hi : i ≤ s.size) (w : World) : Calls Try.prog 28 #[.string s, .int .i64 i, .func (.func 40) #[] #[]] w fun e w' => e = .returned (.int .i64 (runTo notLF s i : Nat)) ∧ w = w' := by
  go_enter Try.func28, Try.ntmps28
  go_wp2
  go_loop [1] (fun v => ∃ k : Nat, k ≤ s.size ∧ v = .int .i64 k ∧ Aside0 (runTo notLF s k = runTo notLF s i)) (fun v => s.size - (intOf v).toNat)
  case atStart => exact ⟨i, hi, rfl, ⟨rfl⟩⟩
  case round =>
    obtain ⟨k, hk, rfl, HR⟩ := hrel
    by_cases hlt : k < s.size
    · cases hp : notLF s[k]
      · have h1 : ∀ w, Calls Try.prog 40 #[.int .u8 (s[k].toNat : Int)] w fun e w' => e = .returned (.bool false) ∧ w = w' := fun w => hp ▸ notlf_any s[k] w
        have HE := Aside0.mk ((runTo_no notLF s k hlt hp).symm.trans HR.out)
        clear HR hp
        go_wp2_with (go_at_call 40; refine (h1 _).mono ?_; rintro e w' ⟨rfl, rfl⟩)
        go_ret
        exact ⟨ret_int (by rw [← HE.out]), rfl⟩
      · have h1 : ∀ w, Calls Try.prog 40 #[.int .u8 (s[k].toNat : Int)] w fun e w' => e = .returned (.bool true) ∧ w = w' := fun w => hp ▸ notlf_any s[k] w
        have HE := Aside0.mk ((runTo_yes notLF s k hlt hp).symm.trans HR.out)
        clear HR hp
        go_wp2_with (go_at_call 40; refine (h1 _).mono ?_; rintro e w' ⟨rfl, rfl⟩)
        go_round
        case rel => exact ⟨k + 1, by omega, by go_num, HE⟩
        case measure => simp [intOf]; omega
    · have HE := Aside0.mk ((runTo_end notLF s k (by omega)).symm.trans HR.out)
      clear HR
      go_wp2
      go_ret
      exact ⟨ret_int (by rw [← HE.out]), rfl⟩

def isSS : List UInt8 → Bool
  | a :: b :: _ => a == 47 && b == 47
  | _ => false
theorem isSS_cons {l : List UInt8} (h : isSS l = true) : ∃ r, l = 47 :: 47 :: r := by
  match l, h with
  | a :: b :: r, h =>
    simp only [isSS, Bool.and_eq_true, beq_iff_eq] at h
    exact ⟨r, by rw [h.1, h.2]⟩
theorem ss_shorter {l : List UInt8} (h : isSS l = true) : (l.dropWhile notLF).length < l.length := by
  obtain ⟨r, rfl⟩ := isSS_cons h
  have h1 : notLF 47 = true := by decide
  have h2 := (List.dropWhile_suffix (l := r) notLF).length_le
  simp only [List.dropWhile_cons, h1, if_true, List.length_cons]
  omega
/-- What is left where the next token begins. -/
def skipL (l : List UInt8) : List UInt8 :=
  if h : isSS (l.dropWhile blaB) = true then skipL ((l.dropWhile blaB).dropWhile notLF) else l.dropWhile blaB
termination_by l.length
decreasing_by
  have h1 := ss_shorter h
  have h2 := (List.dropWhile_suffix (l := l) blaB).length_le
  omega
def skipTo (s : ByteArray) (i : Nat) : Nat := s.size - (skipL (s.data.toList.drop i)).length
theorem isSS_two (s : ByteArray) (h : 2 ≤ s.size) : isSS s.data.toList = ((s.extract 0 2).toList == [47, 47]) := by
  obtain ⟨tl, htl⟩ := Lib.two_bytes s h
  rw [ByteArray.toList_eq, Lib.extract_data, htl]
  simp [isSS]
theorem isSS_short (s : ByteArray) (h : s.size < 2) : isSS s.data.toList = false := by
  have : s.data.toList.length < 2 := by simpa using h
  match hl : s.data.toList, this with
  | [], _ => rfl
  | [_], _ => rfl
  | _ :: _ :: _, h => exact absurd h (by simp)
set_option maxHeartbeats 1000000 in
theorem prefix43_any (s : ByteArray) (w : World) (hs : s.size ≤ 140737488351232) : Calls Try.prog 43 #[.string s, .string ⟨#[47, 47]⟩] w fun e w' => e = .returned (.bool (isSS s.data.toList)) ∧ w = w' := by
  by_cases h2 : 2 ≤ s.size
  · rw [isSS_two s h2]
    generalize hb : ((s.extract 0 2).toList == [47, 47]) = b
    cases b
    · go_enter Try.func43, Try.ntmps43
      go_wp2
      go_ret
      exact ⟨rfl, rfl⟩
    · go_enter Try.func43, Try.ntmps43
      go_wp2
      go_ret
      exact ⟨rfl, rfl⟩
  · rw [isSS_short s (by omega)]
    go_enter Try.func43, Try.ntmps43
    go_wp2
    go_ret
    exact ⟨rfl, rfl⟩
theorem prefix_any (s : ByteArray) (w : World) (hs : s.size ≤ 140737488351232) : Calls Try.prog 39 #[.string s, .string ⟨#[47, 47]⟩] w fun e w' => e = .returned (.bool (isSS s.data.toList)) ∧ w = w' := by
  go_enter Try.func39, Try.ntmps39
  go_wp2_with (go_at_call 43; refine (prefix43_any _ _ hs).mono ?_; rintro e w' ⟨rfl, rfl⟩)
  go_ret
  exact ⟨rfl, rfl⟩
theorem skipTo_eq (s : ByteArray) (k : Nat) (h : isSS (s.data.toList.drop (runTo blaB s k)) = false) (hk : k ≤ s.size) : skipTo s k = runTo blaB s k := by
  have h1 := runTo_le blaB s k hk
  have h2 : (s.data.toList.drop (runTo blaB s k)).length = s.size - runTo blaB s k := by simp
  rw [skipTo, skipL, dif_neg (by rw [← runTo_drop, h]; decide), ← runTo_drop, h2]
  omega
theorem skipL_go (s : ByteArray) (k : Nat) (h : isSS (s.data.toList.drop (runTo blaB s k)) = true) : skipL (s.data.toList.drop k) = skipL (s.data.toList.drop (runTo notLF s (runTo blaB s k))) := by
  rw [runTo_drop, runTo_drop] at *
  rw [skipL, dif_pos h]
theorem runTo_ss (s : ByteArray) (i : Nat) (h : isSS (s.data.toList.drop i) = true) : i + 1 ≤ runTo notLF s i := by
  obtain ⟨r, hr⟩ := isSS_cons h
  have h1 : notLF 47 = true := by decide
  rw [runTo, hr]
  simp [h1]
theorem piece (s : ByteArray) (i : Nat) : (s.extract i s.size).data.toList = s.data.toList.drop i := Lib.extract_to_end s i
set_option maxHeartbeats 2000000 in
theorem skip_any (s : ByteArray) (hs : s.size ≤ 140737488351232) (i : Nat) (hi : i ≤ s.size) (w : World) : Calls Try.prog 33 #[.string s, .int .i64 i] w fun e w' => e = .returned (.int .i64 (skipTo s i : Nat)) ∧ w = w' := by
  go_enter Try.func33, Try.ntmps33
  go_wp2
  go_loop [1] (fun v => ∃ k : Nat, k ≤ s.size ∧ v = .int .i64 k ∧ Aside0 (skipL (s.data.toList.drop k) = skipL (s.data.toList.drop i))) (fun v => s.size - (intOf v).toNat)
  case atStart => exact ⟨i, hi, rfl, ⟨rfl⟩⟩
  case round =>
    obtain ⟨k, hk, rfl, HR⟩ := hrel
    have h1 : runTo blaB s k ≤ s.size := runTo_le blaB s k hk
    have hk1 : k ≤ runTo blaB s k := runTo_ge blaB s k
    have hz : (s.extract (runTo blaB s k) s.size).size ≤ 140737488351232 := by
      have : (s.extract (runTo blaB s k) s.size).size ≤ s.size := by simp
      omega
    have hP : ∀ w, Calls Try.prog 39 #[.string (s.extract (runTo blaB s k) s.size), .string ⟨#[47, 47]⟩] w fun e w' => e = .returned (.bool (isSS (s.data.toList.drop (runTo blaB s k)))) ∧ w = w' := fun w => by
      rw [← piece]; exact prefix_any _ w hz
    clear hz
    have hB := fun w => run_blank s hs k hk w
    cases hp : isSS (s.data.toList.drop (runTo blaB s k))
    · rw [hp] at hP
      have HE : Aside0 (skipTo s i = runTo blaB s k) := ⟨by
        have := skipTo_eq s k hp hk
        rw [skipTo, HR.out] at this
        exact this⟩
      clear HR hp
      generalize runTo blaB s k = k1 at *
      go_wp2_with (first | (go_at_call 28; refine (hB _).mono ?_; rintro e w' ⟨rfl, rfl⟩) | (go_at_call 39; refine (hP _).mono ?_; rintro e w' ⟨rfl, rfl⟩))
      go_ret
      exact ⟨ret_int (by rw [← HE.out]), rfl⟩
    · rw [hp] at hP
      have HE := Aside0.mk ((skipL_go s k hp).symm.trans HR.out)
      have h2 : runTo notLF s (runTo blaB s k) ≤ s.size := runTo_le notLF s _ h1
      have h3 : runTo blaB s k + 1 ≤ runTo notLF s (runTo blaB s k) := runTo_ss s _ hp
      clear HR hp
      have hN := fun w => run_notlf s hs (runTo blaB s k) h1 w
      generalize runTo notLF s (runTo blaB s k) = k2 at *
      generalize runTo blaB s k = k1 at *
      go_wp2_with (first | (go_at_call 28; refine (hB _).mono ?_; rintro e w' ⟨rfl, rfl⟩; clear hB) | (go_at_call 39; refine (hP _).mono ?_; rintro e w' ⟨rfl, rfl⟩) | (go_at_call 28; refine (hN _).mono ?_; rintro e w' ⟨rfl, rfl⟩))
      go_round
      case rel => exact ⟨k2, h2, rfl, HE⟩
      case measure => simp [intOf]; omega

end Go.Proofs.Ytpjoajoacakpgaa.Given
