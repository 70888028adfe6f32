/- Contracts, walked by hand, of token.Name and of the cut of one token. No condition but that the place lies within the text. -/
import Derived.Test.YtpjoajoacakpgaaGivenB
import Derived.LoopN
set_option linter.unusedVariables false
set_option linter.unusedSimpArgs false
namespace Go.Proofs.Ytpjoajoacakpgaa.Given
open Go.RowKit Go.Proofs.YtpjoajoacakpgaaW.PrintWords Go.Proofs.YtpjoajoacakpgaaW.PrintLast Go.Proofs.YtpjoajoacakpgaaW.PrintMore
def nameL : List UInt8 → Bool
  | [] => false
  | c :: r => letB c && decide (((c :: r).takeWhile worB).length = (c :: r).length)
theorem nameL_eq (s : ByteArray) (h : 0 < s.size) : nameL s.data.toList = (letB s[0] && decide (runTo worB s 0 = s.size)) := by
  have h2 := drop_at s 0 h
  rw [List.drop_zero] at h2
  have h3 : s.data.toList.length = s.size := data_length s
  rw [runTo, List.drop_zero, Nat.zero_add, ← h3, h2]
  rfl
set_option maxHeartbeats 2000000 in
theorem name_any (s : ByteArray) (w : World) (hs : s.size ≤ 140737488351232) : Calls Try.prog 15 #[.string s] w fun e w' => e = .returned (.bool (nameL s.data.toList)) ∧ w = w' := by
  by_cases h0 : s.size = 0
  · have e2 : s.toList = [] := (empty_iff s).2 h0
    have hl : nameL s.data.toList = false := by rw [← ByteArray.toList_eq, e2]; rfl
    rw [hl]
    have e1 : s.toList.isEmpty = true := by rw [e2]; rfl
    clear h0 hl
    go_enter Try.func15, Try.ntmps15
    go_wp2
    go_ret
    exact ⟨rfl, rfl⟩
  · have hp : 0 < s.size := by omega
    rw [nameL_eq s hp]
    have e1 : s.toList.isEmpty = false := by
      rw [List.isEmpty_eq_false_iff]
      intro h; rw [empty_iff] at h; omega
    have e2 : ¬ (s.toList = []) := by rw [empty_iff]; omega
    have e3 : (s.toList == []) = false := by simpa using e2
    have hR := fun w => run_word s hs 0 (by omega) w
    clear h0
    cases hl : letB s[0]
    · have h1 : ∀ w, Calls Try.prog 27 #[.int .u8 (s[0].toNat : Int)] w fun e w' => e = .returned (.bool false) ∧ w = w' := fun w => hl ▸ letter_any s[0] w
      clear hl
      go_enter Try.func15, Try.ntmps15
      go_wp2_with (first | (go_at_call 27; refine (h1 _).mono ?_; rintro e w' ⟨rfl, rfl⟩) | (go_at_call 28; refine (hR _).mono ?_; rintro e w' ⟨rfl, rfl⟩))
      go_ret
      exact ⟨rfl, rfl⟩
    · have h1 : ∀ w, Calls Try.prog 27 #[.int .u8 (s[0].toNat : Int)] w fun e w' => e = .returned (.bool true) ∧ w = w' := fun w => hl ▸ letter_any s[0] w
      clear hl
      generalize runTo worB s 0 = k at *
      by_cases hk : k = s.size
      · have hd : decide (k = s.size) = true := by simpa using hk
        rw [hd]
        have hd2 : ((k : Int) == (s.size : Int)) = true := by simp [hk]
        have hd3 : (k == s.size) = true := by simp [hk]
        clear hk hd
        go_enter Try.func15, Try.ntmps15
        go_wp2_with (first | (go_at_call 27; refine (h1 _).mono ?_; rintro e w' ⟨rfl, rfl⟩) | (go_at_call 28; refine (hR _).mono ?_; rintro e w' ⟨rfl, rfl⟩))
        go_ret
        exact ⟨ret_bool (by simp_all), rfl⟩
      · have hd : decide (k = s.size) = false := by simpa using hk
        rw [hd]
        have hd2 : ((k : Int) == (s.size : Int)) = false := by simp; omega
        have hd3 : (k == s.size) = false := by simp [hk]
        clear hk hd
        go_enter Try.func15, Try.ntmps15
        go_wp2_with (first | (go_at_call 27; refine (h1 _).mono ?_; rintro e w' ⟨rfl, rfl⟩) | (go_at_call 28; refine (hR _).mono ?_; rintro e w' ⟨rfl, rfl⟩))
        go_ret
        exact ⟨ret_bool (by simp_all), rfl⟩
/-- Does a letter stand first? -/
def headLet : List UInt8 → Bool
  | [] => false
  | c :: _ => letB c
/-- How long the first token is, and its kind; 0: there is none. -/
def cutL : List UInt8 → Nat × Int
  | [] => (0, 0)
  | c :: r =>
    if letB c = true then (((c :: r).takeWhile worB).length, 1)
    else if digB c = true then
      (if (numL ((c :: r).takeWhile digB)).2 = true ∧ headLet ((c :: r).dropWhile digB) = false then (((c :: r).takeWhile digB).length, 2) else (0, 0))
    else if 2 ≤ (c :: r).length ∧ signL ((c :: r).take 2) = true then (2, 3)
    else if signL [c] = true then (1, 3) else (0, 0)
def CutPost (s : ByteArray) (k : Nat) (w : World) (e : Ending) (w' : World) : Prop := e = .returned (.tuple #[.int .i64 ((k + (cutL (s.data.toList.drop k)).1 : Nat) : Int), .int .i64 (cutL (s.data.toList.drop k)).2]) ∧ w = w'
theorem cutPost {s : ByteArray} {k : Nat} {w : World} (n : Nat) (e : Int) {m : Int} (h : cutL (s.data.toList.drop k) = (n, e)) (hm : m = ((k + n : Nat) : Int)) : CutPost s k w (.returned (.tuple #[.int .i64 m, .int .i64 e])) w := ⟨by rw [h, hm], rfl⟩
theorem cut_letter {s : ByteArray} {k : Nat} (h : k < s.size) (hl : letB s[k] = true) : cutL (s.data.toList.drop k) = (((s.data.toList.drop k).takeWhile worB).length, 1) := by
  rw [drop_at s k h, cutL, if_pos hl]
theorem sub_take (s : ByteArray) (k m : Nat) : (s.extract k (k + m)).data.toList = (s.data.toList.drop k).take m := by
  rw [Lib.extract_data, Nat.add_sub_cancel_left]
theorem takeWhile_take {α : Type} (p : α → Bool) (l : List α) : l.take (l.takeWhile p).length = l.takeWhile p := by
  have := List.takeWhile_prefix (l := l) p
  exact (List.prefix_iff_eq_take.1 this).symm
theorem sub_run (p : UInt8 → Bool) (s : ByteArray) (k : Nat) : (s.extract k (runTo p s k)).data.toList = (s.data.toList.drop k).takeWhile p := by
  rw [runTo, sub_take, takeWhile_take]
set_option maxHeartbeats 4000000 in
theorem cut_letter_walk (s : ByteArray) (hs : s.size ≤ 140737488351232) (k : Nat) (hk : k < s.size) (w : World) (hl : letB s[k] = true) : Calls Try.prog 34 #[.string s, .int .i64 k] w (CutPost s k w) := by
  have HE := Aside0.mk (cut_letter hk hl)
  have h1 : ∀ w, Calls Try.prog 27 #[.int .u8 (s[k].toNat : Int)] w fun e w' => e = .returned (.bool true) ∧ w = w' := fun w => hl ▸ letter_any s[k] w
  have hR := fun w => run_word s hs k (by omega) w
  clear hl
  go_enter Try.func34, Try.ntmps34
  go_wp2_with (first | (go_at_call 27; refine (h1 _).mono ?_; rintro e w' ⟨rfl, rfl⟩) | (go_at_call 28; refine (hR _).mono ?_; rintro e w' ⟨rfl, rfl⟩))
  go_ret2
  exact cutPost _ _ HE.out rfl
set_option maxHeartbeats 8000000 in
theorem cut_digit_walk (s : ByteArray) (hs : s.size ≤ 140737488351232) (k : Nat) (hk : k < s.size) (w : World) (hl : letB s[k] = false) (hd : digB s[k] = true) : Calls Try.prog 34 #[.string s, .int .i64 k] w (CutPost s k w) := by
  have HC : cutL (s.data.toList.drop k) = if (numL ((s.data.toList.drop k).takeWhile digB)).2 = true ∧ headLet ((s.data.toList.drop k).dropWhile digB) = false then (((s.data.toList.drop k).takeWhile digB).length, 2) else (0, 0) := by
    rw [drop_at s k hk, cutL, if_neg (by simp [hl]), if_pos hd]
  have h1 : ∀ w, Calls Try.prog 27 #[.int .u8 (s[k].toNat : Int)] w fun e w' => e = .returned (.bool false) ∧ w = w' := fun w => hl ▸ letter_any s[k] w
  have h2 : ∀ w, Calls Try.prog 26 #[.int .u8 (s[k].toNat : Int)] w fun e w' => e = .returned (.bool true) ∧ w = w' := fun w => hd ▸ digit_any s[k] w
  have hR := fun w => run_digit s hs k (by omega) w
  have hj1 := runTo_le digB s k (by omega)
  have hj2 := runTo_yes digB s k hk hd
  have hj0 := runTo_ge digB s (k + 1)
  have hz : (s.extract k (runTo digB s k)).size ≤ 140737488351232 := by
    have : (s.extract k (runTo digB s k)).size ≤ s.size := by simp; omega
    omega
  have hN : ∀ w, Calls Try.prog 13 #[.string (s.extract k (runTo digB s k))] w fun e w' => e = .returned (.tuple #[.int .i64 (numL ((s.data.toList.drop k).takeWhile digB)).1, .bool (numL ((s.data.toList.drop k).takeWhile digB)).2]) ∧ w = w' := fun w => by
    rw [← sub_run]; exact number_any _ w hz
  have hD : (s.data.toList.drop k).dropWhile digB = s.data.toList.drop (runTo digB s k) := (runTo_drop digB s k).symm
  have hE : ((s.data.toList.drop k).takeWhile digB).length = runTo digB s k - k := by unfold runTo; omega
  rw [hD, hE] at HC
  generalize hnum : numL ((s.data.toList.drop k).takeWhile digB) = nb at HC hN
  obtain ⟨nv, nb⟩ := nb
  have hkj : k < runTo digB s k := by omega
  clear hl hd hz hj2 hj0 hD hE hnum
  generalize runTo digB s k = j at *
  dsimp only at HC hN
  cases nb
  · have HE := Aside0.mk (show cutL (s.data.toList.drop k) = (0, 0) by rw [HC, if_neg (by simp)])
    clear HC
    go_enter Try.func34, Try.ntmps34
    go_wp2_with (first | (go_at_call 27; refine (h1 _).mono ?_; rintro e w' ⟨rfl, rfl⟩) | (go_at_call 26; refine (h2 _).mono ?_; rintro e w' ⟨rfl, rfl⟩) | (go_at_call 28; refine (hR _).mono ?_; rintro e w' ⟨rfl, rfl⟩) | (go_at_call 13; refine (hN _).mono ?_; rintro e w' ⟨rfl, rfl⟩))
    go_ret2
    exact cutPost _ _ HE.out (by simp)
  · by_cases hj : j < s.size
    · cases hlj : letB s[j]
      · have HE := Aside0.mk (show cutL (s.data.toList.drop k) = (j - k, 2) by rw [HC, if_pos ⟨rfl, by rw [drop_at s j hj]; exact hlj⟩])
        have h3 : ∀ w, Calls Try.prog 27 #[.int .u8 (s[j].toNat : Int)] w fun e w' => e = .returned (.bool false) ∧ w = w' := fun w => hlj ▸ letter_any s[j] w
        clear HC hlj
        go_enter Try.func34, Try.ntmps34
        go_wp2_with (first | (go_at_call 27; refine (h1 _).mono ?_; rintro e w' ⟨rfl, rfl⟩; clear h1) | (go_at_call 26; refine (h2 _).mono ?_; rintro e w' ⟨rfl, rfl⟩) | (go_at_call 28; refine (hR _).mono ?_; rintro e w' ⟨rfl, rfl⟩) | (go_at_call 13; refine (hN _).mono ?_; rintro e w' ⟨rfl, rfl⟩) | (go_at_call 27; refine (h3 _).mono ?_; rintro e w' ⟨rfl, rfl⟩))
        go_ret2
        exact cutPost _ _ HE.out (by omega)
      · have HE := Aside0.mk (show cutL (s.data.toList.drop k) = (0, 0) by rw [HC, if_neg (by rw [drop_at s j hj]; simp [headLet, hlj])])
        have h3 : ∀ w, Calls Try.prog 27 #[.int .u8 (s[j].toNat : Int)] w fun e w' => e = .returned (.bool true) ∧ w = w' := fun w => hlj ▸ letter_any s[j] w
        clear HC hlj
        go_enter Try.func34, Try.ntmps34
        go_wp2_with (first | (go_at_call 27; refine (h1 _).mono ?_; rintro e w' ⟨rfl, rfl⟩; clear h1) | (go_at_call 26; refine (h2 _).mono ?_; rintro e w' ⟨rfl, rfl⟩) | (go_at_call 28; refine (hR _).mono ?_; rintro e w' ⟨rfl, rfl⟩) | (go_at_call 13; refine (hN _).mono ?_; rintro e w' ⟨rfl, rfl⟩) | (go_at_call 27; refine (h3 _).mono ?_; rintro e w' ⟨rfl, rfl⟩))
        go_ret2
        exact cutPost _ _ HE.out (by simp)
    · have HE := Aside0.mk (show cutL (s.data.toList.drop k) = (j - k, 2) by rw [HC, if_pos ⟨rfl, by rw [drop_end s j (by omega)]; rfl⟩])
      clear HC
      go_enter Try.func34, Try.ntmps34
      go_wp2_with (first | (go_at_call 27; refine (h1 _).mono ?_; rintro e w' ⟨rfl, rfl⟩) | (go_at_call 26; refine (h2 _).mono ?_; rintro e w' ⟨rfl, rfl⟩) | (go_at_call 28; refine (hR _).mono ?_; rintro e w' ⟨rfl, rfl⟩) | (go_at_call 13; refine (hN _).mono ?_; rintro e w' ⟨rfl, rfl⟩))
      go_ret2
      exact cutPost _ _ HE.out (by omega)
set_option maxHeartbeats 8000000 in
theorem cut_sign_walk (s : ByteArray) (hs : s.size ≤ 140737488351232) (k : Nat) (hk : k < s.size) (w : World) (hl : letB s[k] = false) (hd : digB s[k] = false) : Calls Try.prog 34 #[.string s, .int .i64 k] w (CutPost s k w) := by
  have h3 : (s.data.toList.drop k).length = s.size - k := by simp
  have HC : cutL (s.data.toList.drop k) = if 2 ≤ s.size - k ∧ signL ((s.data.toList.drop k).take 2) = true then (2, 3) else if signL ((s.data.toList.drop k).take 1) = true then (1, 3) else (0, 0) := by
    rw [← h3, drop_at s k hk, cutL, if_neg (by simp [hl]), if_neg (by simp [hd])]
    rfl
  have h1 : ∀ w, Calls Try.prog 27 #[.int .u8 (s[k].toNat : Int)] w fun e w' => e = .returned (.bool false) ∧ w = w' := fun w => hl ▸ letter_any s[k] w
  have h2 : ∀ w, Calls Try.prog 26 #[.int .u8 (s[k].toNat : Int)] w fun e w' => e = .returned (.bool false) ∧ w = w' := fun w => hd ▸ digit_any s[k] w
  have hS1 : ∀ w, Calls Try.prog 17 #[.string (s.extract k (k + 1))] w fun e w' => e = .returned (.bool (signL ((s.data.toList.drop k).take 1))) ∧ w = w' := fun w => by rw [← sub_take]; exact sign_any _ w
  have hS2 : ∀ w, Calls Try.prog 17 #[.string (s.extract k (k + 2))] w fun e w' => e = .returned (.bool (signL ((s.data.toList.drop k).take 2))) ∧ w = w' := fun w => by rw [← sub_take]; exact sign_any _ w
  clear hl hd h3
  generalize hb1 : signL ((s.data.toList.drop k).take 1) = b1 at HC hS1
  generalize hb2 : signL ((s.data.toList.drop k).take 2) = b2 at HC hS2
  clear hb1 hb2
  by_cases hk2 : k + 2 ≤ s.size
  · have hk3 : 2 ≤ s.size - k := by omega
    cases b2
    · cases b1
      · have HE := Aside0.mk (show cutL (s.data.toList.drop k) = (0, 0) by rw [HC, if_neg (by simp), if_neg (by simp)])
        clear HC hk3
        go_enter Try.func34, Try.ntmps34
        go_wp2_with (first | (go_at_call 27; refine (h1 _).mono ?_; rintro e w' ⟨rfl, rfl⟩) | (go_at_call 26; refine (h2 _).mono ?_; rintro e w' ⟨rfl, rfl⟩) | (go_at_call 17; refine (hS2 _).mono ?_; rintro e w' ⟨rfl, rfl⟩; clear hS2) | (go_at_call 17; refine (hS1 _).mono ?_; rintro e w' ⟨rfl, rfl⟩))
        refine wp_loop_rounds 3 ?_
        rw [rounds_succ]
        go_wp2_with (first | (go_at_call 27; refine (h1 _).mono ?_; rintro e w' ⟨rfl, rfl⟩) | (go_at_call 26; refine (h2 _).mono ?_; rintro e w' ⟨rfl, rfl⟩) | (go_at_call 17; refine (hS2 _).mono ?_; rintro e w' ⟨rfl, rfl⟩; clear hS2) | (go_at_call 17; refine (hS1 _).mono ?_; rintro e w' ⟨rfl, rfl⟩))
        rw [rounds_succ]
        go_wp2_with (first | (go_at_call 27; refine (h1 _).mono ?_; rintro e w' ⟨rfl, rfl⟩) | (go_at_call 26; refine (h2 _).mono ?_; rintro e w' ⟨rfl, rfl⟩) | (go_at_call 17; refine (hS2 _).mono ?_; rintro e w' ⟨rfl, rfl⟩; clear hS2) | (go_at_call 17; refine (hS1 _).mono ?_; rintro e w' ⟨rfl, rfl⟩))
        rw [rounds_succ]
        go_wp2_with (first | (go_at_call 27; refine (h1 _).mono ?_; rintro e w' ⟨rfl, rfl⟩) | (go_at_call 26; refine (h2 _).mono ?_; rintro e w' ⟨rfl, rfl⟩) | (go_at_call 17; refine (hS2 _).mono ?_; rintro e w' ⟨rfl, rfl⟩; clear hS2) | (go_at_call 17; refine (hS1 _).mono ?_; rintro e w' ⟨rfl, rfl⟩))
        go_ret2
        exact cutPost _ _ HE.out (by simp)
      · have HE := Aside0.mk (show cutL (s.data.toList.drop k) = (1, 3) by rw [HC, if_neg (by simp), if_pos rfl])
        clear HC hk3
        go_enter Try.func34, Try.ntmps34
        go_wp2_with (first | (go_at_call 27; refine (h1 _).mono ?_; rintro e w' ⟨rfl, rfl⟩) | (go_at_call 26; refine (h2 _).mono ?_; rintro e w' ⟨rfl, rfl⟩) | (go_at_call 17; refine (hS2 _).mono ?_; rintro e w' ⟨rfl, rfl⟩; clear hS2) | (go_at_call 17; refine (hS1 _).mono ?_; rintro e w' ⟨rfl, rfl⟩))
        refine wp_loop_rounds 2 ?_
        rw [rounds_succ]
        go_wp2_with (first | (go_at_call 27; refine (h1 _).mono ?_; rintro e w' ⟨rfl, rfl⟩) | (go_at_call 26; refine (h2 _).mono ?_; rintro e w' ⟨rfl, rfl⟩) | (go_at_call 17; refine (hS2 _).mono ?_; rintro e w' ⟨rfl, rfl⟩; clear hS2) | (go_at_call 17; refine (hS1 _).mono ?_; rintro e w' ⟨rfl, rfl⟩))
        rw [rounds_succ]
        go_wp2_with (first | (go_at_call 27; refine (h1 _).mono ?_; rintro e w' ⟨rfl, rfl⟩) | (go_at_call 26; refine (h2 _).mono ?_; rintro e w' ⟨rfl, rfl⟩) | (go_at_call 17; refine (hS2 _).mono ?_; rintro e w' ⟨rfl, rfl⟩; clear hS2) | (go_at_call 17; refine (hS1 _).mono ?_; rintro e w' ⟨rfl, rfl⟩))
        go_ret2
        exact cutPost _ _ HE.out (by simp)
    · have HE := Aside0.mk (show cutL (s.data.toList.drop k) = (2, 3) by rw [HC, if_pos ⟨hk3, rfl⟩])
      clear HC hk3
      go_enter Try.func34, Try.ntmps34
      go_wp2_with (first | (go_at_call 27; refine (h1 _).mono ?_; rintro e w' ⟨rfl, rfl⟩) | (go_at_call 26; refine (h2 _).mono ?_; rintro e w' ⟨rfl, rfl⟩) | (go_at_call 17; refine (hS2 _).mono ?_; rintro e w' ⟨rfl, rfl⟩; clear hS2) | (go_at_call 17; refine (hS1 _).mono ?_; rintro e w' ⟨rfl, rfl⟩))
      refine wp_loop_rounds 1 ?_
      rw [rounds_succ]
      go_wp2_with (first | (go_at_call 27; refine (h1 _).mono ?_; rintro e w' ⟨rfl, rfl⟩) | (go_at_call 26; refine (h2 _).mono ?_; rintro e w' ⟨rfl, rfl⟩) | (go_at_call 17; refine (hS2 _).mono ?_; rintro e w' ⟨rfl, rfl⟩; clear hS2) | (go_at_call 17; refine (hS1 _).mono ?_; rintro e w' ⟨rfl, rfl⟩))
      go_ret2
      exact cutPost _ _ HE.out (by simp)
  · have hk4 : k + 1 = s.size := by omega
    have hk3 : ¬ 2 ≤ s.size - k := by omega
    cases b1
    · have HE := Aside0.mk (show cutL (s.data.toList.drop k) = (0, 0) by rw [HC, if_neg (fun h => hk3 h.1), if_neg (by simp)])
      have hk5 : s.size ≤ k + 1 := by omega
      clear HC hk3 hk4 hS2
      go_enter Try.func34, Try.ntmps34
      go_wp2_with (first | (go_at_call 27; refine (h1 _).mono ?_; rintro e w' ⟨rfl, rfl⟩) | (go_at_call 26; refine (h2 _).mono ?_; rintro e w' ⟨rfl, rfl⟩) | (go_at_call 17; refine (hS1 _).mono ?_; rintro e w' ⟨rfl, rfl⟩))
      refine wp_loop_rounds 3 ?_
      rw [rounds_succ]
      go_wp2_with (first | (go_at_call 27; refine (h1 _).mono ?_; rintro e w' ⟨rfl, rfl⟩) | (go_at_call 26; refine (h2 _).mono ?_; rintro e w' ⟨rfl, rfl⟩) | (go_at_call 17; refine (hS1 _).mono ?_; rintro e w' ⟨rfl, rfl⟩))
      rw [rounds_succ]
      go_wp2_with (first | (go_at_call 27; refine (h1 _).mono ?_; rintro e w' ⟨rfl, rfl⟩) | (go_at_call 26; refine (h2 _).mono ?_; rintro e w' ⟨rfl, rfl⟩) | (go_at_call 17; refine (hS1 _).mono ?_; rintro e w' ⟨rfl, rfl⟩))
      rw [rounds_succ]
      go_wp2_with (first | (go_at_call 27; refine (h1 _).mono ?_; rintro e w' ⟨rfl, rfl⟩) | (go_at_call 26; refine (h2 _).mono ?_; rintro e w' ⟨rfl, rfl⟩) | (go_at_call 17; refine (hS1 _).mono ?_; rintro e w' ⟨rfl, rfl⟩))
      go_ret2
      exact cutPost _ _ HE.out (by simp)
    · have HE := Aside0.mk (show cutL (s.data.toList.drop k) = (1, 3) by rw [HC, if_neg (fun h => hk3 h.1), if_pos rfl])
      have hk5 : s.size ≤ k + 1 := by omega
      clear HC hk3 hk4 hS2
      go_enter Try.func34, Try.ntmps34
      go_wp2_with (first | (go_at_call 27; refine (h1 _).mono ?_; rintro e w' ⟨rfl, rfl⟩) | (go_at_call 26; refine (h2 _).mono ?_; rintro e w' ⟨rfl, rfl⟩) | (go_at_call 17; refine (hS1 _).mono ?_; rintro e w' ⟨rfl, rfl⟩))
      refine wp_loop_rounds 2 ?_
      rw [rounds_succ]
      go_wp2_with (first | (go_at_call 27; refine (h1 _).mono ?_; rintro e w' ⟨rfl, rfl⟩) | (go_at_call 26; refine (h2 _).mono ?_; rintro e w' ⟨rfl, rfl⟩) | (go_at_call 17; refine (hS1 _).mono ?_; rintro e w' ⟨rfl, rfl⟩))
      rw [rounds_succ]
      go_wp2_with (first | (go_at_call 27; refine (h1 _).mono ?_; rintro e w' ⟨rfl, rfl⟩) | (go_at_call 26; refine (h2 _).mono ?_; rintro e w' ⟨rfl, rfl⟩) | (go_at_call 17; refine (hS1 _).mono ?_; rintro e w' ⟨rfl, rfl⟩))
      go_ret2
      exact cutPost _ _ HE.out (by simp)
theorem cut_any (s : ByteArray) (hs : s.size ≤ 140737488351232) (k : Nat) (hk : k < s.size) (w : World) : Calls Try.prog 34 #[.string s, .int .i64 k] w (CutPost s k w) := by
  cases hl : letB s[k]
  · cases hd : digB s[k]
    · exact cut_sign_walk s hs k hk w hl hd
    · exact cut_digit_walk s hs k hk w hl hd
  · exact cut_letter_walk s hs k hk w hl
end Go.Proofs.Ytpjoajoacakpgaa.Given
