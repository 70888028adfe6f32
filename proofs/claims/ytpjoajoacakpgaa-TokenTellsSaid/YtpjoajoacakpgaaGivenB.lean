/- Contracts, walked by hand, of token.Number, token.Sign, token.Name and of the cut of one token. No condition but that the place lies within the text. -/
import Derived.Test.YtpjoajoacakpgaaGivenA
set_option linter.unusedVariables false
set_option linter.unusedSimpArgs false
namespace Go.Proofs.Ytpjoajoacakpgaa.Given
open Go.RowKit Go.Proofs.YtpjoajoacakpgaaW.PrintWords Go.Proofs.YtpjoajoacakpgaaW.PrintLast Go.Proofs.YtpjoajoacakpgaaW.PrintMore
/-- The number that digits make behind n; none: too great, or no digit. -/
def numGo : List UInt8 → Int → Option Int
  | [], n => some n
  | c :: r, n => if digB c = true ∧ n ≤ (9223372036854775807 - ((c.toNat : Int) - 48)) / 10 then numGo r (10 * n + ((c.toNat : Int) - 48)) else none
def numL (l : List UInt8) : Int × Bool :=
  if l = [] ∨ 1 < l.length ∧ l.head? = some 48 then (0, false) else match numGo l 0 with
    | some n => (n, true)
    | none => (0, false)
theorem empty_iff (s : ByteArray) : s.toList = [] ↔ s.size = 0 := by
  rw [ByteArray.toList_eq, ← List.length_eq_zero_iff, data_length]
theorem numGo_no (s : ByteArray) (k : Nat) (n : Int) (h : k < s.size) (hp : digB s[k] = false) : numGo (s.data.toList.drop k) n = none := by
  rw [drop_at s k h, numGo, if_neg (by simp [hp])]
theorem numGo_big (s : ByteArray) (k : Nat) (n : Int) (h : k < s.size) (hp : ¬ n ≤ (9223372036854775807 - ((s[k].toNat : Int) - 48)) / 10) : numGo (s.data.toList.drop k) n = none := by
  rw [drop_at s k h, numGo, if_neg (fun h => hp h.2)]
theorem numGo_yes (s : ByteArray) (k : Nat) (n : Int) (h : k < s.size) (hp : digB s[k] = true) (hn : n ≤ (9223372036854775807 - ((s[k].toNat : Int) - 48)) / 10) : numGo (s.data.toList.drop k) n = numGo (s.data.toList.drop (k + 1)) (10 * n + ((s[k].toNat : Int) - 48)) := by
  rw [drop_at s k h, numGo, if_pos ⟨hp, hn⟩]
theorem digB_iff (c : UInt8) : digB c = true ↔ 48 ≤ (c.toNat : Int) ∧ (c.toNat : Int) ≤ 57 := by simp [digB]
theorem ret_pair {a b : Int} {p q : Bool} (h : (a, p) = (b, q)) : Ending.returned (.tuple #[.int .i64 a, .bool p]) = .returned (.tuple #[.int .i64 b, .bool q]) := by
  injection h with h1 h2
  rw [h1, h2]
/-- What the loop of Number comes to, from its head on. -/
def NumPost (s : ByteArray) (w : World) (e : Ending) (w' : World) : Prop := e = .returned (.tuple #[.int .i64 (numL s.data.toList).1, .bool (numL s.data.toList).2]) ∧ w = w'
theorem numPost_no {s : ByteArray} {w : World} (h : numL s.data.toList = (0, false)) : NumPost s w (.returned (.tuple #[.int .i64 0, .bool false])) w := ⟨ret_pair (by rw [h]), rfl⟩
theorem numPost_yes {s : ByteArray} {w : World} {n : Int} (h : numL s.data.toList = (n, true)) : NumPost s w (.returned (.tuple #[.int .i64 n, .bool true])) w := ⟨ret_pair (by rw [h]), rfl⟩
set_option maxHeartbeats 4000000 in
theorem number_loop (s : ByteArray) (w : World) (hs : s.size ≤ 140737488351232) (h0 : 0 < s.size) (hc : ¬ (1 < s.size ∧ (s[0].toNat : Int) = 48)) :
    Calls Try.prog 13 #[.string s] w (NumPost s w) := by
  have hl : numL s.data.toList = match numGo s.data.toList 0 with
      | some n => (n, true)
      | none => (0, false) := by
    rw [numL, if_neg]
    rintro (h | ⟨h, h'⟩)
    · have : s.data.toList.length = 0 := by rw [h]; rfl
      rw [data_length] at this; omega
    · rw [data_length] at h
      have h2 := drop_at s 0 h0
      rw [List.drop_zero] at h2
      rw [h2] at h'
      simp only [List.head?_cons, Option.some.injEq] at h'
      exact hc ⟨h, by rw [h']; rfl⟩
  have hl := Aside0.mk hl
  have e1 : s.toList.isEmpty = false := by
    rw [List.isEmpty_eq_false_iff]
    intro h; rw [empty_iff] at h; omega
  have e2 : ¬ (s.toList = []) := by rw [empty_iff]; omega
  have e3 : (s.toList == []) = false := by simpa using e2
  have q : (s.size ≤ 1) ∨ (1 < s.size ∧ ((s[0].toNat : Int) == 48) = false) := by
    by_cases h : 1 < s.size
    · right; refine ⟨h, ?_⟩
      simp only [beq_eq_false_iff_ne, ne_eq]; exact fun h' => hc ⟨h, h'⟩
    · left; omega
  clear hc
  rcases q with q | ⟨q, q'⟩
  all_goals
    go_enter Try.func13, Try.ntmps13
    go_wp2
    go_loop [4, 21] (fun v4 v21 => ∃ (k : Nat) (n : Int), k ≤ s.size ∧ v4 = .int .i64 n ∧ v21 = .int .i64 k ∧ 0 ≤ n ∧ n ≤ 9223372036854775807 ∧ Aside0 (numGo (s.data.toList.drop k) n = numGo s.data.toList 0)) (fun _ v => s.size - (intOf v).toNat)
    case atStart => exact ⟨0, 0, by omega, rfl, rfl, by decide, by decide, ⟨by rw [List.drop_zero]⟩⟩
    case round =>
      obtain ⟨k, n, hk, rfl, rfl, hn0, hn1, HR⟩ := hrel
      by_cases hlt : k < s.size
      · cases hp : digB s[k]
        · have h1 : ∀ w, Calls Try.prog 26 #[.int .u8 (s[k].toNat : Int)] w fun e w' => e = .returned (.bool false) ∧ w = w' := fun w => hp ▸ digit_any s[k] w
          have HE : Aside0 (numL s.data.toList = (0, false)) := ⟨by rw [hl.out, ← HR.out, numGo_no s k n hlt hp]⟩
          clear HR hp
          have hx : s[k].toNat < 256 := s[k].toNat_lt
          go_wp2_with (go_at_call 26; refine (h1 _).mono ?_; rintro e w' ⟨rfl, rfl⟩)
          go_ret2
          exact numPost_no HE.out
        · have h1 : ∀ w, Calls Try.prog 26 #[.int .u8 (s[k].toNat : Int)] w fun e w' => e = .returned (.bool true) ∧ w = w' := fun w => hp ▸ digit_any s[k] w
          obtain ⟨hx0, hx1⟩ := (digB_iff _).1 hp
          by_cases hq : n ≤ (9223372036854775807 - ((s[k].toNat : Int) - 48)) / 10
          · have HE : Aside0 (numGo (s.data.toList.drop (k + 1)) (10 * n + ((s[k].toNat : Int) - 48)) = numGo s.data.toList 0) := ⟨by rw [← HR.out, numGo_yes s k n hlt hp hq]⟩
            clear HR hp
            have hq2 : 10 * n + ((s[k].toNat : Int) - 48) ≤ 9223372036854775807 := by omega
            go_wp2_with (go_at_call 26; refine (h1 _).mono ?_; rintro e w' ⟨rfl, rfl⟩)
            go_round
            case rel => exact ⟨k + 1, _, by omega, rfl, by go_num, by omega, by omega, HE⟩
            case measure => simp [intOf]; omega
          · have HE : Aside0 (numL s.data.toList = (0, false)) := ⟨by rw [hl.out, ← HR.out, numGo_big s k n hlt hq]⟩
            clear HR hp
            go_wp2_with (go_at_call 26; refine (h1 _).mono ?_; rintro e w' ⟨rfl, rfl⟩)
            go_ret2
            exact numPost_no HE.out
      · have HE : Aside0 (numL s.data.toList = (n, true)) := ⟨by rw [hl.out, ← HR.out, drop_end s k (by omega)]; rfl⟩
        clear HR
        go_wp2
        go_ret2
        exact numPost_yes HE.out
theorem number_any (s : ByteArray) (w : World) (hs : s.size ≤ 140737488351232) : Calls Try.prog 13 #[.string s] w fun e w' => e = .returned (.tuple #[.int .i64 (numL s.data.toList).1, .bool (numL s.data.toList).2]) ∧ w = w' := by
  by_cases h0 : s.size = 0
  · have e2 : s.toList = [] := (empty_iff s).2 h0
    have hl : numL s.data.toList = (0, false) := by
      rw [← ByteArray.toList_eq, e2]; rfl
    have hl := Aside0.mk (numPost_no (w := w) hl)
    have e1 : s.toList.isEmpty = true := by rw [e2]; rfl
    clear h0
    show Calls Try.prog 13 #[.string s] w (NumPost s w)
    go_enter Try.func13, Try.ntmps13
    go_wp2
    go_ret2
    exact hl.out
  by_cases hc : 1 < s.size ∧ (s[0].toNat : Int) = 48
  · obtain ⟨h1, h2⟩ := hc
    have hl : numL s.data.toList = (0, false) := by
      have h3 := drop_at s 0 (by omega)
      rw [List.drop_zero] at h3
      rw [numL, if_pos]
      refine .inr ⟨by rw [data_length]; exact h1, ?_⟩
      rw [h3, List.head?_cons]
      congr 1
      exact UInt8.toNat_inj.1 (by have : (48 : UInt8).toNat = 48 := rfl; omega)
    have hl := Aside0.mk (numPost_no (w := w) hl)
    have e1 : s.toList.isEmpty = false := by
      rw [List.isEmpty_eq_false_iff]
      intro h; rw [empty_iff] at h; omega
    have e2 : ¬ (s.toList = []) := by rw [empty_iff]; omega
    have e3 : (s.toList == []) = false := by simpa using e2
    have q : ((s[0].toNat : Int) == 48) = true := by simpa using h2
    clear h2
    show Calls Try.prog 13 #[.string s] w (NumPost s w)
    go_enter Try.func13, Try.ntmps13
    go_wp2
    go_ret2
    exact hl.out
  · exact number_loop s w hs (by omega) hc
/-- The signs. -/
def signs : List (List UInt8) := [[61, 61], [33, 61], [60, 61], [60, 60], [62, 62], [40], [41], [123], [125], [91], [93], [44], [59], [46], [61], [43], [45], [42], [47], [37], [38], [124], [94], [60]]
def signL (l : List UInt8) : Bool := signs.contains l
set_option maxHeartbeats 4000000 in
theorem sign_any (s : ByteArray) (w : World) : Calls Try.prog 17 #[.string s] w fun e w' => e = .returned (.bool (signL s.data.toList)) ∧ w = w' := by
  rw [← ByteArray.toList_eq]
  go_enter Try.func17, Try.ntmps17
  go_wp2
  all_goals
    go_ret
    exact ⟨ret_bool (by simp_all [signL, signs]), rfl⟩
end Go.Proofs.Ytpjoajoacakpgaa.Given
