/- Contracts of two functions of the reference, walked by hand: a half rounded down, and And, Or, Xor bit by bit. No condition. -/
import Derived.Test.YtkjdhmelfkndaaaProg
import Derived.Below
import Derived.Deep.Draws
import Derived.WalkKit
import Derived.KernelRfl
import Derived.Deep.LoopGhost
import Derived.Deep.QuietTactic
import Derived.BigQuiet
import Derived.RowKit
import Derived.Test.YtkjdhmelfkndaaaWMore
set_option linter.unusedVariables false
set_option linter.unusedSimpArgs false
namespace Go.Proofs.Ytkjdhmelfkndaaa.Q
open Go.RowKit Go.Proofs.YtkjdhmelfkndaaaW.PrintWords Go.Proofs.YtkjdhmelfkndaaaW.PrintLast Go.Proofs.YtkjdhmelfkndaaaW.PrintMore
def halfR (a : Int) : Int := if (Int.tmod a 2) = (-1) then wrap64 ((wrap64 (Int.tdiv a 2)) - 1) else wrap64 (Int.tdiv a 2)
def swageref01_half.f (a0 : Int) : Option (Int) := some (halfR a0)
theorem half_any (a : Int) (w : World) : Calls Try.prog 23 #[.int .i64 a] w fun e w' => e = .returned (.int .i64 (halfR a)) ∧ Drawn0 w w' := by
  unfold halfR
  by_cases c : Int.tmod a 2 = -1
  · rw [if_pos c]
    have c0 : (Int.tmod a 2 == -1) = true := beq_iff_eq.mpr c
    clear c
    go_enter Try.func23, Try.ntmps23
    go_wp2
    go_ret
    exact ⟨rfl, by repeat (first | exact Drawn0.refl _ | apply Drawn0.step)⟩
  · rw [if_neg c]
    have c0 : (Int.tmod a 2 == -1) = false := beq_eq_false_iff_ne.mpr c
    clear c
    go_enter Try.func23, Try.ntmps23
    go_wp2
    go_ret
    exact ⟨rfl, by repeat (first | exact Drawn0.refl _ | apply Drawn0.step)⟩
theorem swageref01_half.calls (a0 : Int) (r : Int) (w : World) (h : swageref01_half.f a0 = some r) :
    Calls Try.prog 23 #[.int .i64 a0] w fun e w' => e = .returned (.int .i64 r) ∧ Drawn0 w w' := by
  obtain rfl := Option.some.inj h
  exact half_any a0 w
/-- Is a bit of the answer set? -/
def bitR (op x y : Int) : Bool := if op = 6 then Int.tmod x 2 != 0 && Int.tmod y 2 != 0 else if op = 7 then Int.tmod x 2 != 0 || Int.tmod y 2 != 0 else if op = 8 then (Int.tmod x 2 != 0) != (Int.tmod y 2 != 0) else false
def bitsR : Nat → Int → Int → Int → Int → Int → Int
  | 0, _, _, _, n, _ => n
  | k + 1, op, x, y, n, b => bitsR k op (halfR x) (halfR y) (if bitR op x y = true then wrap64 (n + b) else n) (wrap64 (2 * b))
def swageref01_bits.f (a0 a1 a2 : Int) : Option (Int) := some (bitsR 64 a0 a1 a2 0 1)
/-- One round's answer, once it is decided. -/
theorem bits_round {k : Nat} {op x y n b r : Int} (v : Bool) (hv : bitR op x y = v) (h : bitsR (k + 1) op x y n b = r) : bitsR k op (halfR x) (halfR y) (if v = true then wrap64 (n + b) else n) (wrap64 (2 * b)) = r := by
  rw [← hv]; exact h
set_option maxHeartbeats 8000000 in
set_option maxRecDepth 100000 in
theorem swageref01_bits.calls (a0 : Int) (a1 : Int) (a2 : Int) (r : Int) (w : World) (h : swageref01_bits.f a0 a1 a2 = some r) :
    Calls Try.prog 24 #[.int .i64 a0, .int .i64 a1, .int .i64 a2] w fun e w' => e = .returned (.int .i64 r) ∧ Drawn0 w w' := by
  have H0 := Aside0.mk (Option.some.inj h)
  clear h
  go_enter Try.func24, Try.ntmps24
  go_wp2
  go_loopw [1, 2, 7, 8, 9] (fun v1 v2 v7 v8 v9 wr => ∃ (k i : Nat) (x y n b : Int), i + k = 64 ∧ v1 = .int .i64 x ∧ v2 = .int .i64 y ∧ v7 = .int .i64 n ∧ v8 = .int .i64 b ∧ v9 = .int .i64 i ∧ Aside0 (bitsR k a0 x y n b = r) ∧ Drawn0 w wr) (fun _ _ _ _ v9 _ => 64 - (intOf v9).toNat)
  case atStart => exact ⟨64, 0, _, _, _, _, rfl, rfl, rfl, rfl, rfl, rfl, H0, Drawn0.refl _⟩
  case round =>
    clear H0
    obtain ⟨k, i, x, y, n, b, hi, rfl, rfl, rfl, rfl, rfl, HA, ⟨m1, rfl⟩⟩ := hrel
    cases k with
    | zero =>
      obtain rfl : i = 64 := by omega
      have H := HA.out
      clear HA hi
      simp only [bitsR] at H
      subst H
      go_wp2
      go_ret
      exact ⟨rfl, by repeat (first | exact Drawn0.refl _ | apply Drawn0.step)⟩
    | succ k =>
      have hlt : (i : Int) < 64 := by omega
      have hle : i ≤ 63 := by omega
      have hk : i + 1 + k = 64 := by omega
      replace hk := Aside0.mk hk
      clear hi
      by_cases h6 : a0 = 6
      · subst h6
        by_cases p : Int.tmod x 2 = 0
        · have p1 : (Int.tmod x 2 != 0) = false := bne_eq_false_iff_eq.mpr p
          clear p
          by_cases q : Int.tmod y 2 = 0
          · have q1 : (Int.tmod y 2 != 0) = false := bne_eq_false_iff_eq.mpr q
            clear q
            have H := Aside0.mk (bits_round false (by simp [bitR, *]) HA.out)
            clear HA
            go_wp2_with (go_at_call 23; refine (half_any _ _).mono ?_; rintro e w' ⟨rfl, ⟨nd, rfl⟩⟩)
            go_roundw
            case rel => exact ⟨k, i + 1, _, _, _, _, by have := hk.out; omega, rfl, rfl, rfl, rfl, by go_num, H, by repeat (first | exact Drawn0.refl _ | apply Drawn0.step)⟩
            case measure => simp [intOf]; omega
          · have q1 : (Int.tmod y 2 != 0) = true := bne_iff_ne.mpr q
            clear q
            have H := Aside0.mk (bits_round false (by simp [bitR, *]) HA.out)
            clear HA
            go_wp2_with (go_at_call 23; refine (half_any _ _).mono ?_; rintro e w' ⟨rfl, ⟨nd, rfl⟩⟩)
            go_roundw
            case rel => exact ⟨k, i + 1, _, _, _, _, by have := hk.out; omega, rfl, rfl, rfl, rfl, by go_num, H, by repeat (first | exact Drawn0.refl _ | apply Drawn0.step)⟩
            case measure => simp [intOf]; omega
        · have p1 : (Int.tmod x 2 != 0) = true := bne_iff_ne.mpr p
          clear p
          by_cases q : Int.tmod y 2 = 0
          · have q1 : (Int.tmod y 2 != 0) = false := bne_eq_false_iff_eq.mpr q
            clear q
            have H := Aside0.mk (bits_round false (by simp [bitR, *]) HA.out)
            clear HA
            go_wp2_with (go_at_call 23; refine (half_any _ _).mono ?_; rintro e w' ⟨rfl, ⟨nd, rfl⟩⟩)
            go_roundw
            case rel => exact ⟨k, i + 1, _, _, _, _, by have := hk.out; omega, rfl, rfl, rfl, rfl, by go_num, H, by repeat (first | exact Drawn0.refl _ | apply Drawn0.step)⟩
            case measure => simp [intOf]; omega
          · have q1 : (Int.tmod y 2 != 0) = true := bne_iff_ne.mpr q
            clear q
            have H := Aside0.mk (bits_round true (by simp [bitR, *]) HA.out)
            clear HA
            go_wp2_with (go_at_call 23; refine (half_any _ _).mono ?_; rintro e w' ⟨rfl, ⟨nd, rfl⟩⟩)
            go_roundw
            case rel => exact ⟨k, i + 1, _, _, _, _, by have := hk.out; omega, rfl, rfl, rfl, rfl, by go_num, H, by repeat (first | exact Drawn0.refl _ | apply Drawn0.step)⟩
            case measure => simp [intOf]; omega
      by_cases h7 : a0 = 7
      · subst h7
        by_cases p : Int.tmod x 2 = 0
        · have p1 : (Int.tmod x 2 != 0) = false := bne_eq_false_iff_eq.mpr p
          clear p
          by_cases q : Int.tmod y 2 = 0
          · have q1 : (Int.tmod y 2 != 0) = false := bne_eq_false_iff_eq.mpr q
            clear q
            have H := Aside0.mk (bits_round false (by simp [bitR, *]) HA.out)
            clear HA
            go_wp2_with (go_at_call 23; refine (half_any _ _).mono ?_; rintro e w' ⟨rfl, ⟨nd, rfl⟩⟩)
            go_roundw
            case rel => exact ⟨k, i + 1, _, _, _, _, by have := hk.out; omega, rfl, rfl, rfl, rfl, by go_num, H, by repeat (first | exact Drawn0.refl _ | apply Drawn0.step)⟩
            case measure => simp [intOf]; omega
          · have q1 : (Int.tmod y 2 != 0) = true := bne_iff_ne.mpr q
            clear q
            have H := Aside0.mk (bits_round true (by simp [bitR, *]) HA.out)
            clear HA
            go_wp2_with (go_at_call 23; refine (half_any _ _).mono ?_; rintro e w' ⟨rfl, ⟨nd, rfl⟩⟩)
            go_roundw
            case rel => exact ⟨k, i + 1, _, _, _, _, by have := hk.out; omega, rfl, rfl, rfl, rfl, by go_num, H, by repeat (first | exact Drawn0.refl _ | apply Drawn0.step)⟩
            case measure => simp [intOf]; omega
        · have p1 : (Int.tmod x 2 != 0) = true := bne_iff_ne.mpr p
          clear p
          by_cases q : Int.tmod y 2 = 0
          · have q1 : (Int.tmod y 2 != 0) = false := bne_eq_false_iff_eq.mpr q
            clear q
            have H := Aside0.mk (bits_round true (by simp [bitR, *]) HA.out)
            clear HA
            go_wp2_with (go_at_call 23; refine (half_any _ _).mono ?_; rintro e w' ⟨rfl, ⟨nd, rfl⟩⟩)
            go_roundw
            case rel => exact ⟨k, i + 1, _, _, _, _, by have := hk.out; omega, rfl, rfl, rfl, rfl, by go_num, H, by repeat (first | exact Drawn0.refl _ | apply Drawn0.step)⟩
            case measure => simp [intOf]; omega
          · have q1 : (Int.tmod y 2 != 0) = true := bne_iff_ne.mpr q
            clear q
            have H := Aside0.mk (bits_round true (by simp [bitR, *]) HA.out)
            clear HA
            go_wp2_with (go_at_call 23; refine (half_any _ _).mono ?_; rintro e w' ⟨rfl, ⟨nd, rfl⟩⟩)
            go_roundw
            case rel => exact ⟨k, i + 1, _, _, _, _, by have := hk.out; omega, rfl, rfl, rfl, rfl, by go_num, H, by repeat (first | exact Drawn0.refl _ | apply Drawn0.step)⟩
            case measure => simp [intOf]; omega
      by_cases h8 : a0 = 8
      · subst h8
        by_cases p : Int.tmod x 2 = 0
        · have p1 : (Int.tmod x 2 != 0) = false := bne_eq_false_iff_eq.mpr p
          clear p
          by_cases q : Int.tmod y 2 = 0
          · have q1 : (Int.tmod y 2 != 0) = false := bne_eq_false_iff_eq.mpr q
            clear q
            have H := Aside0.mk (bits_round false (by simp [bitR, *]) HA.out)
            clear HA
            go_wp2_with (go_at_call 23; refine (half_any _ _).mono ?_; rintro e w' ⟨rfl, ⟨nd, rfl⟩⟩)
            go_roundw
            case rel => exact ⟨k, i + 1, _, _, _, _, by have := hk.out; omega, rfl, rfl, rfl, rfl, by go_num, H, by repeat (first | exact Drawn0.refl _ | apply Drawn0.step)⟩
            case measure => simp [intOf]; omega
          · have q1 : (Int.tmod y 2 != 0) = true := bne_iff_ne.mpr q
            clear q
            have H := Aside0.mk (bits_round true (by simp [bitR, *]) HA.out)
            clear HA
            go_wp2_with (go_at_call 23; refine (half_any _ _).mono ?_; rintro e w' ⟨rfl, ⟨nd, rfl⟩⟩)
            go_roundw
            case rel => exact ⟨k, i + 1, _, _, _, _, by have := hk.out; omega, rfl, rfl, rfl, rfl, by go_num, H, by repeat (first | exact Drawn0.refl _ | apply Drawn0.step)⟩
            case measure => simp [intOf]; omega
        · have p1 : (Int.tmod x 2 != 0) = true := bne_iff_ne.mpr p
          clear p
          by_cases q : Int.tmod y 2 = 0
          · have q1 : (Int.tmod y 2 != 0) = false := bne_eq_false_iff_eq.mpr q
            clear q
            have H := Aside0.mk (bits_round true (by simp [bitR, *]) HA.out)
            clear HA
            go_wp2_with (go_at_call 23; refine (half_any _ _).mono ?_; rintro e w' ⟨rfl, ⟨nd, rfl⟩⟩)
            go_roundw
            case rel => exact ⟨k, i + 1, _, _, _, _, by have := hk.out; omega, rfl, rfl, rfl, rfl, by go_num, H, by repeat (first | exact Drawn0.refl _ | apply Drawn0.step)⟩
            case measure => simp [intOf]; omega
          · have q1 : (Int.tmod y 2 != 0) = true := bne_iff_ne.mpr q
            clear q
            have H := Aside0.mk (bits_round false (by simp [bitR, *]) HA.out)
            clear HA
            go_wp2_with (go_at_call 23; refine (half_any _ _).mono ?_; rintro e w' ⟨rfl, ⟨nd, rfl⟩⟩)
            go_roundw
            case rel => exact ⟨k, i + 1, _, _, _, _, by have := hk.out; omega, rfl, rfl, rfl, rfl, by go_num, H, by repeat (first | exact Drawn0.refl _ | apply Drawn0.step)⟩
            case measure => simp [intOf]; omega
      have b6 : (a0 == 6) = false := beq_eq_false_iff_ne.mpr h6
      have b7 : (a0 == 7) = false := beq_eq_false_iff_ne.mpr h7
      have b8 : (a0 == 8) = false := beq_eq_false_iff_ne.mpr h8
      have hv : bitR a0 x y = false := by simp [bitR, h6, h7, h8]
      have H := Aside0.mk (bits_round false hv HA.out)
      clear HA h6 h7 h8 hv
      go_wp2_with (go_at_call 23; refine (half_any _ _).mono ?_; rintro e w' ⟨rfl, ⟨nd, rfl⟩⟩)
      go_roundw
      case rel => exact ⟨k, i + 1, _, _, _, _, by have := hk.out; omega, rfl, rfl, rfl, rfl, by go_num, H, by repeat (first | exact Drawn0.refl _ | apply Drawn0.step)⟩
      case measure => simp [intOf]; omega
end Go.Proofs.Ytkjdhmelfkndaaa.Q
