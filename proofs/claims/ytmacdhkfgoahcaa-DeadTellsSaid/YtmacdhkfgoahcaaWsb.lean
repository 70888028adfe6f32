/- Of the words that the kit's print wrote, those that this work uses. -/
import Derived.Below
import Derived.Deep.Draws
import Derived.Deep.AppendLies
import Derived.Maps.AppendAt
import Derived.OwnWalk
import Derived.Laws.BytesArg
import Derived.Laws.MakeOwn
import Derived.Laws.OwnMore
import Derived.Deep.OwnRows
import Derived.Tactics
import Derived.Lib.ConvBytes
import Derived.Laws.Slices
import Derived.WalkKit
import Derived.KernelRfl
import Derived.RowKit3
import Derived.Deep.LoopGhost
import Derived.Deep.QuietTactic
import Derived.BigQuiet
import Derived.WideLaws
import Derived.Deep.DeepCutAuto
import Derived.Deep.CutBlock
import Derived.Deep.RegionHeld3
import Derived.Laws.Rows
import Derived.Lib.AppendStr
import Derived.ArgAppend
import Derived.Laws.IdiomCopy
import Derived.RowKit
import Derived.OrdersHeld
import Derived.Laws.BitsLemmas
import Derived.Laws.StructEq
import Derived.Test.YtmacdhkfgoahcaaProg
import Derived.Maps.Own
import Derived.Maps.OwnOps
import Derived.Maps.OwnSet
import Derived.Maps.Views
import Derived.StillTailTactics
import Derived.Test.YtmacdhkfgoahcaaShelf
import Derived.OpenShut
import Derived.Laws.AppendOwn
import Derived.Lib.SliceRun
import Derived.RegionCalls
import Derived.BigCall
import Derived.WalkSpells
import Derived.RangeFuncNested
import Derived.RangeFuncBound
import Derived.RangeFuncCalls
import Derived.RangeFuncLeaves
import Derived.RangeFuncBox
import Derived.Shelf.Abstract
import Derived.Shelf.RegionOpen
import Derived.OwnWalkIn
import Derived.TacticsInMore
import Derived.LoopNIn
import Derived.LoopIn
import Derived.Outline
import Derived.Shelf.Slices.Reverse
import Derived.Test.YtmacdhkfgoahcaaWsa
-- Written by a program of this work (wip/tools/mp.py), not by print.sh.
namespace Go.Proofs.Ytmacdhkfgoahcaa.Q
open Go.RowKit Go.Proofs.YtmacdhkfgoahcaaW.PrintWords Go.Proofs.YtmacdhkfgoahcaaW.PrintLast Go.Proofs.YtmacdhkfgoahcaaW.PrintMore
attribute [local go_sem] max2_int min2_int max_two min_two max_three min_three max_four min_four   -- for this text's walks alone
set_option linter.unusedVariables false
set_option linter.unusedSimpArgs false

/-! ### word_Fold: function 90 -/
def word_Fold.j0 : Nat → Int → Bool → Option (Int × Bool)
  | 0, _, _ => none
  | k + 1, x6, x7 => if x7 = true then (some (0, true)) else (if x6 = 12 then (some (1, true)) else (if x6 = 13 then (some (1, true)) else (some (0, false))))
def word_Fold.f (k : Nat) (a0 : Int) (a1 : Int) : Option (Int × Bool) := if a0 = 2 then (word_Fold.j0 k a0 (a0 == 2)) else (if a0 = 8 then (word_Fold.j0 k a0 (a0 == 8)) else (if a0 = 11 then (word_Fold.j0 k a0 (a0 == 11)) else (word_Fold.j0 k a0 (a0 == 14))))
theorem word_Fold.mono_l : ∀ k, (∀ y0 y1, LeO (word_Fold.j0 k y0 y1) (word_Fold.j0 (k + 1) y0 y1))
  | 0 => fun _ _ r h => by simp [word_Fold.j0] at h
  | k + 1 => by
    have ih0 := word_Fold.mono_l k
    · intro y0 y1
      unfold word_Fold.j0
      repeat' first
      | (with_reducible exact ih0 _ _)
      | (with_reducible exact LeO.refl _)
      | (with_reducible exact LeO.none _)
      | (with_reducible refine LeO.ite ?_ ?_)
      | (with_reducible refine LeO.bind ?_ (fun _ => ?_))
      | exact ih0 _ _
      | exact LeO.none _
      | refine LeO.ite ?_ ?_
      | refine LeO.bind ?_ (fun _ => ?_)
theorem word_Fold.mono : ∀ a0 a1 k, LeO (word_Fold.f k a0 a1) (word_Fold.f (k + 1) a0 a1) := by
  intro a0 a1 k
  have ih0 := word_Fold.mono_l k
  unfold word_Fold.f
  repeat' first
      | (with_reducible exact ih0 _ _)
      | (with_reducible exact LeO.refl _)
      | (with_reducible exact LeO.none _)
      | (with_reducible refine LeO.ite ?_ ?_)
      | (with_reducible refine LeO.bind ?_ (fun _ => ?_))
      | exact ih0 _ _
      | exact LeO.none _
      | refine LeO.ite ?_ ?_
      | refine LeO.bind ?_ (fun _ => ?_)
set_option maxHeartbeats 8000000 in
set_option maxRecDepth 100000 in
theorem word_Fold.calls (k : Nat) (a0 : Int) (a1 : Int) (r1 : Int) (r2 : Bool) (w : World) (h : word_Fold.f k a0 a1 = some (r1, r2)) :
    Calls Try.prog 90 #[.int .i64 a0, .int .i64 a1] w fun e w' => e = .returned (.tuple #[.int .i64 r1, .bool r2]) ∧ Drawn0 w w' := by
  have H : (if a0 = 2 then (word_Fold.j0 k a0 (a0 == 2)) else (if a0 = 8 then (word_Fold.j0 k a0 (a0 == 8)) else (if a0 = 11 then (word_Fold.j0 k a0 (a0 == 11)) else (word_Fold.j0 k a0 (a0 == 14))))) = some (r1, r2) := h
  clear h
  have HC3 := Aside0.mk H
  clear H
  go_enter Try.func90, Try.ntmps90
  go_upto_if 7 with (fail)
  go_cut [7] (fun v7 wc => ∃ (kq : Nat) (x7_2 : Bool), v7 = .bool x7_2 ∧ Aside0 (word_Fold.j0 kq a0 x7_2 = some (r1, r2)) ∧ Aside0 (kq ≤ k) ∧ Drawn0 w wc)
  case first =>
    have H := HC3.out
    clear HC3
    by_cases c4 : a0 = 2
    · rw [if_pos c4] at H
      have c4b0 : (a0 == 2) = true := beq_iff_eq.mpr c4
      have c4b1 : (a0 != 2) = false := bne_eq_false_iff_eq.mpr c4
      clear c4
      (first | rw [c4b0] | (simp only [i64_w, i32_w]; rw [c4b0]) | skip)
      have H' := Aside0.mk H
      clear H
      go_wp2
      go_meet
      case rel => exact ⟨_, ((a0 == 2)), (by first | rfl | (simp; done) | (simp [*]; done)), H', ⟨by first | omega | exact Nat.le_refl _⟩, by repeat (first | exact Drawn0.refl _ | apply Drawn0.step)⟩
    · rw [if_neg c4] at H
      have c4b0 : (a0 == 2) = false := beq_eq_false_iff_ne.mpr c4
      have c4b1 : (a0 != 2) = true := bne_iff_ne.mpr c4
      (first | rw [c4b0] | (simp only [i64_w, i32_w]; rw [c4b0]) | skip)
      by_cases c5 : a0 = 8
      · rw [if_pos c5] at H
        have c5b0 : (a0 == 8) = true := beq_iff_eq.mpr c5
        have c5b1 : (a0 != 8) = false := bne_eq_false_iff_eq.mpr c5
        clear c5
        have H' := Aside0.mk H
        clear H
        go_wp2
        go_meet
        case rel => exact ⟨_, ((a0 == 8)), (by first | rfl | (simp; done) | (simp [*]; done)), H', ⟨by first | omega | exact Nat.le_refl _⟩, by repeat (first | exact Drawn0.refl _ | apply Drawn0.step)⟩
      · rw [if_neg c5] at H
        have c5b0 : (a0 == 8) = false := beq_eq_false_iff_ne.mpr c5
        have c5b1 : (a0 != 8) = true := bne_iff_ne.mpr c5
        by_cases c6 : a0 = 11
        · rw [if_pos c6] at H
          have c6b0 : (a0 == 11) = true := beq_iff_eq.mpr c6
          have c6b1 : (a0 != 11) = false := bne_eq_false_iff_eq.mpr c6
          clear c6
          have H' := Aside0.mk H
          clear H
          go_wp2
          go_meet
          case rel => exact ⟨_, ((a0 == 11)), (by first | rfl | (simp; done) | (simp [*]; done)), H', ⟨by first | omega | exact Nat.le_refl _⟩, by repeat (first | exact Drawn0.refl _ | apply Drawn0.step)⟩
        · rw [if_neg c6] at H
          have c6b0 : (a0 == 11) = false := beq_eq_false_iff_ne.mpr c6
          have c6b1 : (a0 != 11) = true := bne_iff_ne.mpr c6
          have H' := Aside0.mk H
          clear H
          go_wp2
          go_meet
          case rel => exact ⟨_, ((a0 == 14)), (by first | rfl | (simp; done) | (simp [*]; done)), H', ⟨by first | omega | exact Nat.le_refl _⟩, by repeat (first | exact Drawn0.refl _ | apply Drawn0.step)⟩
  case rest =>
    clear HC3
    try clear p2
    try clear c4
    try clear c4b0
    try clear c4b1
    try clear c5
    try clear c5b0
    try clear c5b1
    try clear c6
    try clear c6b0
    try clear c6b1
    obtain ⟨kq, x7_2, rfl, HA, HJ2, ⟨mc2, rfl⟩⟩ := hcut
    cases kq with
    | zero => exact absurd HA.out (by simp [word_Fold.j0])
    | succ kj2 =>
      have H := HA.out
      clear HA
      simp only [word_Fold.j0] at H
      by_cases c7 : x7_2 = true
      · subst c7
        have H1 : (some (0, true)) = some (r1, r2) := by rw [if_pos rfl] at H; exact H
        clear H
        have H := H1
        clear H1
        simp only [Option.some.injEq, Prod.mk.injEq] at H
        obtain ⟨rfl, rfl⟩ := H
        go_wp2
        go_ret2
        exact ⟨by first | rfl | (simp; done) | (simp [*]; done), by repeat (first | exact Drawn0.refl _ | apply Drawn0.step)⟩
      · replace c7 := Bool.eq_false_iff.mpr c7
        subst c7
        have H1 : (if a0 = 12 then (some (1, true)) else (if a0 = 13 then (some (1, true)) else (some (0, false)))) = some (r1, r2) := by rw [if_neg (show ¬ (false = true) by decide)] at H; exact H
        clear H
        have H := H1
        clear H1
        by_cases c8 : a0 = 12
        · rw [if_pos c8] at H
          have c8b0 : (a0 == 12) = true := beq_iff_eq.mpr c8
          have c8b1 : (a0 != 12) = false := bne_eq_false_iff_eq.mpr c8
          clear c8
          simp only [Option.some.injEq, Prod.mk.injEq] at H
          obtain ⟨rfl, rfl⟩ := H
          go_wp2
          go_ret2
          exact ⟨by first | rfl | (simp; done) | (simp [*]; done), by repeat (first | exact Drawn0.refl _ | apply Drawn0.step)⟩
        · rw [if_neg c8] at H
          have c8b0 : (a0 == 12) = false := beq_eq_false_iff_ne.mpr c8
          have c8b1 : (a0 != 12) = true := bne_iff_ne.mpr c8
          by_cases c9 : a0 = 13
          · rw [if_pos c9] at H
            have c9b0 : (a0 == 13) = true := beq_iff_eq.mpr c9
            have c9b1 : (a0 != 13) = false := bne_eq_false_iff_eq.mpr c9
            clear c9
            simp only [Option.some.injEq, Prod.mk.injEq] at H
            obtain ⟨rfl, rfl⟩ := H
            go_wp2
            go_ret2
            exact ⟨by first | rfl | (simp; done) | (simp [*]; done), by repeat (first | exact Drawn0.refl _ | apply Drawn0.step)⟩
          · rw [if_neg c9] at H
            have c9b0 : (a0 == 13) = false := beq_eq_false_iff_ne.mpr c9
            have c9b1 : (a0 != 13) = true := bne_iff_ne.mpr c9
            simp only [Option.some.injEq, Prod.mk.injEq] at H
            obtain ⟨rfl, rfl⟩ := H
            go_wp2
            go_ret2
            exact ⟨by first | rfl | (simp; done) | (simp [*]; done), by repeat (first | exact Drawn0.refl _ | apply Drawn0.step)⟩

/-! ### fold_Neutral: function 53 -/
mutual
def fold_Neutral.j0 : Nat → Int → Int → Bool → Option (Bool)
  | 0, _, _, _ => none
  | k + 1, x1, x5, x6 => if x6 = true then (some (x1 == 0)) else (if x5 = 3 then (fold_Neutral.j1 k x1 x5 (x5 == 3)) else (fold_Neutral.j1 k x1 x5 (x5 == 4)))
def fold_Neutral.j1 : Nat → Int → Int → Bool → Option (Bool)
  | 0, _, _, _ => none
  | k + 1, x1, x5, x15 => if x15 = true then (some (x1 == 1)) else (if x5 = 6 then (some (x1 == (-1))) else (some false))
end
def fold_Neutral.f (k : Nat) (a0 : Int) (a1 : Int) : Option (Bool) := if a0 = 1 then (fold_Neutral.j0 k a1 a0 (a0 == 1)) else (if a0 = 2 then (fold_Neutral.j0 k a1 a0 (a0 == 2)) else (if a0 = 7 then (fold_Neutral.j0 k a1 a0 (a0 == 7)) else (if a0 = 8 then (fold_Neutral.j0 k a1 a0 (a0 == 8)) else (if a0 = 9 then (fold_Neutral.j0 k a1 a0 (a0 == 9)) else (fold_Neutral.j0 k a1 a0 (a0 == 10))))))
theorem fold_Neutral.mono_l : ∀ k, (∀ y0 y1 y2, LeO (fold_Neutral.j0 k y0 y1 y2) (fold_Neutral.j0 (k + 1) y0 y1 y2)) ∧ (∀ y0 y1 y2, LeO (fold_Neutral.j1 k y0 y1 y2) (fold_Neutral.j1 (k + 1) y0 y1 y2))
  | 0 => ⟨fun _ _ _ r h => by simp [fold_Neutral.j0] at h, fun _ _ _ r h => by simp [fold_Neutral.j1] at h⟩
  | k + 1 => by
    obtain ⟨ih0, ih1⟩ := fold_Neutral.mono_l k
    refine ⟨?_, ?_⟩
    · intro y0 y1 y2
      unfold fold_Neutral.j0
      repeat' first
      | (with_reducible exact ih0 _ _ _)
      | (with_reducible exact ih1 _ _ _)
      | (with_reducible exact LeO.refl _)
      | (with_reducible exact LeO.none _)
      | (with_reducible refine LeO.ite ?_ ?_)
      | (with_reducible refine LeO.bind ?_ (fun _ => ?_))
      | exact ih0 _ _ _
      | exact ih1 _ _ _
      | exact LeO.none _
      | refine LeO.ite ?_ ?_
      | refine LeO.bind ?_ (fun _ => ?_)
    · intro y0 y1 y2
      unfold fold_Neutral.j1
      repeat' first
      | (with_reducible exact ih0 _ _ _)
      | (with_reducible exact ih1 _ _ _)
      | (with_reducible exact LeO.refl _)
      | (with_reducible exact LeO.none _)
      | (with_reducible refine LeO.ite ?_ ?_)
      | (with_reducible refine LeO.bind ?_ (fun _ => ?_))
      | exact ih0 _ _ _
      | exact ih1 _ _ _
      | exact LeO.none _
      | refine LeO.ite ?_ ?_
      | refine LeO.bind ?_ (fun _ => ?_)
theorem fold_Neutral.mono : ∀ a0 a1 k, LeO (fold_Neutral.f k a0 a1) (fold_Neutral.f (k + 1) a0 a1) := by
  intro a0 a1 k
  obtain ⟨ih0, ih1⟩ := fold_Neutral.mono_l k
  unfold fold_Neutral.f
  repeat' first
      | (with_reducible exact ih0 _ _ _)
      | (with_reducible exact ih1 _ _ _)
      | (with_reducible exact LeO.refl _)
      | (with_reducible exact LeO.none _)
      | (with_reducible refine LeO.ite ?_ ?_)
      | (with_reducible refine LeO.bind ?_ (fun _ => ?_))
      | exact ih0 _ _ _
      | exact ih1 _ _ _
      | exact LeO.none _
      | refine LeO.ite ?_ ?_
      | refine LeO.bind ?_ (fun _ => ?_)
set_option maxHeartbeats 8000000 in
set_option maxRecDepth 100000 in
theorem fold_Neutral.calls (k : Nat) (a0 : Int) (a1 : Int) (r : Bool) (w : World) (h : fold_Neutral.f k a0 a1 = some r) :
    Calls Try.prog 53 #[.int .i64 a0, .int .i64 a1] w fun e w' => e = .returned (.bool r) ∧ Drawn0 w w' := by
  have H : (if a0 = 1 then (fold_Neutral.j0 k a1 a0 (a0 == 1)) else (if a0 = 2 then (fold_Neutral.j0 k a1 a0 (a0 == 2)) else (if a0 = 7 then (fold_Neutral.j0 k a1 a0 (a0 == 7)) else (if a0 = 8 then (fold_Neutral.j0 k a1 a0 (a0 == 8)) else (if a0 = 9 then (fold_Neutral.j0 k a1 a0 (a0 == 9)) else (fold_Neutral.j0 k a1 a0 (a0 == 10))))))) = some r := h
  clear h
  have HC3 := Aside0.mk H
  clear H
  go_enter Try.func53, Try.ntmps53
  go_upto_if 6 with (fail)
  go_cut [6] (fun v6 wc => ∃ (kq : Nat) (x6_2 : Bool), v6 = .bool x6_2 ∧ Aside0 (fold_Neutral.j0 kq a1 a0 x6_2 = some r) ∧ Aside0 (kq ≤ k) ∧ Drawn0 w wc)
  case first =>
    have H := HC3.out
    clear HC3
    by_cases c4 : a0 = 1
    · rw [if_pos c4] at H
      have c4b0 : (a0 == 1) = true := beq_iff_eq.mpr c4
      have c4b1 : (a0 != 1) = false := bne_eq_false_iff_eq.mpr c4
      clear c4
      (first | rw [c4b0] | (simp only [i64_w, i32_w]; rw [c4b0]) | skip)
      have H' := Aside0.mk H
      clear H
      go_wp2
      go_meet
      case rel => exact ⟨_, ((a0 == 1)), (by first | rfl | (simp; done) | (simp [*]; done)), H', ⟨by first | omega | exact Nat.le_refl _⟩, by repeat (first | exact Drawn0.refl _ | apply Drawn0.step)⟩
    · rw [if_neg c4] at H
      have c4b0 : (a0 == 1) = false := beq_eq_false_iff_ne.mpr c4
      have c4b1 : (a0 != 1) = true := bne_iff_ne.mpr c4
      (first | rw [c4b0] | (simp only [i64_w, i32_w]; rw [c4b0]) | skip)
      by_cases c5 : a0 = 2
      · rw [if_pos c5] at H
        have c5b0 : (a0 == 2) = true := beq_iff_eq.mpr c5
        have c5b1 : (a0 != 2) = false := bne_eq_false_iff_eq.mpr c5
        clear c5
        have H' := Aside0.mk H
        clear H
        go_wp2
        go_meet
        case rel => exact ⟨_, ((a0 == 2)), (by first | rfl | (simp; done) | (simp [*]; done)), H', ⟨by first | omega | exact Nat.le_refl _⟩, by repeat (first | exact Drawn0.refl _ | apply Drawn0.step)⟩
      · rw [if_neg c5] at H
        have c5b0 : (a0 == 2) = false := beq_eq_false_iff_ne.mpr c5
        have c5b1 : (a0 != 2) = true := bne_iff_ne.mpr c5
        by_cases c6 : a0 = 7
        · rw [if_pos c6] at H
          have c6b0 : (a0 == 7) = true := beq_iff_eq.mpr c6
          have c6b1 : (a0 != 7) = false := bne_eq_false_iff_eq.mpr c6
          clear c6
          have H' := Aside0.mk H
          clear H
          go_wp2
          go_meet
          case rel => exact ⟨_, ((a0 == 7)), (by first | rfl | (simp; done) | (simp [*]; done)), H', ⟨by first | omega | exact Nat.le_refl _⟩, by repeat (first | exact Drawn0.refl _ | apply Drawn0.step)⟩
        · rw [if_neg c6] at H
          have c6b0 : (a0 == 7) = false := beq_eq_false_iff_ne.mpr c6
          have c6b1 : (a0 != 7) = true := bne_iff_ne.mpr c6
          by_cases c7 : a0 = 8
          · rw [if_pos c7] at H
            have c7b0 : (a0 == 8) = true := beq_iff_eq.mpr c7
            have c7b1 : (a0 != 8) = false := bne_eq_false_iff_eq.mpr c7
            clear c7
            have H' := Aside0.mk H
            clear H
            go_wp2
            go_meet
            case rel => exact ⟨_, ((a0 == 8)), (by first | rfl | (simp; done) | (simp [*]; done)), H', ⟨by first | omega | exact Nat.le_refl _⟩, by repeat (first | exact Drawn0.refl _ | apply Drawn0.step)⟩
          · rw [if_neg c7] at H
            have c7b0 : (a0 == 8) = false := beq_eq_false_iff_ne.mpr c7
            have c7b1 : (a0 != 8) = true := bne_iff_ne.mpr c7
            by_cases c8 : a0 = 9
            · rw [if_pos c8] at H
              have c8b0 : (a0 == 9) = true := beq_iff_eq.mpr c8
              have c8b1 : (a0 != 9) = false := bne_eq_false_iff_eq.mpr c8
              clear c8
              have H' := Aside0.mk H
              clear H
              go_wp2
              go_meet
              case rel => exact ⟨_, ((a0 == 9)), (by first | rfl | (simp; done) | (simp [*]; done)), H', ⟨by first | omega | exact Nat.le_refl _⟩, by repeat (first | exact Drawn0.refl _ | apply Drawn0.step)⟩
            · rw [if_neg c8] at H
              have c8b0 : (a0 == 9) = false := beq_eq_false_iff_ne.mpr c8
              have c8b1 : (a0 != 9) = true := bne_iff_ne.mpr c8
              have H' := Aside0.mk H
              clear H
              go_wp2
              go_meet
              case rel => exact ⟨_, ((a0 == 10)), (by first | rfl | (simp; done) | (simp [*]; done)), H', ⟨by first | omega | exact Nat.le_refl _⟩, by repeat (first | exact Drawn0.refl _ | apply Drawn0.step)⟩
  case rest =>
    clear HC3
    try clear p2
    try clear c4
    try clear c4b0
    try clear c4b1
    try clear c5
    try clear c5b0
    try clear c5b1
    try clear c6
    try clear c6b0
    try clear c6b1
    try clear c7
    try clear c7b0
    try clear c7b1
    try clear c8
    try clear c8b0
    try clear c8b1
    obtain ⟨kq, x6_2, rfl, HA, HJ2, ⟨mc2, rfl⟩⟩ := hcut
    cases kq with
    | zero => exact absurd HA.out (by simp [fold_Neutral.j0])
    | succ kj2 =>
      have H := HA.out
      clear HA
      simp only [fold_Neutral.j0] at H
      by_cases c9 : x6_2 = true
      · subst c9
        have H1 : (some (a1 == 0)) = some r := by rw [if_pos rfl] at H; exact H
        clear H
        have H := H1
        clear H1
        obtain rfl := Option.some.inj H
        go_wp2
        go_ret
        exact ⟨by first | rfl | (simp; done) | (simp [*]; done), by repeat (first | exact Drawn0.refl _ | apply Drawn0.step)⟩
      · replace c9 := Bool.eq_false_iff.mpr c9
        subst c9
        have H1 : (if a0 = 3 then (fold_Neutral.j1 kj2 a1 a0 (a0 == 3)) else (fold_Neutral.j1 kj2 a1 a0 (a0 == 4))) = some r := by rw [if_neg (show ¬ (false = true) by decide)] at H; exact H
        clear H
        have H := H1
        clear H1
        have HC10 := Aside0.mk H
        clear H
        go_upto_if 15 with (fail)
        go_cut [15] (fun v15 wc => ∃ (kq : Nat) (x15_9 : Bool), v15 = .bool x15_9 ∧ Aside0 (fold_Neutral.j1 kq a1 a0 x15_9 = some r) ∧ Aside0 (kq ≤ kj2) ∧ Drawn0 w wc)
        case first =>
          have H := HC10.out
          clear HC10
          by_cases c11 : a0 = 3
          · rw [if_pos c11] at H
            have c11b0 : (a0 == 3) = true := beq_iff_eq.mpr c11
            have c11b1 : (a0 != 3) = false := bne_eq_false_iff_eq.mpr c11
            clear c11
            (first | rw [c11b0] | (simp only [i64_w, i32_w]; rw [c11b0]) | skip)
            have H' := Aside0.mk H
            clear H
            go_wp2
            go_meet
            case rel => exact ⟨_, ((a0 == 3)), (by first | rfl | (simp; done) | (simp [*]; done)), H', ⟨by have := HJ2.out; first | omega | exact Nat.le_refl _⟩, by repeat (first | exact Drawn0.refl _ | apply Drawn0.step)⟩
          · rw [if_neg c11] at H
            have c11b0 : (a0 == 3) = false := beq_eq_false_iff_ne.mpr c11
            have c11b1 : (a0 != 3) = true := bne_iff_ne.mpr c11
            (first | rw [c11b0] | (simp only [i64_w, i32_w]; rw [c11b0]) | skip)
            have H' := Aside0.mk H
            clear H
            go_wp2
            go_meet
            case rel => exact ⟨_, ((a0 == 4)), (by first | rfl | (simp; done) | (simp [*]; done)), H', ⟨by have := HJ2.out; first | omega | exact Nat.le_refl _⟩, by repeat (first | exact Drawn0.refl _ | apply Drawn0.step)⟩
        case rest =>
          clear HC10
          try clear c1
          try clear c2
          try clear p2
          try clear c4
          try clear c4b0
          try clear c4b1
          try clear c5
          try clear c5b0
          try clear c5b1
          try clear c6
          try clear c6b0
          try clear c6b1
          try clear c7
          try clear c7b0
          try clear c7b1
          try clear c8
          try clear c8b0
          try clear c8b1
          try clear c9
          try clear c11
          try clear c11b0
          try clear c11b1
          try clear p2
          obtain ⟨kq, x15_9, rfl, HA, HJ9, ⟨mc9, rfl⟩⟩ := hcut
          cases kq with
          | zero => exact absurd HA.out (by simp [fold_Neutral.j1])
          | succ kj9 =>
            have H := HA.out
            clear HA
            simp only [fold_Neutral.j1] at H
            by_cases c12 : x15_9 = true
            · subst c12
              have H1 : (some (a1 == 1)) = some r := by rw [if_pos rfl] at H; exact H
              clear H
              have H := H1
              clear H1
              obtain rfl := Option.some.inj H
              go_wp2
              go_ret
              exact ⟨by first | rfl | (simp; done) | (simp [*]; done), by repeat (first | exact Drawn0.refl _ | apply Drawn0.step)⟩
            · replace c12 := Bool.eq_false_iff.mpr c12
              subst c12
              have H1 : (if a0 = 6 then (some (a1 == (-1))) else (some false)) = some r := by rw [if_neg (show ¬ (false = true) by decide)] at H; exact H
              clear H
              have H := H1
              clear H1
              by_cases c13 : a0 = 6
              · rw [if_pos c13] at H
                have c13b0 : (a0 == 6) = true := beq_iff_eq.mpr c13
                have c13b1 : (a0 != 6) = false := bne_eq_false_iff_eq.mpr c13
                clear c13
                obtain rfl := Option.some.inj H
                go_wp2
                go_ret
                exact ⟨by first | rfl | (simp; done) | (simp [*]; done), by repeat (first | exact Drawn0.refl _ | apply Drawn0.step)⟩
              · rw [if_neg c13] at H
                have c13b0 : (a0 == 6) = false := beq_eq_false_iff_ne.mpr c13
                have c13b1 : (a0 != 6) = true := bne_iff_ne.mpr c13
                obtain rfl := Option.some.inj H
                go_wp2
                go_ret
                exact ⟨by first | rfl | (simp; done) | (simp [*]; done), by repeat (first | exact Drawn0.refl _ | apply Drawn0.step)⟩

/-! ### fold_move: function 92 -/
def fold_move.f (a0_0 : Int) (a0_1 : Int) (a0_2 : Int) (a0_3 : Int) (a0_4 : Int) (l0_5 : List Int) (a1 : Int) : Option (Int × Int × Int × Int × Int × List Int) := some (3, a0_1, a1, 0, 0, ([] : List Int))
set_option maxHeartbeats 8000000 in
set_option maxRecDepth 100000 in
theorem fold_move.calls (a0_0 : Int) (a0_1 : Int) (a0_2 : Int) (a0_3 : Int) (a0_4 : Int) (A0_5 : Option Addr) (c0_5 : Nat) (l0_5 : List Int) (a1 : Int) (r1 : Int) (r2 : Int) (r3 : Int) (r4 : Int) (r5 : Int) (r6 : List Int) (w : World) (hr0_5 : Kd.C (Kd.int .i64) w A0_5 l0_5.length l0_5) (hc0_5 : l0_5.length ≤ c0_5) (h : fold_move.f a0_0 a0_1 a0_2 a0_3 a0_4 l0_5 a1 = some (r1, r2, r3, r4, r5, r6)) :
    Calls Try.prog 92 #[.agg #[.int .i64 a0_0, .int .i64 a0_1, .int .i64 a0_2, .int .i64 a0_3, .int .i64 a0_4, .slice A0_5 l0_5.length c0_5], .int .i64 a1] w fun e w' => ∃ v5_ : Value, e = .returned (.agg #[.int .i64 r1, .int .i64 r2, .int .i64 r3, .int .i64 r4, .int .i64 r5, v5_]) ∧ Kd.R (Kd.int .i64) 3 w' w.heap.size (fun _ => True) v5_ r6 ∧ Below w.heap.size w w' := by
  have hu30 := Try.underlying30
  have HR0_5 := Aside0.mk hr0_5
  have HC0_5 := Aside0.mk hc0_5
  clear hr0_5 hc0_5
  have HB := Aside0.mk (Below.refl w.heap.size w)
  have H : (some (3, a0_1, a1, 0, 0, ([] : List Int))) = some (r1, r2, r3, r4, r5, r6) := h
  clear h
  simp only [Option.some.injEq, Prod.mk.injEq] at H
  obtain ⟨rfl, rfl, rfl, rfl, rfl, rfl⟩ := H
  go_enter Try.func92, Try.ntmps92
  go_wp2_with (first | ((with_reducible refine gate_dst (N := 2) rfl ?_); refine box_event ?hg (N := 2) ?hd (cs := #[.int .i64 a0_0, .int .i64 a0_1, .int .i64 a0_2, .int .i64 a0_3, .int .i64 a0_4, .slice A0_5 l0_5.length c0_5]) (t := 30) ?hr ?_; (case hd => rfl); (case hg => rfl); (case hr => first | (go_simp; done) | (go_simp; rfl)); intro gb132 hg w3 hbox hb; have n0_ := Aside0.mk (below_step (by repeat (first | (with_reducible first | exact HB.out | apply below_alloc | apply pw_below_drewN | apply below_drew1) | exact HB.out)) hb); have n1_ := Aside0.mk (hbox); have n2_ := Aside0.mk ((by rw [hg]; exact (below_size (by repeat (first | (with_reducible first | exact HB.out | apply below_alloc | apply pw_below_drewN | apply below_drew1) | exact HB.out))) : w.heap.size ≤ gb132)); have n3_ := Aside0.mk ((by rw [hg]; exact (below_size (by repeat (first | (with_reducible first | exact HB.out | apply below_alloc | apply pw_below_drewN | apply below_drew1) | exact HB.out))) : w.heap.size ≤ gb132)); clear HB; have HB := n0_; have BK132 := n1_; have GW132 := n2_; have GE132 := n3_; clear n0_ n1_ n2_ n3_; clear hb hbox hg) | ((with_reducible refine gate_dst (N := 4) rfl ?_); refine box_event ?hg (N := 4) ?hd (cs := #[.int .i64 0, .int .i64 0, .int .i64 0, .int .i64 0, .int .i64 0, .slice none 0 0]) (t := 30) ?hr ?_; (case hd => rfl); (case hg => rfl); (case hr => first | (go_simp; done) | (go_simp; rfl)); intro gb133 hg w4 hbox hb; have n0_ := Aside0.mk (blk_below (g := gb132) (o := .cells #[.int .i64 a0_0, .int .i64 a0_1, .int .i64 a0_2, .int .i64 a0_3, .int .i64 a0_4, .slice A0_5 l0_5.length c0_5] 30 (0, 0)) (by (with_reducible repeat (first | refine blk_drewN ?_ _ | refine blk_drew ?_ | refine blk_alloc ?_ _)); exact BK132.out) hb); have n1_ := Aside0.mk (below_step (by repeat (first | (with_reducible first | exact HB.out | apply below_alloc | apply pw_below_drewN | apply below_drew1 | refine below_set ?_ GE132.out) | exact HB.out)) hb); have n2_ := Aside0.mk (hbox); have n3_ := Aside0.mk ((by rw [hg]; exact (below_size (by repeat (first | (with_reducible first | exact HB.out | apply below_alloc | apply pw_below_drewN | apply below_drew1 | refine below_set ?_ GE132.out) | exact HB.out))) : w.heap.size ≤ gb133)); have n4_ := Aside0.mk ((by rw [hg]; exact (below_size (by repeat (first | (with_reducible first | exact HB.out | apply below_alloc | apply pw_below_drewN | apply below_drew1 | refine below_set ?_ GE132.out) | exact HB.out))) : w.heap.size ≤ gb133)); have n5_ := Aside0.mk ((by rw [hg]; exact Nat.ne_of_lt (blk_lt (g := gb132) (o := .cells #[.int .i64 a0_0, .int .i64 a0_1, .int .i64 a0_2, .int .i64 a0_3, .int .i64 a0_4, .slice A0_5 l0_5.length c0_5] 30 (0, 0)) (by (with_reducible repeat (first | refine blk_drewN ?_ _ | refine blk_drew ?_ | refine blk_alloc ?_ _)); exact BK132.out)) : gb132 ≠ gb133)); have n6_ := Aside0.mk ((by rw [hg]; exact Nat.ne_of_gt (blk_lt (g := gb132) (o := .cells #[.int .i64 a0_0, .int .i64 a0_1, .int .i64 a0_2, .int .i64 a0_3, .int .i64 a0_4, .slice A0_5 l0_5.length c0_5] 30 (0, 0)) (by (with_reducible repeat (first | refine blk_drewN ?_ _ | refine blk_drew ?_ | refine blk_alloc ?_ _)); exact BK132.out)) : gb133 ≠ gb132)); clear BK132; clear HB; have BK132 := n0_; have HB := n1_; have BK133 := n2_; have GW133 := n3_; have GE133 := n4_; have NB132_133 := n5_; have NB133_132 := n6_; clear n0_ n1_ n2_ n3_ n4_ n5_ n6_; clear hb hbox hg; have hnb5 := NB132_133.out; have hnc5 := NB133_132.out; have hcz6_0 : w4.cell? ⟨gb132, 0, none⟩ = some (.int .i64 a0_0) := (blk_cell BK132.out 0).trans rfl; have hcz6_1 : w4.cell? ⟨gb132, 1, none⟩ = some (.int .i64 a0_1) := (blk_cell BK132.out 1).trans rfl; have hcz6_2 : w4.cell? ⟨gb132, 2, none⟩ = some (.int .i64 a0_2) := (blk_cell BK132.out 2).trans rfl; have hcz6_3 : w4.cell? ⟨gb132, 3, none⟩ = some (.int .i64 a0_3) := (blk_cell BK132.out 3).trans rfl; have hcz6_4 : w4.cell? ⟨gb132, 4, none⟩ = some (.int .i64 a0_4) := (blk_cell BK132.out 4).trans rfl; have hcz6_5 : w4.cell? ⟨gb132, 5, none⟩ = some (.slice A0_5 l0_5.length c0_5) := (blk_cell BK132.out 5).trans rfl; have hfz6_0 := blk_frozen BK132.out 0; have hfz6_1 := blk_frozen BK132.out 1; have hfz6_2 := blk_frozen BK132.out 2; have hfz6_3 := blk_frozen BK132.out 3; have hfz6_4 := blk_frozen BK132.out 4; have hfz6_5 := blk_frozen BK132.out 5; have hcz7_0 : w4.cell? ⟨gb133, 0, none⟩ = some (.int .i64 0) := (blk_cell BK133.out 0).trans rfl; have hcz7_1 : w4.cell? ⟨gb133, 1, none⟩ = some (.int .i64 0) := (blk_cell BK133.out 1).trans rfl; have hcz7_2 : w4.cell? ⟨gb133, 2, none⟩ = some (.int .i64 0) := (blk_cell BK133.out 2).trans rfl; have hcz7_3 : w4.cell? ⟨gb133, 3, none⟩ = some (.int .i64 0) := (blk_cell BK133.out 3).trans rfl; have hcz7_4 : w4.cell? ⟨gb133, 4, none⟩ = some (.int .i64 0) := (blk_cell BK133.out 4).trans rfl; have hcz7_5 : w4.cell? ⟨gb133, 5, none⟩ = some (.slice none 0 0) := (blk_cell BK133.out 5).trans rfl; have hfz7_0 := blk_frozen BK133.out 0; have hfz7_1 := blk_frozen BK133.out 1; have hfz7_2 := blk_frozen BK133.out 2; have hfz7_3 := blk_frozen BK133.out 3; have hfz7_4 := blk_frozen BK133.out 4; have hfz7_5 := blk_frozen BK133.out 5))
  refine bodyPost_ret (results_cell_row rfl _ _ gb133 30 #[.int .i64 3, .int .i64 a0_1, .int .i64 a1, .int .i64 0, .int .i64 0, .slice none 0 0] (0, 0) _ rfl (by (with_reducible repeat (first | refine blk_drewN ?_ _ | refine blk_drew ?_ | refine blk_alloc ?_ _)); refine blk_put (cs := #[.int .i64 3, .int .i64 a0_1, .int .i64 a1, .int .i64 0, .int .i64 0, .slice none 0 0]) ?_ 5 _ rfl; (with_reducible repeat (first | refine blk_drewN ?_ _ | refine blk_drew ?_ | refine blk_alloc ?_ _)); refine blk_put (cs := #[.int .i64 3, .int .i64 a0_1, .int .i64 a1, .int .i64 0, .int .i64 0, .slice none 0 0]) ?_ 4 _ rfl; (with_reducible repeat (first | refine blk_drewN ?_ _ | refine blk_drew ?_ | refine blk_alloc ?_ _)); refine blk_put (cs := #[.int .i64 3, .int .i64 a0_1, .int .i64 a1, .int .i64 0, .int .i64 0, .slice none 0 0]) ?_ 3 _ rfl; (with_reducible repeat (first | refine blk_drewN ?_ _ | refine blk_drew ?_ | refine blk_alloc ?_ _)); refine blk_put (cs := #[.int .i64 3, .int .i64 a0_1, .int .i64 0, .int .i64 0, .int .i64 0, .slice none 0 0]) ?_ 2 _ rfl; (with_reducible repeat (first | refine blk_drewN ?_ _ | refine blk_drew ?_ | refine blk_alloc ?_ _)); refine blk_put (cs := #[.int .i64 3, .int .i64 0, .int .i64 0, .int .i64 0, .int .i64 0, .slice none 0 0]) ?_ 1 _ rfl; (with_reducible repeat (first | refine blk_drewN ?_ _ | refine blk_drew ?_ | refine blk_alloc ?_ _)); refine blk_put (cs := #[.int .i64 0, .int .i64 0, .int .i64 0, .int .i64 0, .int .i64 0, .slice none 0 0]) ?_ 0 _ rfl; (with_reducible repeat (first | refine blk_drewN ?_ _ | refine blk_drew ?_ | refine blk_alloc ?_ _)); exact BK133.out) Try.underlying30 rfl (by kernel_rfl)) rfl ?_
  exact ⟨_, by first | rfl | (simp [errW_none, errW_some] <;> rfl) | (simp [*, errW_none, errW_some] <;> rfl), by first | exact Kd.R_nil _ _ _ _ _ | exact Kd.N_nil _ _ _ _ _ | exact Kd.V_nil _ _ _ _ _ | exact Kd.Q_nil _ _ _ _ _ | exact Kd.S_nil _ _ _ _ _, by repeat (first | (with_reducible first | exact HB.out | apply below_alloc | apply pw_below_drewN | apply below_drew1 | refine below_set ?_ GE132.out | refine below_set ?_ GE133.out) | exact HB.out)⟩

/-! ### code_shapeOf: function 61 -/
def code_shapeOf.j0 : Nat → Int → Bool → Option (Bool × Bool × Bool × Bool × Bool)
  | 0, _, _ => none
  | k + 1, x4, x5 => if x5 = true then (some (true, false, false, true, true)) else (if x4 = 2 then (some (true, true, true, true, true)) else (if x4 = 3 then (some (true, true, false, false, true)) else (if x4 = 4 then (some (true, true, false, true, true)) else (if x4 = 5 then (some (false, true, true, true, true)) else (if x4 = 8 then (some (true, false, false, false, true)) else (if x4 = 9 then (some (false, true, false, false, true)) else (some (false, false, false, false, false))))))))
def code_shapeOf.f (k : Nat) (a0 : Int) : Option (Bool × Bool × Bool × Bool × Bool) := if a0 = 1 then (code_shapeOf.j0 k a0 (a0 == 1)) else (if a0 = 6 then (code_shapeOf.j0 k a0 (a0 == 6)) else (code_shapeOf.j0 k a0 (a0 == 7)))
theorem code_shapeOf.mono_l : ∀ k, (∀ y0 y1, LeO (code_shapeOf.j0 k y0 y1) (code_shapeOf.j0 (k + 1) y0 y1))
  | 0 => fun _ _ r h => by simp [code_shapeOf.j0] at h
  | k + 1 => by
    have ih0 := code_shapeOf.mono_l k
    · intro y0 y1
      unfold code_shapeOf.j0
      repeat' first
      | (with_reducible exact ih0 _ _)
      | (with_reducible exact LeO.refl _)
      | (with_reducible exact LeO.none _)
      | (with_reducible refine LeO.ite ?_ ?_)
      | (with_reducible refine LeO.bind ?_ (fun _ => ?_))
      | exact ih0 _ _
      | exact LeO.none _
      | refine LeO.ite ?_ ?_
      | refine LeO.bind ?_ (fun _ => ?_)
theorem code_shapeOf.mono : ∀ a0 k, LeO (code_shapeOf.f k a0) (code_shapeOf.f (k + 1) a0) := by
  intro a0 k
  have ih0 := code_shapeOf.mono_l k
  unfold code_shapeOf.f
  repeat' first
      | (with_reducible exact ih0 _ _)
      | (with_reducible exact LeO.refl _)
      | (with_reducible exact LeO.none _)
      | (with_reducible refine LeO.ite ?_ ?_)
      | (with_reducible refine LeO.bind ?_ (fun _ => ?_))
      | exact ih0 _ _
      | exact LeO.none _
      | refine LeO.ite ?_ ?_
      | refine LeO.bind ?_ (fun _ => ?_)
set_option maxHeartbeats 8000000 in
set_option maxRecDepth 100000 in
theorem code_shapeOf.calls (k : Nat) (a0 : Int) (r1 : Bool) (r2 : Bool) (r3 : Bool) (r4 : Bool) (r5 : Bool) (w : World) (h : code_shapeOf.f k a0 = some (r1, r2, r3, r4, r5)) :
    Calls Try.prog 61 #[.int .i64 a0] w fun e w' => e = .returned (.tuple #[.agg #[.bool r1, .bool r2, .bool r3, .bool r4], .bool r5]) ∧ Below w.heap.size w w' := by
  have hu89 := Try.underlying89
  have HB := Aside0.mk (Below.refl w.heap.size w)
  have H : (if a0 = 1 then (code_shapeOf.j0 k a0 (a0 == 1)) else (if a0 = 6 then (code_shapeOf.j0 k a0 (a0 == 6)) else (code_shapeOf.j0 k a0 (a0 == 7)))) = some (r1, r2, r3, r4, r5) := h
  clear h
  have HC2 := Aside0.mk H
  clear H
  go_enter Try.func61, Try.ntmps61
  go_upto_if 5 with (first | ((with_reducible refine gate_dst (N := 2) rfl ?_); refine box_event ?hg (N := 2) ?hd (cs := #[.bool false, .bool false, .bool false, .bool false]) (t := 89) ?hr ?_; (case hd => rfl); (case hg => rfl); (case hr => first | (go_simp; done) | (go_simp; rfl)); intro gb134 hg w3 hbox hb; have n0_ := Aside0.mk (below_step (by repeat (first | (with_reducible first | exact HB.out | apply below_alloc | apply pw_below_drewN | apply below_drew1) | exact HB.out)) hb); have n1_ := Aside0.mk (hbox); have n2_ := Aside0.mk ((by rw [hg]; exact (below_size (by repeat (first | (with_reducible first | exact HB.out | apply below_alloc | apply pw_below_drewN | apply below_drew1) | exact HB.out))) : w.heap.size ≤ gb134)); have n3_ := Aside0.mk ((by rw [hg]; exact (below_size (by repeat (first | (with_reducible first | exact HB.out | apply below_alloc | apply pw_below_drewN | apply below_drew1) | exact HB.out))) : w.heap.size ≤ gb134)); clear HB; have HB := n0_; have BK134 := n1_; have GW134 := n2_; have GE134 := n3_; clear n0_ n1_ n2_ n3_; clear hb hbox hg))
  (try simp only [Act.put, List.setIfInBounds_toArray, List.set_cons_zero, List.set_cons_succ])
  go_cut [5] (fun v5 wc => ∃ (kq : Nat) (x5_1 : Bool), v5 = .bool x5_1 ∧ Aside0 (code_shapeOf.j0 kq a0 x5_1 = some (r1, r2, r3, r4, r5)) ∧ Aside0 (kq ≤ k) ∧ Aside0 (wc.heap[gb134]? = some (.cells #[.bool false, .bool false, .bool false, .bool false] 89 (0, 0))) ∧ Aside0 (Below w.heap.size w wc))
  case first =>
    have H := HC2.out
    clear HC2
    by_cases c4 : a0 = 1
    · rw [if_pos c4] at H
      have c4b0 : (a0 == 1) = true := beq_iff_eq.mpr c4
      have c4b1 : (a0 != 1) = false := bne_eq_false_iff_eq.mpr c4
      clear c4
      (first | rw [c4b0] | (simp only [i64_w, i32_w]; rw [c4b0]) | skip)
      have H' := Aside0.mk H
      clear H
      go_wp2
      go_meet
      case rel => exact ⟨_, ((a0 == 1)), (by first | rfl | (simp; done) | (simp [*]; done)), H', ⟨by first | omega | exact Nat.le_refl _⟩, ⟨by (with_reducible repeat (first | refine blk_drewN ?_ _ | refine blk_drew ?_ | refine blk_alloc ?_ _)); exact BK134.out⟩, ⟨by repeat (first | (with_reducible first | exact HB.out | apply below_alloc | apply pw_below_drewN | apply below_drew1 | refine below_set ?_ GE134.out) | exact HB.out)⟩⟩
    · rw [if_neg c4] at H
      have c4b0 : (a0 == 1) = false := beq_eq_false_iff_ne.mpr c4
      have c4b1 : (a0 != 1) = true := bne_iff_ne.mpr c4
      (first | rw [c4b0] | (simp only [i64_w, i32_w]; rw [c4b0]) | skip)
      by_cases c5 : a0 = 6
      · rw [if_pos c5] at H
        have c5b0 : (a0 == 6) = true := beq_iff_eq.mpr c5
        have c5b1 : (a0 != 6) = false := bne_eq_false_iff_eq.mpr c5
        clear c5
        have H' := Aside0.mk H
        clear H
        go_wp2
        go_meet
        case rel => exact ⟨_, ((a0 == 6)), (by first | rfl | (simp; done) | (simp [*]; done)), H', ⟨by first | omega | exact Nat.le_refl _⟩, ⟨by (with_reducible repeat (first | refine blk_drewN ?_ _ | refine blk_drew ?_ | refine blk_alloc ?_ _)); exact BK134.out⟩, ⟨by repeat (first | (with_reducible first | exact HB.out | apply below_alloc | apply pw_below_drewN | apply below_drew1 | refine below_set ?_ GE134.out) | exact HB.out)⟩⟩
      · rw [if_neg c5] at H
        have c5b0 : (a0 == 6) = false := beq_eq_false_iff_ne.mpr c5
        have c5b1 : (a0 != 6) = true := bne_iff_ne.mpr c5
        have H' := Aside0.mk H
        clear H
        go_wp2
        go_meet
        case rel => exact ⟨_, ((a0 == 7)), (by first | rfl | (simp; done) | (simp [*]; done)), H', ⟨by first | omega | exact Nat.le_refl _⟩, ⟨by (with_reducible repeat (first | refine blk_drewN ?_ _ | refine blk_drew ?_ | refine blk_alloc ?_ _)); exact BK134.out⟩, ⟨by repeat (first | (with_reducible first | exact HB.out | apply below_alloc | apply pw_below_drewN | apply below_drew1 | refine below_set ?_ GE134.out) | exact HB.out)⟩⟩
  case rest =>
    clear HC2
    try clear p2
    try clear c4
    try clear c4b0
    try clear c4b1
    try clear c5
    try clear c5b0
    try clear c5b1
    obtain ⟨kq, x5_1, rfl, HA, HJ1, BK134, HB⟩ := hcut
    cases kq with
    | zero => exact absurd HA.out (by simp [code_shapeOf.j0])
    | succ kj1 =>
      have H := HA.out
      clear HA
      simp only [code_shapeOf.j0] at H
      by_cases c6 : x5_1 = true
      · subst c6
        have H1 : (some (true, false, false, true, true)) = some (r1, r2, r3, r4, r5) := by rw [if_pos rfl] at H; exact H
        clear H
        have H := H1
        clear H1
        simp only [Option.some.injEq, Prod.mk.injEq] at H
        obtain ⟨rfl, rfl, rfl, rfl, rfl⟩ := H
        have hcz7_0 : wc.cell? ⟨gb134, 0, none⟩ = some (.bool false) := (blk_cell BK134.out 0).trans rfl
        have hcz7_1 : wc.cell? ⟨gb134, 1, none⟩ = some (.bool false) := (blk_cell BK134.out 1).trans rfl
        have hcz7_2 : wc.cell? ⟨gb134, 2, none⟩ = some (.bool false) := (blk_cell BK134.out 2).trans rfl
        have hcz7_3 : wc.cell? ⟨gb134, 3, none⟩ = some (.bool false) := (blk_cell BK134.out 3).trans rfl
        have hfz7_0 := blk_frozen BK134.out 0
        have hfz7_1 := blk_frozen BK134.out 1
        have hfz7_2 := blk_frozen BK134.out 2
        have hfz7_3 := blk_frozen BK134.out 3
        go_wp2
        refine bodyPost_ret (results_ct rfl _ _ gb134 89 #[.bool true, .bool false, .bool false, .bool true] (0, 0) _ rfl (by (with_reducible repeat (first | refine blk_drewN ?_ _ | refine blk_drew ?_ | refine blk_alloc ?_ _)); refine blk_put (cs := #[.bool true, .bool false, .bool false, .bool false]) ?_ 3 _ rfl; (with_reducible repeat (first | refine blk_drewN ?_ _ | refine blk_drew ?_ | refine blk_alloc ?_ _)); refine blk_put (cs := #[.bool true, .bool false, .bool false, .bool false]) ?_ 2 _ rfl; (with_reducible repeat (first | refine blk_drewN ?_ _ | refine blk_drew ?_ | refine blk_alloc ?_ _)); refine blk_put (cs := #[.bool true, .bool false, .bool false, .bool false]) ?_ 1 _ rfl; (with_reducible repeat (first | refine blk_drewN ?_ _ | refine blk_drew ?_ | refine blk_alloc ?_ _)); refine blk_put (cs := #[.bool false, .bool false, .bool false, .bool false]) ?_ 0 _ rfl; (with_reducible repeat (first | refine blk_drewN ?_ _ | refine blk_drew ?_ | refine blk_alloc ?_ _)); exact BK134.out) Try.underlying89 rfl (by kernel_rfl)) rfl ?_
        exact ⟨by first | rfl | (simp [errW_none, errW_some] <;> rfl) | (simp [*, errW_none, errW_some] <;> rfl), by repeat (first | (with_reducible first | exact HB.out | apply below_alloc | apply pw_below_drewN | apply below_drew1 | refine below_set ?_ GE134.out) | exact HB.out)⟩
      · replace c6 := Bool.eq_false_iff.mpr c6
        subst c6
        have H1 : (if a0 = 2 then (some (true, true, true, true, true)) else (if a0 = 3 then (some (true, true, false, false, true)) else (if a0 = 4 then (some (true, true, false, true, true)) else (if a0 = 5 then (some (false, true, true, true, true)) else (if a0 = 8 then (some (true, false, false, false, true)) else (if a0 = 9 then (some (false, true, false, false, true)) else (some (false, false, false, false, false)))))))) = some (r1, r2, r3, r4, r5) := by rw [if_neg (show ¬ (false = true) by decide)] at H; exact H
        clear H
        have H := H1
        clear H1
        by_cases c8 : a0 = 2
        · rw [if_pos c8] at H
          have c8b0 : (a0 == 2) = true := beq_iff_eq.mpr c8
          have c8b1 : (a0 != 2) = false := bne_eq_false_iff_eq.mpr c8
          clear c8
          simp only [Option.some.injEq, Prod.mk.injEq] at H
          obtain ⟨rfl, rfl, rfl, rfl, rfl⟩ := H
          have hcz9_0 : wc.cell? ⟨gb134, 0, none⟩ = some (.bool false) := (blk_cell BK134.out 0).trans rfl
          have hcz9_1 : wc.cell? ⟨gb134, 1, none⟩ = some (.bool false) := (blk_cell BK134.out 1).trans rfl
          have hcz9_2 : wc.cell? ⟨gb134, 2, none⟩ = some (.bool false) := (blk_cell BK134.out 2).trans rfl
          have hcz9_3 : wc.cell? ⟨gb134, 3, none⟩ = some (.bool false) := (blk_cell BK134.out 3).trans rfl
          have hfz9_0 := blk_frozen BK134.out 0
          have hfz9_1 := blk_frozen BK134.out 1
          have hfz9_2 := blk_frozen BK134.out 2
          have hfz9_3 := blk_frozen BK134.out 3
          go_wp2
          refine bodyPost_ret (results_ct rfl _ _ gb134 89 #[.bool true, .bool true, .bool true, .bool true] (0, 0) _ rfl (by (with_reducible repeat (first | refine blk_drewN ?_ _ | refine blk_drew ?_ | refine blk_alloc ?_ _)); refine blk_put (cs := #[.bool true, .bool true, .bool true, .bool false]) ?_ 3 _ rfl; (with_reducible repeat (first | refine blk_drewN ?_ _ | refine blk_drew ?_ | refine blk_alloc ?_ _)); refine blk_put (cs := #[.bool true, .bool true, .bool false, .bool false]) ?_ 2 _ rfl; (with_reducible repeat (first | refine blk_drewN ?_ _ | refine blk_drew ?_ | refine blk_alloc ?_ _)); refine blk_put (cs := #[.bool true, .bool false, .bool false, .bool false]) ?_ 1 _ rfl; (with_reducible repeat (first | refine blk_drewN ?_ _ | refine blk_drew ?_ | refine blk_alloc ?_ _)); refine blk_put (cs := #[.bool false, .bool false, .bool false, .bool false]) ?_ 0 _ rfl; (with_reducible repeat (first | refine blk_drewN ?_ _ | refine blk_drew ?_ | refine blk_alloc ?_ _)); exact BK134.out) Try.underlying89 rfl (by kernel_rfl)) rfl ?_
          exact ⟨by first | rfl | (simp [errW_none, errW_some] <;> rfl) | (simp [*, errW_none, errW_some] <;> rfl), by repeat (first | (with_reducible first | exact HB.out | apply below_alloc | apply pw_below_drewN | apply below_drew1 | refine below_set ?_ GE134.out) | exact HB.out)⟩
        · rw [if_neg c8] at H
          have c8b0 : (a0 == 2) = false := beq_eq_false_iff_ne.mpr c8
          have c8b1 : (a0 != 2) = true := bne_iff_ne.mpr c8
          by_cases c10 : a0 = 3
          · rw [if_pos c10] at H
            have c10b0 : (a0 == 3) = true := beq_iff_eq.mpr c10
            have c10b1 : (a0 != 3) = false := bne_eq_false_iff_eq.mpr c10
            clear c10
            simp only [Option.some.injEq, Prod.mk.injEq] at H
            obtain ⟨rfl, rfl, rfl, rfl, rfl⟩ := H
            have hcz11_0 : wc.cell? ⟨gb134, 0, none⟩ = some (.bool false) := (blk_cell BK134.out 0).trans rfl
            have hcz11_1 : wc.cell? ⟨gb134, 1, none⟩ = some (.bool false) := (blk_cell BK134.out 1).trans rfl
            have hcz11_2 : wc.cell? ⟨gb134, 2, none⟩ = some (.bool false) := (blk_cell BK134.out 2).trans rfl
            have hcz11_3 : wc.cell? ⟨gb134, 3, none⟩ = some (.bool false) := (blk_cell BK134.out 3).trans rfl
            have hfz11_0 := blk_frozen BK134.out 0
            have hfz11_1 := blk_frozen BK134.out 1
            have hfz11_2 := blk_frozen BK134.out 2
            have hfz11_3 := blk_frozen BK134.out 3
            go_wp2
            refine bodyPost_ret (results_ct rfl _ _ gb134 89 #[.bool true, .bool true, .bool false, .bool false] (0, 0) _ rfl (by (with_reducible repeat (first | refine blk_drewN ?_ _ | refine blk_drew ?_ | refine blk_alloc ?_ _)); refine blk_put (cs := #[.bool true, .bool true, .bool false, .bool false]) ?_ 3 _ rfl; (with_reducible repeat (first | refine blk_drewN ?_ _ | refine blk_drew ?_ | refine blk_alloc ?_ _)); refine blk_put (cs := #[.bool true, .bool true, .bool false, .bool false]) ?_ 2 _ rfl; (with_reducible repeat (first | refine blk_drewN ?_ _ | refine blk_drew ?_ | refine blk_alloc ?_ _)); refine blk_put (cs := #[.bool true, .bool false, .bool false, .bool false]) ?_ 1 _ rfl; (with_reducible repeat (first | refine blk_drewN ?_ _ | refine blk_drew ?_ | refine blk_alloc ?_ _)); refine blk_put (cs := #[.bool false, .bool false, .bool false, .bool false]) ?_ 0 _ rfl; (with_reducible repeat (first | refine blk_drewN ?_ _ | refine blk_drew ?_ | refine blk_alloc ?_ _)); exact BK134.out) Try.underlying89 rfl (by kernel_rfl)) rfl ?_
            exact ⟨by first | rfl | (simp [errW_none, errW_some] <;> rfl) | (simp [*, errW_none, errW_some] <;> rfl), by repeat (first | (with_reducible first | exact HB.out | apply below_alloc | apply pw_below_drewN | apply below_drew1 | refine below_set ?_ GE134.out) | exact HB.out)⟩
          · rw [if_neg c10] at H
            have c10b0 : (a0 == 3) = false := beq_eq_false_iff_ne.mpr c10
            have c10b1 : (a0 != 3) = true := bne_iff_ne.mpr c10
            by_cases c12 : a0 = 4
            · rw [if_pos c12] at H
              have c12b0 : (a0 == 4) = true := beq_iff_eq.mpr c12
              have c12b1 : (a0 != 4) = false := bne_eq_false_iff_eq.mpr c12
              clear c12
              simp only [Option.some.injEq, Prod.mk.injEq] at H
              obtain ⟨rfl, rfl, rfl, rfl, rfl⟩ := H
              have hcz13_0 : wc.cell? ⟨gb134, 0, none⟩ = some (.bool false) := (blk_cell BK134.out 0).trans rfl
              have hcz13_1 : wc.cell? ⟨gb134, 1, none⟩ = some (.bool false) := (blk_cell BK134.out 1).trans rfl
              have hcz13_2 : wc.cell? ⟨gb134, 2, none⟩ = some (.bool false) := (blk_cell BK134.out 2).trans rfl
              have hcz13_3 : wc.cell? ⟨gb134, 3, none⟩ = some (.bool false) := (blk_cell BK134.out 3).trans rfl
              have hfz13_0 := blk_frozen BK134.out 0
              have hfz13_1 := blk_frozen BK134.out 1
              have hfz13_2 := blk_frozen BK134.out 2
              have hfz13_3 := blk_frozen BK134.out 3
              go_wp2
              refine bodyPost_ret (results_ct rfl _ _ gb134 89 #[.bool true, .bool true, .bool false, .bool true] (0, 0) _ rfl (by (with_reducible repeat (first | refine blk_drewN ?_ _ | refine blk_drew ?_ | refine blk_alloc ?_ _)); refine blk_put (cs := #[.bool true, .bool true, .bool false, .bool false]) ?_ 3 _ rfl; (with_reducible repeat (first | refine blk_drewN ?_ _ | refine blk_drew ?_ | refine blk_alloc ?_ _)); refine blk_put (cs := #[.bool true, .bool true, .bool false, .bool false]) ?_ 2 _ rfl; (with_reducible repeat (first | refine blk_drewN ?_ _ | refine blk_drew ?_ | refine blk_alloc ?_ _)); refine blk_put (cs := #[.bool true, .bool false, .bool false, .bool false]) ?_ 1 _ rfl; (with_reducible repeat (first | refine blk_drewN ?_ _ | refine blk_drew ?_ | refine blk_alloc ?_ _)); refine blk_put (cs := #[.bool false, .bool false, .bool false, .bool false]) ?_ 0 _ rfl; (with_reducible repeat (first | refine blk_drewN ?_ _ | refine blk_drew ?_ | refine blk_alloc ?_ _)); exact BK134.out) Try.underlying89 rfl (by kernel_rfl)) rfl ?_
              exact ⟨by first | rfl | (simp [errW_none, errW_some] <;> rfl) | (simp [*, errW_none, errW_some] <;> rfl), by repeat (first | (with_reducible first | exact HB.out | apply below_alloc | apply pw_below_drewN | apply below_drew1 | refine below_set ?_ GE134.out) | exact HB.out)⟩
            · rw [if_neg c12] at H
              have c12b0 : (a0 == 4) = false := beq_eq_false_iff_ne.mpr c12
              have c12b1 : (a0 != 4) = true := bne_iff_ne.mpr c12
              by_cases c14 : a0 = 5
              · rw [if_pos c14] at H
                have c14b0 : (a0 == 5) = true := beq_iff_eq.mpr c14
                have c14b1 : (a0 != 5) = false := bne_eq_false_iff_eq.mpr c14
                clear c14
                simp only [Option.some.injEq, Prod.mk.injEq] at H
                obtain ⟨rfl, rfl, rfl, rfl, rfl⟩ := H
                have hcz15_0 : wc.cell? ⟨gb134, 0, none⟩ = some (.bool false) := (blk_cell BK134.out 0).trans rfl
                have hcz15_1 : wc.cell? ⟨gb134, 1, none⟩ = some (.bool false) := (blk_cell BK134.out 1).trans rfl
                have hcz15_2 : wc.cell? ⟨gb134, 2, none⟩ = some (.bool false) := (blk_cell BK134.out 2).trans rfl
                have hcz15_3 : wc.cell? ⟨gb134, 3, none⟩ = some (.bool false) := (blk_cell BK134.out 3).trans rfl
                have hfz15_0 := blk_frozen BK134.out 0
                have hfz15_1 := blk_frozen BK134.out 1
                have hfz15_2 := blk_frozen BK134.out 2
                have hfz15_3 := blk_frozen BK134.out 3
                go_wp2
                refine bodyPost_ret (results_ct rfl _ _ gb134 89 #[.bool false, .bool true, .bool true, .bool true] (0, 0) _ rfl (by (with_reducible repeat (first | refine blk_drewN ?_ _ | refine blk_drew ?_ | refine blk_alloc ?_ _)); refine blk_put (cs := #[.bool false, .bool true, .bool true, .bool false]) ?_ 3 _ rfl; (with_reducible repeat (first | refine blk_drewN ?_ _ | refine blk_drew ?_ | refine blk_alloc ?_ _)); refine blk_put (cs := #[.bool false, .bool true, .bool false, .bool false]) ?_ 2 _ rfl; (with_reducible repeat (first | refine blk_drewN ?_ _ | refine blk_drew ?_ | refine blk_alloc ?_ _)); refine blk_put (cs := #[.bool false, .bool false, .bool false, .bool false]) ?_ 1 _ rfl; (with_reducible repeat (first | refine blk_drewN ?_ _ | refine blk_drew ?_ | refine blk_alloc ?_ _)); refine blk_put (cs := #[.bool false, .bool false, .bool false, .bool false]) ?_ 0 _ rfl; (with_reducible repeat (first | refine blk_drewN ?_ _ | refine blk_drew ?_ | refine blk_alloc ?_ _)); exact BK134.out) Try.underlying89 rfl (by kernel_rfl)) rfl ?_
                exact ⟨by first | rfl | (simp [errW_none, errW_some] <;> rfl) | (simp [*, errW_none, errW_some] <;> rfl), by repeat (first | (with_reducible first | exact HB.out | apply below_alloc | apply pw_below_drewN | apply below_drew1 | refine below_set ?_ GE134.out) | exact HB.out)⟩
              · rw [if_neg c14] at H
                have c14b0 : (a0 == 5) = false := beq_eq_false_iff_ne.mpr c14
                have c14b1 : (a0 != 5) = true := bne_iff_ne.mpr c14
                by_cases c16 : a0 = 8
                · rw [if_pos c16] at H
                  have c16b0 : (a0 == 8) = true := beq_iff_eq.mpr c16
                  have c16b1 : (a0 != 8) = false := bne_eq_false_iff_eq.mpr c16
                  clear c16
                  simp only [Option.some.injEq, Prod.mk.injEq] at H
                  obtain ⟨rfl, rfl, rfl, rfl, rfl⟩ := H
                  have hcz17_0 : wc.cell? ⟨gb134, 0, none⟩ = some (.bool false) := (blk_cell BK134.out 0).trans rfl
                  have hcz17_1 : wc.cell? ⟨gb134, 1, none⟩ = some (.bool false) := (blk_cell BK134.out 1).trans rfl
                  have hcz17_2 : wc.cell? ⟨gb134, 2, none⟩ = some (.bool false) := (blk_cell BK134.out 2).trans rfl
                  have hcz17_3 : wc.cell? ⟨gb134, 3, none⟩ = some (.bool false) := (blk_cell BK134.out 3).trans rfl
                  have hfz17_0 := blk_frozen BK134.out 0
                  have hfz17_1 := blk_frozen BK134.out 1
                  have hfz17_2 := blk_frozen BK134.out 2
                  have hfz17_3 := blk_frozen BK134.out 3
                  go_wp2
                  refine bodyPost_ret (results_ct rfl _ _ gb134 89 #[.bool true, .bool false, .bool false, .bool false] (0, 0) _ rfl (by (with_reducible repeat (first | refine blk_drewN ?_ _ | refine blk_drew ?_ | refine blk_alloc ?_ _)); refine blk_put (cs := #[.bool true, .bool false, .bool false, .bool false]) ?_ 3 _ rfl; (with_reducible repeat (first | refine blk_drewN ?_ _ | refine blk_drew ?_ | refine blk_alloc ?_ _)); refine blk_put (cs := #[.bool true, .bool false, .bool false, .bool false]) ?_ 2 _ rfl; (with_reducible repeat (first | refine blk_drewN ?_ _ | refine blk_drew ?_ | refine blk_alloc ?_ _)); refine blk_put (cs := #[.bool true, .bool false, .bool false, .bool false]) ?_ 1 _ rfl; (with_reducible repeat (first | refine blk_drewN ?_ _ | refine blk_drew ?_ | refine blk_alloc ?_ _)); refine blk_put (cs := #[.bool false, .bool false, .bool false, .bool false]) ?_ 0 _ rfl; (with_reducible repeat (first | refine blk_drewN ?_ _ | refine blk_drew ?_ | refine blk_alloc ?_ _)); exact BK134.out) Try.underlying89 rfl (by kernel_rfl)) rfl ?_
                  exact ⟨by first | rfl | (simp [errW_none, errW_some] <;> rfl) | (simp [*, errW_none, errW_some] <;> rfl), by repeat (first | (with_reducible first | exact HB.out | apply below_alloc | apply pw_below_drewN | apply below_drew1 | refine below_set ?_ GE134.out) | exact HB.out)⟩
                · rw [if_neg c16] at H
                  have c16b0 : (a0 == 8) = false := beq_eq_false_iff_ne.mpr c16
                  have c16b1 : (a0 != 8) = true := bne_iff_ne.mpr c16
                  by_cases c18 : a0 = 9
                  · rw [if_pos c18] at H
                    have c18b0 : (a0 == 9) = true := beq_iff_eq.mpr c18
                    have c18b1 : (a0 != 9) = false := bne_eq_false_iff_eq.mpr c18
                    clear c18
                    simp only [Option.some.injEq, Prod.mk.injEq] at H
                    obtain ⟨rfl, rfl, rfl, rfl, rfl⟩ := H
                    have hcz19_0 : wc.cell? ⟨gb134, 0, none⟩ = some (.bool false) := (blk_cell BK134.out 0).trans rfl
                    have hcz19_1 : wc.cell? ⟨gb134, 1, none⟩ = some (.bool false) := (blk_cell BK134.out 1).trans rfl
                    have hcz19_2 : wc.cell? ⟨gb134, 2, none⟩ = some (.bool false) := (blk_cell BK134.out 2).trans rfl
                    have hcz19_3 : wc.cell? ⟨gb134, 3, none⟩ = some (.bool false) := (blk_cell BK134.out 3).trans rfl
                    have hfz19_0 := blk_frozen BK134.out 0
                    have hfz19_1 := blk_frozen BK134.out 1
                    have hfz19_2 := blk_frozen BK134.out 2
                    have hfz19_3 := blk_frozen BK134.out 3
                    go_wp2
                    refine bodyPost_ret (results_ct rfl _ _ gb134 89 #[.bool false, .bool true, .bool false, .bool false] (0, 0) _ rfl (by (with_reducible repeat (first | refine blk_drewN ?_ _ | refine blk_drew ?_ | refine blk_alloc ?_ _)); refine blk_put (cs := #[.bool false, .bool true, .bool false, .bool false]) ?_ 3 _ rfl; (with_reducible repeat (first | refine blk_drewN ?_ _ | refine blk_drew ?_ | refine blk_alloc ?_ _)); refine blk_put (cs := #[.bool false, .bool true, .bool false, .bool false]) ?_ 2 _ rfl; (with_reducible repeat (first | refine blk_drewN ?_ _ | refine blk_drew ?_ | refine blk_alloc ?_ _)); refine blk_put (cs := #[.bool false, .bool false, .bool false, .bool false]) ?_ 1 _ rfl; (with_reducible repeat (first | refine blk_drewN ?_ _ | refine blk_drew ?_ | refine blk_alloc ?_ _)); refine blk_put (cs := #[.bool false, .bool false, .bool false, .bool false]) ?_ 0 _ rfl; (with_reducible repeat (first | refine blk_drewN ?_ _ | refine blk_drew ?_ | refine blk_alloc ?_ _)); exact BK134.out) Try.underlying89 rfl (by kernel_rfl)) rfl ?_
                    exact ⟨by first | rfl | (simp [errW_none, errW_some] <;> rfl) | (simp [*, errW_none, errW_some] <;> rfl), by repeat (first | (with_reducible first | exact HB.out | apply below_alloc | apply pw_below_drewN | apply below_drew1 | refine below_set ?_ GE134.out) | exact HB.out)⟩
                  · rw [if_neg c18] at H
                    have c18b0 : (a0 == 9) = false := beq_eq_false_iff_ne.mpr c18
                    have c18b1 : (a0 != 9) = true := bne_iff_ne.mpr c18
                    simp only [Option.some.injEq, Prod.mk.injEq] at H
                    obtain ⟨rfl, rfl, rfl, rfl, rfl⟩ := H
                    have hcz20_0 : wc.cell? ⟨gb134, 0, none⟩ = some (.bool false) := (blk_cell BK134.out 0).trans rfl
                    have hcz20_1 : wc.cell? ⟨gb134, 1, none⟩ = some (.bool false) := (blk_cell BK134.out 1).trans rfl
                    have hcz20_2 : wc.cell? ⟨gb134, 2, none⟩ = some (.bool false) := (blk_cell BK134.out 2).trans rfl
                    have hcz20_3 : wc.cell? ⟨gb134, 3, none⟩ = some (.bool false) := (blk_cell BK134.out 3).trans rfl
                    have hfz20_0 := blk_frozen BK134.out 0
                    have hfz20_1 := blk_frozen BK134.out 1
                    have hfz20_2 := blk_frozen BK134.out 2
                    have hfz20_3 := blk_frozen BK134.out 3
                    go_wp2
                    refine bodyPost_ret (results_ct rfl _ _ gb134 89 #[.bool false, .bool false, .bool false, .bool false] (0, 0) _ rfl (by (with_reducible repeat (first | refine blk_drewN ?_ _ | refine blk_drew ?_ | refine blk_alloc ?_ _)); refine blk_put (cs := #[.bool false, .bool false, .bool false, .bool false]) ?_ 3 _ rfl; (with_reducible repeat (first | refine blk_drewN ?_ _ | refine blk_drew ?_ | refine blk_alloc ?_ _)); refine blk_put (cs := #[.bool false, .bool false, .bool false, .bool false]) ?_ 2 _ rfl; (with_reducible repeat (first | refine blk_drewN ?_ _ | refine blk_drew ?_ | refine blk_alloc ?_ _)); refine blk_put (cs := #[.bool false, .bool false, .bool false, .bool false]) ?_ 1 _ rfl; (with_reducible repeat (first | refine blk_drewN ?_ _ | refine blk_drew ?_ | refine blk_alloc ?_ _)); refine blk_put (cs := #[.bool false, .bool false, .bool false, .bool false]) ?_ 0 _ rfl; (with_reducible repeat (first | refine blk_drewN ?_ _ | refine blk_drew ?_ | refine blk_alloc ?_ _)); exact BK134.out) Try.underlying89 rfl (by kernel_rfl)) rfl ?_
                    exact ⟨by first | rfl | (simp [errW_none, errW_some] <;> rfl) | (simp [*, errW_none, errW_some] <;> rfl), by repeat (first | (with_reducible first | exact HB.out | apply below_alloc | apply pw_below_drewN | apply below_drew1 | refine below_set ?_ GE134.out) | exact HB.out)⟩

/-! ### code_Sets: function 31 -/
def code_Sets.f (k : Nat) (a0_0 : Int) (a0_1 : Int) (a0_2 : Int) (a0_3 : Int) (a0_4 : Int) (l0_5 : List Int) : Option (Int) := (code_shapeOf.f k a0_0).bind fun bt136 => (if bt136.1 = true then (some a0_1) else (some 0))
theorem code_Sets.mono : ∀ a0 a1 a2 a3 a4 a5 k, LeO (code_Sets.f k a0 a1 a2 a3 a4 a5) (code_Sets.f (k + 1) a0 a1 a2 a3 a4 a5) := by
  intro a0 a1 a2 a3 a4 a5 k
  unfold code_Sets.f
  repeat' first
      | (with_reducible exact code_shapeOf.mono _ _)
      | (with_reducible exact LeO.refl _)
      | (with_reducible exact LeO.none _)
      | (with_reducible refine LeO.ite ?_ ?_)
      | (with_reducible refine LeO.bind ?_ (fun _ => ?_))
      | exact code_shapeOf.mono _ _
      | exact LeO.none _
      | refine LeO.ite ?_ ?_
      | refine LeO.bind ?_ (fun _ => ?_)
set_option maxHeartbeats 8000000 in
set_option maxRecDepth 100000 in
theorem code_Sets.calls (k : Nat) (a0_0 : Int) (a0_1 : Int) (a0_2 : Int) (a0_3 : Int) (a0_4 : Int) (A0_5 : Option Addr) (c0_5 : Nat) (l0_5 : List Int) (r : Int) (w : World) (hr0_5 : Kd.C (Kd.int .i64) w A0_5 l0_5.length l0_5) (hc0_5 : l0_5.length ≤ c0_5) (h : code_Sets.f k a0_0 a0_1 a0_2 a0_3 a0_4 l0_5 = some r) :
    Calls Try.prog 31 #[.agg #[.int .i64 a0_0, .int .i64 a0_1, .int .i64 a0_2, .int .i64 a0_3, .int .i64 a0_4, .slice A0_5 l0_5.length c0_5]] w fun e w' => e = .returned (.int .i64 r) ∧ Below w.heap.size w w' := by
  have hu30 := Try.underlying30
  have hu89 := Try.underlying89
  have HR0_5 := Aside0.mk hr0_5
  have HC0_5 := Aside0.mk hc0_5
  clear hr0_5 hc0_5
  have HB := Aside0.mk (Below.refl w.heap.size w)
  have H : ((code_shapeOf.f k a0_0).bind fun bt136 => (if bt136.1 = true then (some a0_1) else (some 0))) = some r := h
  clear h
  replace H := Option.bind_eq_some_iff.mp H
  obtain ⟨⟨t136, t137, t138, t139, t140⟩, A20, H⟩ := H
  replace H : (if t136 = true then (some a0_1) else (some 0)) = some r := H
  have A2 := Aside0.mk A20
  clear A20
  by_cases c3 : t136 = true
  · subst c3
    have H1 : (some a0_1) = some r := by rw [if_pos rfl] at H; exact H
    clear H
    have H := H1
    clear H1
    obtain rfl := Option.some.inj H
    go_enter Try.func31, Try.ntmps31
    go_wp2_with (first | ((with_reducible refine gate_dst (N := 1) rfl ?_); refine box_event ?hg (N := 1) ?hd (cs := #[.int .i64 a0_0, .int .i64 a0_1, .int .i64 a0_2, .int .i64 a0_3, .int .i64 a0_4, .slice A0_5 l0_5.length c0_5]) (t := 30) ?hr ?_; (case hd => rfl); (case hg => rfl); (case hr => first | (go_simp; done) | (go_simp; rfl)); intro gb135 hg w4 hbox hb; have n0_ := Aside0.mk (below_step (by repeat (first | (with_reducible first | exact HB.out | apply below_alloc | apply pw_below_drewN | apply below_drew1) | exact HB.out)) hb); have n1_ := Aside0.mk (hbox); have n2_ := Aside0.mk ((by rw [hg]; exact (below_size (by repeat (first | (with_reducible first | exact HB.out | apply below_alloc | apply pw_below_drewN | apply below_drew1) | exact HB.out))) : w.heap.size ≤ gb135)); have n3_ := Aside0.mk ((by rw [hg]; exact (below_size (by repeat (first | (with_reducible first | exact HB.out | apply below_alloc | apply pw_below_drewN | apply below_drew1) | exact HB.out))) : w.heap.size ≤ gb135)); clear HB; have HB := n0_; have BK135 := n1_; have GW135 := n2_; have GE135 := n3_; clear n0_ n1_ n2_ n3_; clear hb hbox hg; have hcz5_0 : w4.cell? ⟨gb135, 0, none⟩ = some (.int .i64 a0_0) := (blk_cell BK135.out 0).trans rfl; have hcz5_1 : w4.cell? ⟨gb135, 1, none⟩ = some (.int .i64 a0_1) := (blk_cell BK135.out 1).trans rfl; have hcz5_2 : w4.cell? ⟨gb135, 2, none⟩ = some (.int .i64 a0_2) := (blk_cell BK135.out 2).trans rfl; have hcz5_3 : w4.cell? ⟨gb135, 3, none⟩ = some (.int .i64 a0_3) := (blk_cell BK135.out 3).trans rfl; have hcz5_4 : w4.cell? ⟨gb135, 4, none⟩ = some (.int .i64 a0_4) := (blk_cell BK135.out 4).trans rfl; have hcz5_5 : w4.cell? ⟨gb135, 5, none⟩ = some (.slice A0_5 l0_5.length c0_5) := (blk_cell BK135.out 5).trans rfl; have hfz5_0 := blk_frozen BK135.out 0; have hfz5_1 := blk_frozen BK135.out 1; have hfz5_2 := blk_frozen BK135.out 2; have hfz5_3 := blk_frozen BK135.out 3; have hfz5_4 := blk_frozen BK135.out 4; have hfz5_5 := blk_frozen BK135.out 5) | ((with_reducible refine gate_callee (f := 61) rfl ?_); refine goesL_ (some 8) rfl rfl Try.func61 (by kernel_rfl) rfl #[.int .i64 a0_0] rfl (by (try simp only [List.map_toArray, List.map_cons, List.map_nil]); first | done | rfl | (simp only [List.length_drop, List.length_take]; rfl)) ?_; (with_reducible refine (code_shapeOf.calls k a0_0 true t137 t138 t139 t140 _ A2.out).mono ?_); rintro e w6 ⟨rfl, hb⟩; refine ⟨_, rfl, ?_⟩; have n0_ := Aside0.mk (blk_below (g := gb135) (o := .cells #[.int .i64 a0_0, .int .i64 a0_1, .int .i64 a0_2, .int .i64 a0_3, .int .i64 a0_4, .slice A0_5 l0_5.length c0_5] 30 (0, 0)) (by (with_reducible repeat (first | refine blk_drewN ?_ _ | refine blk_drew ?_ | refine blk_alloc ?_ _)); exact BK135.out) hb); have n1_ := Aside0.mk (below_step (by repeat (first | (with_reducible first | exact HB.out | apply below_alloc | apply pw_below_drewN | apply below_drew1 | refine below_set ?_ GE135.out) | exact HB.out)) hb); clear BK135; clear HB; have BK135 := n0_; have HB := n1_; clear n0_ n1_; (try clear hb); (try clear hb2); (try clear hk); (try clear hi)) | ((with_reducible refine gate_dst (N := 3) rfl ?_); refine box_event ?hg (N := 3) ?hd (cs := #[.bool false, .bool false, .bool false, .bool false]) (t := 89) ?hr ?_; (case hd => rfl); (case hg => rfl); (case hr => first | (go_simp; done) | (go_simp; rfl)); intro gb141 hg w7 hbox hb; have n0_ := Aside0.mk (blk_below (g := gb135) (o := .cells #[.int .i64 a0_0, .int .i64 a0_1, .int .i64 a0_2, .int .i64 a0_3, .int .i64 a0_4, .slice A0_5 l0_5.length c0_5] 30 (0, 0)) (by (with_reducible repeat (first | refine blk_drewN ?_ _ | refine blk_drew ?_ | refine blk_alloc ?_ _)); exact BK135.out) hb); have n1_ := Aside0.mk (below_step (by repeat (first | (with_reducible first | exact HB.out | apply below_alloc | apply pw_below_drewN | apply below_drew1 | refine below_set ?_ GE135.out) | exact HB.out)) hb); have n2_ := Aside0.mk (hbox); have n3_ := Aside0.mk ((by rw [hg]; exact (below_size (by repeat (first | (with_reducible first | exact HB.out | apply below_alloc | apply pw_below_drewN | apply below_drew1 | refine below_set ?_ GE135.out) | exact HB.out))) : w.heap.size ≤ gb141)); have n4_ := Aside0.mk ((by rw [hg]; exact (below_size (by repeat (first | (with_reducible first | exact HB.out | apply below_alloc | apply pw_below_drewN | apply below_drew1 | refine below_set ?_ GE135.out) | exact HB.out))) : w.heap.size ≤ gb141)); have n5_ := Aside0.mk ((by rw [hg]; exact Nat.ne_of_lt (blk_lt (g := gb135) (o := .cells #[.int .i64 a0_0, .int .i64 a0_1, .int .i64 a0_2, .int .i64 a0_3, .int .i64 a0_4, .slice A0_5 l0_5.length c0_5] 30 (0, 0)) (by (with_reducible repeat (first | refine blk_drewN ?_ _ | refine blk_drew ?_ | refine blk_alloc ?_ _)); exact BK135.out)) : gb135 ≠ gb141)); have n6_ := Aside0.mk ((by rw [hg]; exact Nat.ne_of_gt (blk_lt (g := gb135) (o := .cells #[.int .i64 a0_0, .int .i64 a0_1, .int .i64 a0_2, .int .i64 a0_3, .int .i64 a0_4, .slice A0_5 l0_5.length c0_5] 30 (0, 0)) (by (with_reducible repeat (first | refine blk_drewN ?_ _ | refine blk_drew ?_ | refine blk_alloc ?_ _)); exact BK135.out)) : gb141 ≠ gb135)); clear BK135; clear HB; have BK135 := n0_; have HB := n1_; have BK141 := n2_; have GW141 := n3_; have GE141 := n4_; have NB135_141 := n5_; have NB141_135 := n6_; clear n0_ n1_ n2_ n3_ n4_ n5_ n6_; clear hb hbox hg; have hnb8 := NB141_135.out; have hnc8 := NB135_141.out; have hcz9_0 : w7.cell? ⟨gb141, 0, none⟩ = some (.bool false) := (blk_cell BK141.out 0).trans rfl; have hcz9_1 : w7.cell? ⟨gb141, 1, none⟩ = some (.bool false) := (blk_cell BK141.out 1).trans rfl; have hcz9_2 : w7.cell? ⟨gb141, 2, none⟩ = some (.bool false) := (blk_cell BK141.out 2).trans rfl; have hcz9_3 : w7.cell? ⟨gb141, 3, none⟩ = some (.bool false) := (blk_cell BK141.out 3).trans rfl; have hfz9_0 := blk_frozen BK141.out 0; have hfz9_1 := blk_frozen BK141.out 1; have hfz9_2 := blk_frozen BK141.out 2; have hfz9_3 := blk_frozen BK141.out 3; have hcz10_0 : w7.cell? ⟨gb135, 0, none⟩ = some (.int .i64 a0_0) := (blk_cell BK135.out 0).trans rfl; have hcz10_1 : w7.cell? ⟨gb135, 1, none⟩ = some (.int .i64 a0_1) := (blk_cell BK135.out 1).trans rfl; have hcz10_2 : w7.cell? ⟨gb135, 2, none⟩ = some (.int .i64 a0_2) := (blk_cell BK135.out 2).trans rfl; have hcz10_3 : w7.cell? ⟨gb135, 3, none⟩ = some (.int .i64 a0_3) := (blk_cell BK135.out 3).trans rfl; have hcz10_4 : w7.cell? ⟨gb135, 4, none⟩ = some (.int .i64 a0_4) := (blk_cell BK135.out 4).trans rfl; have hcz10_5 : w7.cell? ⟨gb135, 5, none⟩ = some (.slice A0_5 l0_5.length c0_5) := (blk_cell BK135.out 5).trans rfl; have hfz10_0 := blk_frozen BK135.out 0; have hfz10_1 := blk_frozen BK135.out 1; have hfz10_2 := blk_frozen BK135.out 2; have hfz10_3 := blk_frozen BK135.out 3; have hfz10_4 := blk_frozen BK135.out 4; have hfz10_5 := blk_frozen BK135.out 5))
    go_ret
    exact ⟨by first | rfl | (simp [errW_none, errW_some] <;> rfl) | (simp [*, errW_none, errW_some] <;> rfl), by repeat (first | (with_reducible first | exact HB.out | apply below_alloc | apply pw_below_drewN | apply below_drew1 | refine below_set ?_ GE135.out | refine below_set ?_ GE141.out) | exact HB.out)⟩
  · replace c3 := Bool.eq_false_iff.mpr c3
    subst c3
    have H1 : (some 0) = some r := by rw [if_neg (show ¬ (false = true) by decide)] at H; exact H
    clear H
    have H := H1
    clear H1
    obtain rfl := Option.some.inj H
    go_enter Try.func31, Try.ntmps31
    go_wp2_with (first | ((with_reducible refine gate_dst (N := 1) rfl ?_); refine box_event ?hg (N := 1) ?hd (cs := #[.int .i64 a0_0, .int .i64 a0_1, .int .i64 a0_2, .int .i64 a0_3, .int .i64 a0_4, .slice A0_5 l0_5.length c0_5]) (t := 30) ?hr ?_; (case hd => rfl); (case hg => rfl); (case hr => first | (go_simp; done) | (go_simp; rfl)); intro gb135 hg w11 hbox hb; have n0_ := Aside0.mk (below_step (by repeat (first | (with_reducible first | exact HB.out | apply below_alloc | apply pw_below_drewN | apply below_drew1) | exact HB.out)) hb); have n1_ := Aside0.mk (hbox); have n2_ := Aside0.mk ((by rw [hg]; exact (below_size (by repeat (first | (with_reducible first | exact HB.out | apply below_alloc | apply pw_below_drewN | apply below_drew1) | exact HB.out))) : w.heap.size ≤ gb135)); have n3_ := Aside0.mk ((by rw [hg]; exact (below_size (by repeat (first | (with_reducible first | exact HB.out | apply below_alloc | apply pw_below_drewN | apply below_drew1) | exact HB.out))) : w.heap.size ≤ gb135)); clear HB; have HB := n0_; have BK135 := n1_; have GW135 := n2_; have GE135 := n3_; clear n0_ n1_ n2_ n3_; clear hb hbox hg; have hcz12_0 : w11.cell? ⟨gb135, 0, none⟩ = some (.int .i64 a0_0) := (blk_cell BK135.out 0).trans rfl; have hcz12_1 : w11.cell? ⟨gb135, 1, none⟩ = some (.int .i64 a0_1) := (blk_cell BK135.out 1).trans rfl; have hcz12_2 : w11.cell? ⟨gb135, 2, none⟩ = some (.int .i64 a0_2) := (blk_cell BK135.out 2).trans rfl; have hcz12_3 : w11.cell? ⟨gb135, 3, none⟩ = some (.int .i64 a0_3) := (blk_cell BK135.out 3).trans rfl; have hcz12_4 : w11.cell? ⟨gb135, 4, none⟩ = some (.int .i64 a0_4) := (blk_cell BK135.out 4).trans rfl; have hcz12_5 : w11.cell? ⟨gb135, 5, none⟩ = some (.slice A0_5 l0_5.length c0_5) := (blk_cell BK135.out 5).trans rfl; have hfz12_0 := blk_frozen BK135.out 0; have hfz12_1 := blk_frozen BK135.out 1; have hfz12_2 := blk_frozen BK135.out 2; have hfz12_3 := blk_frozen BK135.out 3; have hfz12_4 := blk_frozen BK135.out 4; have hfz12_5 := blk_frozen BK135.out 5) | ((with_reducible refine gate_callee (f := 61) rfl ?_); refine goesL_ (some 8) rfl rfl Try.func61 (by kernel_rfl) rfl #[.int .i64 a0_0] rfl (by (try simp only [List.map_toArray, List.map_cons, List.map_nil]); first | done | rfl | (simp only [List.length_drop, List.length_take]; rfl)) ?_; (with_reducible refine (code_shapeOf.calls k a0_0 false t137 t138 t139 t140 _ A2.out).mono ?_); rintro e w13 ⟨rfl, hb⟩; refine ⟨_, rfl, ?_⟩; have n0_ := Aside0.mk (blk_below (g := gb135) (o := .cells #[.int .i64 a0_0, .int .i64 a0_1, .int .i64 a0_2, .int .i64 a0_3, .int .i64 a0_4, .slice A0_5 l0_5.length c0_5] 30 (0, 0)) (by (with_reducible repeat (first | refine blk_drewN ?_ _ | refine blk_drew ?_ | refine blk_alloc ?_ _)); exact BK135.out) hb); have n1_ := Aside0.mk (below_step (by repeat (first | (with_reducible first | exact HB.out | apply below_alloc | apply pw_below_drewN | apply below_drew1 | refine below_set ?_ GE135.out) | exact HB.out)) hb); clear BK135; clear HB; have BK135 := n0_; have HB := n1_; clear n0_ n1_; (try clear hb); (try clear hb2); (try clear hk); (try clear hi)) | ((with_reducible refine gate_dst (N := 3) rfl ?_); refine box_event ?hg (N := 3) ?hd (cs := #[.bool false, .bool false, .bool false, .bool false]) (t := 89) ?hr ?_; (case hd => rfl); (case hg => rfl); (case hr => first | (go_simp; done) | (go_simp; rfl)); intro gb141 hg w14 hbox hb; have n0_ := Aside0.mk (blk_below (g := gb135) (o := .cells #[.int .i64 a0_0, .int .i64 a0_1, .int .i64 a0_2, .int .i64 a0_3, .int .i64 a0_4, .slice A0_5 l0_5.length c0_5] 30 (0, 0)) (by (with_reducible repeat (first | refine blk_drewN ?_ _ | refine blk_drew ?_ | refine blk_alloc ?_ _)); exact BK135.out) hb); have n1_ := Aside0.mk (below_step (by repeat (first | (with_reducible first | exact HB.out | apply below_alloc | apply pw_below_drewN | apply below_drew1 | refine below_set ?_ GE135.out) | exact HB.out)) hb); have n2_ := Aside0.mk (hbox); have n3_ := Aside0.mk ((by rw [hg]; exact (below_size (by repeat (first | (with_reducible first | exact HB.out | apply below_alloc | apply pw_below_drewN | apply below_drew1 | refine below_set ?_ GE135.out) | exact HB.out))) : w.heap.size ≤ gb141)); have n4_ := Aside0.mk ((by rw [hg]; exact (below_size (by repeat (first | (with_reducible first | exact HB.out | apply below_alloc | apply pw_below_drewN | apply below_drew1 | refine below_set ?_ GE135.out) | exact HB.out))) : w.heap.size ≤ gb141)); have n5_ := Aside0.mk ((by rw [hg]; exact Nat.ne_of_lt (blk_lt (g := gb135) (o := .cells #[.int .i64 a0_0, .int .i64 a0_1, .int .i64 a0_2, .int .i64 a0_3, .int .i64 a0_4, .slice A0_5 l0_5.length c0_5] 30 (0, 0)) (by (with_reducible repeat (first | refine blk_drewN ?_ _ | refine blk_drew ?_ | refine blk_alloc ?_ _)); exact BK135.out)) : gb135 ≠ gb141)); have n6_ := Aside0.mk ((by rw [hg]; exact Nat.ne_of_gt (blk_lt (g := gb135) (o := .cells #[.int .i64 a0_0, .int .i64 a0_1, .int .i64 a0_2, .int .i64 a0_3, .int .i64 a0_4, .slice A0_5 l0_5.length c0_5] 30 (0, 0)) (by (with_reducible repeat (first | refine blk_drewN ?_ _ | refine blk_drew ?_ | refine blk_alloc ?_ _)); exact BK135.out)) : gb141 ≠ gb135)); clear BK135; clear HB; have BK135 := n0_; have HB := n1_; have BK141 := n2_; have GW141 := n3_; have GE141 := n4_; have NB135_141 := n5_; have NB141_135 := n6_; clear n0_ n1_ n2_ n3_ n4_ n5_ n6_; clear hb hbox hg; have hnb15 := NB141_135.out; have hnc15 := NB135_141.out; have hcz16_0 : w14.cell? ⟨gb141, 0, none⟩ = some (.bool false) := (blk_cell BK141.out 0).trans rfl; have hcz16_1 : w14.cell? ⟨gb141, 1, none⟩ = some (.bool false) := (blk_cell BK141.out 1).trans rfl; have hcz16_2 : w14.cell? ⟨gb141, 2, none⟩ = some (.bool false) := (blk_cell BK141.out 2).trans rfl; have hcz16_3 : w14.cell? ⟨gb141, 3, none⟩ = some (.bool false) := (blk_cell BK141.out 3).trans rfl; have hfz16_0 := blk_frozen BK141.out 0; have hfz16_1 := blk_frozen BK141.out 1; have hfz16_2 := blk_frozen BK141.out 2; have hfz16_3 := blk_frozen BK141.out 3))
    go_ret
    exact ⟨by first | rfl | (simp [errW_none, errW_some] <;> rfl) | (simp [*, errW_none, errW_some] <;> rfl), by repeat (first | (with_reducible first | exact HB.out | apply below_alloc | apply pw_below_drewN | apply below_drew1 | refine below_set ?_ GE135.out | refine below_set ?_ GE141.out) | exact HB.out)⟩

/-! ### code_TermUses: function 82 -/
def code_TermUses.f (a0_0 : Int) (a0_1 : Int) (a0_2 : Int) (a0_3 : Int) : Option (List Int) := if a0_0 = 2 then (some (([a0_1] : List Int))) else (if a0_0 = 3 then (some (([a0_1] : List Int))) else (some ([] : List Int)))
set_option maxHeartbeats 8000000 in
set_option maxRecDepth 100000 in
theorem code_TermUses.calls (a0_0 : Int) (a0_1 : Int) (a0_2 : Int) (a0_3 : Int) (r : List Int) (w : World) (h : code_TermUses.f a0_0 a0_1 a0_2 a0_3 = some r) :
    Calls Try.prog 82 #[.agg #[.int .i64 a0_0, .int .i64 a0_1, .int .i64 a0_2, .int .i64 a0_3]] w fun e w' => ∃ v0_ : Value, e = .returned (v0_) ∧ Kd.R (Kd.int .i64) 3 w' w.heap.size (fun _ => True) v0_ r ∧ Below w.heap.size w w' := by
  have hu25 := Try.underlying25
  have HB := Aside0.mk (Below.refl w.heap.size w)
  have H : (if a0_0 = 2 then (some (([a0_1] : List Int))) else (if a0_0 = 3 then (some (([a0_1] : List Int))) else (some ([] : List Int)))) = some r := h
  clear h
  by_cases c2 : a0_0 = 2
  · rw [if_pos c2] at H
    have c2b0 : (a0_0 == 2) = true := beq_iff_eq.mpr c2
    have c2b1 : (a0_0 != 2) = false := bne_eq_false_iff_eq.mpr c2
    clear c2
    obtain ⟨y143, hy143⟩ : ∃ y_ : List Int, y_ = (([a0_1] : List Int)) := ⟨_, rfl⟩
    replace H : (some y143) = some r := by first | (rw [hy143]; with_reducible exact H) | (have H2_ := (Option.bind_some _ _).symm.trans H; rw [hy143]; with_reducible exact H2_) | (have H2_ := (Option.bind_some _ _).symm.trans H; with_reducible exact H2_) | with_reducible exact H | (rw [hy143]; exact H) | exact H
    have Ny143 := Aside0.mk hy143
    clear hy143
    obtain rfl := Option.some.inj H
    go_enter Try.func82, Try.ntmps82
    go_wp2_with (first | ((with_reducible refine gate_dst (N := 1) rfl ?_); refine box_event ?hg (N := 1) ?hd (cs := #[.int .i64 a0_0, .int .i64 a0_1, .int .i64 a0_2, .int .i64 a0_3]) (t := 25) ?hr ?_; (case hd => rfl); (case hg => rfl); (case hr => first | (go_simp; done) | (go_simp; rfl)); intro gb142 hg w3 hbox hb; have n0_ := Aside0.mk (below_step (by repeat (first | (with_reducible first | exact HB.out | apply below_alloc | apply pw_below_drewN | apply below_drew1) | exact HB.out)) hb); have n1_ := Aside0.mk (hbox); have n2_ := Aside0.mk ((by rw [hg]; exact (below_size (by repeat (first | (with_reducible first | exact HB.out | apply below_alloc | apply pw_below_drewN | apply below_drew1) | exact HB.out))) : w.heap.size ≤ gb142)); have n3_ := Aside0.mk ((by rw [hg]; exact (below_size (by repeat (first | (with_reducible first | exact HB.out | apply below_alloc | apply pw_below_drewN | apply below_drew1) | exact HB.out))) : w.heap.size ≤ gb142)); clear HB; have HB := n0_; have BK142 := n1_; have GW142 := n2_; have GE142 := n3_; clear n0_ n1_ n2_ n3_; clear hb hbox hg; have hcz4_0 : w3.cell? ⟨gb142, 0, none⟩ = some (.int .i64 a0_0) := (blk_cell BK142.out 0).trans rfl; have hcz4_1 : w3.cell? ⟨gb142, 1, none⟩ = some (.int .i64 a0_1) := (blk_cell BK142.out 1).trans rfl; have hcz4_2 : w3.cell? ⟨gb142, 2, none⟩ = some (.int .i64 a0_2) := (blk_cell BK142.out 2).trans rfl; have hcz4_3 : w3.cell? ⟨gb142, 3, none⟩ = some (.int .i64 a0_3) := (blk_cell BK142.out 3).trans rfl; have hfz4_0 := blk_frozen BK142.out 0; have hfz4_1 := blk_frozen BK142.out 1; have hfz4_2 := blk_frozen BK142.out 2; have hfz4_3 := blk_frozen BK142.out 3) | ((with_reducible refine gate_dst (N := 13) rfl ?_); refine Kd.R_lit (Kd.int .i64) _ 3 ?hg (N := 13) ?hd (xs := ([a0_1] : List Int)) (inner := [.int .i64 a0_1]) (ok := fun _ => True) (okp := fun _ => True) ?hr ?hp (fun _ hk => hk) trivial (Below.refl _ _) (Nat.le_refl _) (by simp) ?_; (case hd => rfl); (case hg => rfl); (case hr => first | (go_simp; done) | (go_simp; rfl)); (case hp => exact (Reps.one (show Kd.M (Kd.int .i64) _ _ _ a0_1 [.int .i64 a0_1] from rfl) (Reps.none _ _))); intro v144 w5 ho6 hb hg_ hnew_; clear hg_ hnew_; (first | rw [← Ny143.out] at ho6 | (simp only [Int.reduceToNat] at ho6; rw [← Ny143.out] at ho6)); have n0_ := Aside0.mk (Kd.R_lower ho6 (below_size (by repeat (first | (with_reducible first | exact HB.out | apply below_alloc | apply pw_below_drewN | apply below_drew1 | refine below_set ?_ GE142.out) | exact HB.out)))); have n1_ := Aside0.mk (blk_below (g := gb142) (o := .cells #[.int .i64 a0_0, .int .i64 a0_1, .int .i64 a0_2, .int .i64 a0_3] 25 (0, 0)) (by (with_reducible repeat (first | refine blk_drewN ?_ _ | refine blk_drew ?_ | refine blk_alloc ?_ _)); exact BK142.out) hb); have n2_ := Aside0.mk (below_step (by repeat (first | (with_reducible first | exact HB.out | apply below_alloc | apply pw_below_drewN | apply below_drew1 | refine below_set ?_ GE142.out) | exact HB.out)) hb); clear BK142; clear HB; have HO145 := n0_; have BK142 := n1_; have HB := n2_; clear n0_ n1_ n2_; clear hb ho6))
    go_ret
    exact ⟨_, by first | rfl | (simp [errW_none, errW_some] <;> rfl) | (simp [*, errW_none, errW_some] <;> rfl), by (with_reducible repeat (first | apply Kd.R_alloc | apply Kd.R_drewN | apply Kd.R_drew)); exact HO145.out, by repeat (first | (with_reducible first | exact HB.out | apply below_alloc | apply pw_below_drewN | apply below_drew1 | refine below_set ?_ GE142.out) | exact HB.out)⟩
  · rw [if_neg c2] at H
    have c2b0 : (a0_0 == 2) = false := beq_eq_false_iff_ne.mpr c2
    have c2b1 : (a0_0 != 2) = true := bne_iff_ne.mpr c2
    by_cases c7 : a0_0 = 3
    · rw [if_pos c7] at H
      have c7b0 : (a0_0 == 3) = true := beq_iff_eq.mpr c7
      have c7b1 : (a0_0 != 3) = false := bne_eq_false_iff_eq.mpr c7
      clear c7
      obtain ⟨y146, hy146⟩ : ∃ y_ : List Int, y_ = (([a0_1] : List Int)) := ⟨_, rfl⟩
      replace H : (some y146) = some r := by first | (rw [hy146]; with_reducible exact H) | (have H2_ := (Option.bind_some _ _).symm.trans H; rw [hy146]; with_reducible exact H2_) | (have H2_ := (Option.bind_some _ _).symm.trans H; with_reducible exact H2_) | with_reducible exact H | (rw [hy146]; exact H) | exact H
      have Ny146 := Aside0.mk hy146
      clear hy146
      obtain rfl := Option.some.inj H
      go_enter Try.func82, Try.ntmps82
      go_wp2_with (first | ((with_reducible refine gate_dst (N := 1) rfl ?_); refine box_event ?hg (N := 1) ?hd (cs := #[.int .i64 a0_0, .int .i64 a0_1, .int .i64 a0_2, .int .i64 a0_3]) (t := 25) ?hr ?_; (case hd => rfl); (case hg => rfl); (case hr => first | (go_simp; done) | (go_simp; rfl)); intro gb142 hg w8 hbox hb; have n0_ := Aside0.mk (below_step (by repeat (first | (with_reducible first | exact HB.out | apply below_alloc | apply pw_below_drewN | apply below_drew1) | exact HB.out)) hb); have n1_ := Aside0.mk (hbox); have n2_ := Aside0.mk ((by rw [hg]; exact (below_size (by repeat (first | (with_reducible first | exact HB.out | apply below_alloc | apply pw_below_drewN | apply below_drew1) | exact HB.out))) : w.heap.size ≤ gb142)); have n3_ := Aside0.mk ((by rw [hg]; exact (below_size (by repeat (first | (with_reducible first | exact HB.out | apply below_alloc | apply pw_below_drewN | apply below_drew1) | exact HB.out))) : w.heap.size ≤ gb142)); clear HB; have HB := n0_; have BK142 := n1_; have GW142 := n2_; have GE142 := n3_; clear n0_ n1_ n2_ n3_; clear hb hbox hg; have hcz9_0 : w8.cell? ⟨gb142, 0, none⟩ = some (.int .i64 a0_0) := (blk_cell BK142.out 0).trans rfl; have hcz9_1 : w8.cell? ⟨gb142, 1, none⟩ = some (.int .i64 a0_1) := (blk_cell BK142.out 1).trans rfl; have hcz9_2 : w8.cell? ⟨gb142, 2, none⟩ = some (.int .i64 a0_2) := (blk_cell BK142.out 2).trans rfl; have hcz9_3 : w8.cell? ⟨gb142, 3, none⟩ = some (.int .i64 a0_3) := (blk_cell BK142.out 3).trans rfl; have hfz9_0 := blk_frozen BK142.out 0; have hfz9_1 := blk_frozen BK142.out 1; have hfz9_2 := blk_frozen BK142.out 2; have hfz9_3 := blk_frozen BK142.out 3) | ((with_reducible refine gate_dst (N := 13) rfl ?_); refine Kd.R_lit (Kd.int .i64) _ 3 ?hg (N := 13) ?hd (xs := ([a0_1] : List Int)) (inner := [.int .i64 a0_1]) (ok := fun _ => True) (okp := fun _ => True) ?hr ?hp (fun _ hk => hk) trivial (Below.refl _ _) (Nat.le_refl _) (by simp) ?_; (case hd => rfl); (case hg => rfl); (case hr => first | (go_simp; done) | (go_simp; rfl)); (case hp => exact (Reps.one (show Kd.M (Kd.int .i64) _ _ _ a0_1 [.int .i64 a0_1] from rfl) (Reps.none _ _))); intro v147 w10 ho11 hb hg_ hnew_; clear hg_ hnew_; (first | rw [← Ny146.out] at ho11 | (simp only [Int.reduceToNat] at ho11; rw [← Ny146.out] at ho11)); have n0_ := Aside0.mk (Kd.R_lower ho11 (below_size (by repeat (first | (with_reducible first | exact HB.out | apply below_alloc | apply pw_below_drewN | apply below_drew1 | refine below_set ?_ GE142.out) | exact HB.out)))); have n1_ := Aside0.mk (blk_below (g := gb142) (o := .cells #[.int .i64 a0_0, .int .i64 a0_1, .int .i64 a0_2, .int .i64 a0_3] 25 (0, 0)) (by (with_reducible repeat (first | refine blk_drewN ?_ _ | refine blk_drew ?_ | refine blk_alloc ?_ _)); exact BK142.out) hb); have n2_ := Aside0.mk (below_step (by repeat (first | (with_reducible first | exact HB.out | apply below_alloc | apply pw_below_drewN | apply below_drew1 | refine below_set ?_ GE142.out) | exact HB.out)) hb); clear BK142; clear HB; have HO148 := n0_; have BK142 := n1_; have HB := n2_; clear n0_ n1_ n2_; clear hb ho11))
      go_ret
      exact ⟨_, by first | rfl | (simp [errW_none, errW_some] <;> rfl) | (simp [*, errW_none, errW_some] <;> rfl), by (with_reducible repeat (first | apply Kd.R_alloc | apply Kd.R_drewN | apply Kd.R_drew)); exact HO148.out, by repeat (first | (with_reducible first | exact HB.out | apply below_alloc | apply pw_below_drewN | apply below_drew1 | refine below_set ?_ GE142.out) | exact HB.out)⟩
    · rw [if_neg c7] at H
      have c7b0 : (a0_0 == 3) = false := beq_eq_false_iff_ne.mpr c7
      have c7b1 : (a0_0 != 3) = true := bne_iff_ne.mpr c7
      obtain rfl := Option.some.inj H
      go_enter Try.func82, Try.ntmps82
      go_wp2_with (first | ((with_reducible refine gate_dst (N := 1) rfl ?_); refine box_event ?hg (N := 1) ?hd (cs := #[.int .i64 a0_0, .int .i64 a0_1, .int .i64 a0_2, .int .i64 a0_3]) (t := 25) ?hr ?_; (case hd => rfl); (case hg => rfl); (case hr => first | (go_simp; done) | (go_simp; rfl)); intro gb142 hg w12 hbox hb; have n0_ := Aside0.mk (below_step (by repeat (first | (with_reducible first | exact HB.out | apply below_alloc | apply pw_below_drewN | apply below_drew1) | exact HB.out)) hb); have n1_ := Aside0.mk (hbox); have n2_ := Aside0.mk ((by rw [hg]; exact (below_size (by repeat (first | (with_reducible first | exact HB.out | apply below_alloc | apply pw_below_drewN | apply below_drew1) | exact HB.out))) : w.heap.size ≤ gb142)); have n3_ := Aside0.mk ((by rw [hg]; exact (below_size (by repeat (first | (with_reducible first | exact HB.out | apply below_alloc | apply pw_below_drewN | apply below_drew1) | exact HB.out))) : w.heap.size ≤ gb142)); clear HB; have HB := n0_; have BK142 := n1_; have GW142 := n2_; have GE142 := n3_; clear n0_ n1_ n2_ n3_; clear hb hbox hg; have hcz13_0 : w12.cell? ⟨gb142, 0, none⟩ = some (.int .i64 a0_0) := (blk_cell BK142.out 0).trans rfl; have hcz13_1 : w12.cell? ⟨gb142, 1, none⟩ = some (.int .i64 a0_1) := (blk_cell BK142.out 1).trans rfl; have hcz13_2 : w12.cell? ⟨gb142, 2, none⟩ = some (.int .i64 a0_2) := (blk_cell BK142.out 2).trans rfl; have hcz13_3 : w12.cell? ⟨gb142, 3, none⟩ = some (.int .i64 a0_3) := (blk_cell BK142.out 3).trans rfl; have hfz13_0 := blk_frozen BK142.out 0; have hfz13_1 := blk_frozen BK142.out 1; have hfz13_2 := blk_frozen BK142.out 2; have hfz13_3 := blk_frozen BK142.out 3))
      go_ret
      exact ⟨_, by first | rfl | (simp [errW_none, errW_some] <;> rfl) | (simp [*, errW_none, errW_some] <;> rfl), by first | exact Kd.R_nil _ _ _ _ _ | exact Kd.N_nil _ _ _ _ _ | exact Kd.V_nil _ _ _ _ _ | exact Kd.Q_nil _ _ _ _ _ | exact Kd.S_nil _ _ _ _ _, by repeat (first | (with_reducible first | exact HB.out | apply below_alloc | apply pw_below_drewN | apply below_drew1 | refine below_set ?_ GE142.out) | exact HB.out)⟩

/-! ### swagelaw24_some: function 51 -/
def swagelaw24_some.f  : Option ((List (S30)) × Int × Int × Int × Int) := some ((([(⟨1, 1, 0, 0, 4, ([] : List Int)⟩ : S30), (⟨3, 2, 1, 0, 0, ([] : List Int)⟩ : S30), (⟨2, 3, 2, 1, 1, ([] : List Int)⟩ : S30)] : List (S30))), 2, 3, 1, 2)
set_option maxHeartbeats 8000000 in
set_option maxRecDepth 100000 in
theorem swagelaw24_some.calls  (r1 : List (S30)) (r2 : Int) (r3 : Int) (r4 : Int) (r5 : Int) (w : World) (h : swagelaw24_some.f  = some (r1, r2, r3, r4, r5)) :
    Calls Try.prog 51 #[] w fun e w' => ∃ v0_ : Value, e = .returned (.agg #[v0_, .int .i64 r2, .int .i64 r3, .int .i64 r4, .int .i64 r5]) ∧ Kd.S k30 30 w' w.heap.size (fun _ => True) v0_ r1 ∧ Below w.heap.size w w' := by
  have hu28 := Try.underlying28
  have hu30 := Try.underlying30
  have hu25 := Try.underlying25
  have HB := Aside0.mk (Below.refl w.heap.size w)
  have H : (some ((([(⟨1, 1, 0, 0, 4, ([] : List Int)⟩ : S30), (⟨3, 2, 1, 0, 0, ([] : List Int)⟩ : S30), (⟨2, 3, 2, 1, 1, ([] : List Int)⟩ : S30)] : List (S30))), 2, 3, 1, 2)) = some (r1, r2, r3, r4, r5) := h
  clear h
  obtain ⟨y150, hy150⟩ : ∃ y_ : List (S30), y_ = (([(⟨1, 1, 0, 0, 4, ([] : List Int)⟩ : S30), (⟨3, 2, 1, 0, 0, ([] : List Int)⟩ : S30), (⟨2, 3, 2, 1, 1, ([] : List Int)⟩ : S30)] : List (S30))) := ⟨_, rfl⟩
  replace H : (some (y150, 2, 3, 1, 2)) = some (r1, r2, r3, r4, r5) := by first | (rw [hy150]; with_reducible exact H) | (have H2_ := (Option.bind_some _ _).symm.trans H; rw [hy150]; with_reducible exact H2_) | (have H2_ := (Option.bind_some _ _).symm.trans H; with_reducible exact H2_) | with_reducible exact H | (rw [hy150]; exact H) | exact H
  have Ny150 := Aside0.mk hy150
  clear hy150
  simp only [Option.some.injEq, Prod.mk.injEq] at H
  obtain ⟨rfl, rfl, rfl, rfl, rfl⟩ := H
  go_enter Try.func51, Try.ntmps51
  go_wp2_with (first | ((with_reducible refine gate_dst (N := 0) rfl ?_); refine box_event ?hg (N := 0) ?hd (cs := #[.slice none 0 0, .int .i64 0, .int .i64 0, .int .i64 0, .int .i64 0]) (t := 28) ?hr ?_; (case hd => rfl); (case hg => rfl); (case hr => first | (go_simp; done) | (go_simp; rfl)); intro gb149 hg w1 hbox hb; have n0_ := Aside0.mk (below_step (by repeat (first | (with_reducible first | exact HB.out | apply below_alloc | apply pw_below_drewN | apply below_drew1) | exact HB.out)) hb); have n1_ := Aside0.mk (hbox); have n2_ := Aside0.mk ((by rw [hg]; exact (below_size (by repeat (first | (with_reducible first | exact HB.out | apply below_alloc | apply pw_below_drewN | apply below_drew1) | exact HB.out))) : w.heap.size ≤ gb149)); have n3_ := Aside0.mk ((by rw [hg]; exact (below_size (by repeat (first | (with_reducible first | exact HB.out | apply below_alloc | apply pw_below_drewN | apply below_drew1) | exact HB.out))) : w.heap.size ≤ gb149)); clear HB; have HB := n0_; have BK149 := n1_; have GW149 := n2_; have GE149 := n3_; clear n0_ n1_ n2_ n3_; clear hb hbox hg) | ((with_reducible refine gate_dst (N := 4) rfl ?_); refine Kd.S_lit k30 _ 30 ?hg (N := 4) ?hd (xs := ([(⟨1, 1, 0, 0, 4, ([] : List Int)⟩ : S30), (⟨3, 2, 1, 0, 0, ([] : List Int)⟩ : S30), (⟨2, 3, 2, 1, 1, ([] : List Int)⟩ : S30)] : List (S30))) (inner := [.int .i64 1, .int .i64 1, .int .i64 0, .int .i64 0, .int .i64 4, .slice none 0 0, .int .i64 3, .int .i64 2, .int .i64 1, .int .i64 0, .int .i64 0, .slice none 0 0, .int .i64 2, .int .i64 3, .int .i64 2, .int .i64 1, .int .i64 1, .slice none 0 0]) (ok := fun _ => True) (okp := fun _ => True) ?hr ?hp (fun _ hk => hk) trivial (Below.refl _ _) (Nat.le_refl _) (by simp) ?_; (case hd => rfl); (case hg => rfl); (case hr => first | (go_simp; done) | (go_simp; rfl)); (case hp => exact (Reps.c6 (show Kd.M k30 _ _ _ (⟨1, 1, 0, 0, 4, ([] : List Int)⟩ : S30) [.int .i64 1, .int .i64 1, .int .i64 0, .int .i64 0, .int .i64 4, .slice none 0 0] from (k30_mkM _ _ _ (⟨1, 1, 0, 0, 4, ([] : List Int)⟩ : S30) (Kd.R_nil _ _ _ _ _))) (Reps.c6 (show Kd.M k30 _ _ _ (⟨3, 2, 1, 0, 0, ([] : List Int)⟩ : S30) [.int .i64 3, .int .i64 2, .int .i64 1, .int .i64 0, .int .i64 0, .slice none 0 0] from (k30_mkM _ _ _ (⟨3, 2, 1, 0, 0, ([] : List Int)⟩ : S30) (Kd.R_nil _ _ _ _ _))) (Reps.c6 (show Kd.M k30 _ _ _ (⟨2, 3, 2, 1, 1, ([] : List Int)⟩ : S30) [.int .i64 2, .int .i64 3, .int .i64 2, .int .i64 1, .int .i64 1, .slice none 0 0] from (k30_mkM _ _ _ (⟨2, 3, 2, 1, 1, ([] : List Int)⟩ : S30) (Kd.R_nil _ _ _ _ _))) (Reps.none _ _))))); intro v151 w2 ho3 hb hg_ hnew_; clear hg_ hnew_; (first | rw [← Ny150.out] at ho3 | (simp only [Int.reduceToNat] at ho3; rw [← Ny150.out] at ho3)); have n0_ := Aside0.mk (Kd.S_lower ho3 (below_size (by repeat (first | (with_reducible first | exact HB.out | apply below_alloc | apply pw_below_drewN | apply below_drew1 | refine below_set ?_ GE149.out) | exact HB.out)))); have n1_ := Aside0.mk (blk_below (g := gb149) (o := .cells #[.slice none 0 0, .int .i64 0, .int .i64 0, .int .i64 0, .int .i64 0] 28 (0, 0)) (by (with_reducible repeat (first | refine blk_drewN ?_ _ | refine blk_drew ?_ | refine blk_alloc ?_ _)); exact BK149.out) hb); have n2_ := Aside0.mk (below_step (by repeat (first | (with_reducible first | exact HB.out | apply below_alloc | apply pw_below_drewN | apply below_drew1 | refine below_set ?_ GE149.out) | exact HB.out)) hb); clear BK149; clear HB; have HO152 := n0_; have BK149 := n1_; have HB := n2_; clear n0_ n1_ n2_; clear hb ho3; obtain ⟨Ao4, co4, eo4⟩ := Kd.S_slice HO152.out; subst eo4; have hcz5_0 : w2.cell? ⟨gb149, 0, none⟩ = some (.slice none 0 0) := (blk_cell BK149.out 0).trans rfl; have hcz5_1 : w2.cell? ⟨gb149, 1, none⟩ = some (.int .i64 0) := (blk_cell BK149.out 1).trans rfl; have hcz5_2 : w2.cell? ⟨gb149, 2, none⟩ = some (.int .i64 0) := (blk_cell BK149.out 2).trans rfl; have hcz5_3 : w2.cell? ⟨gb149, 3, none⟩ = some (.int .i64 0) := (blk_cell BK149.out 3).trans rfl; have hcz5_4 : w2.cell? ⟨gb149, 4, none⟩ = some (.int .i64 0) := (blk_cell BK149.out 4).trans rfl; have hfz5_0 := blk_frozen BK149.out 0; have hfz5_1 := blk_frozen BK149.out 1; have hfz5_2 := blk_frozen BK149.out 2; have hfz5_3 := blk_frozen BK149.out 3; have hfz5_4 := blk_frozen BK149.out 4))
  refine bodyPost_ret (results_cell_row rfl _ _ gb149 28 #[.slice Ao4 y150.length co4, .int .i64 2, .int .i64 3, .int .i64 1, .int .i64 2] (0, 0) _ rfl (by (with_reducible repeat (first | refine blk_drewN ?_ _ | refine blk_drew ?_ | refine blk_alloc ?_ _)); refine blk_put (cs := #[.slice Ao4 y150.length co4, .int .i64 2, .int .i64 3, .int .i64 1, .int .i64 0]) ?_ 4 _ rfl; (with_reducible repeat (first | refine blk_drewN ?_ _ | refine blk_drew ?_ | refine blk_alloc ?_ _)); refine blk_put (cs := #[.slice Ao4 y150.length co4, .int .i64 2, .int .i64 3, .int .i64 0, .int .i64 0]) ?_ 3 _ rfl; (with_reducible repeat (first | refine blk_drewN ?_ _ | refine blk_drew ?_ | refine blk_alloc ?_ _)); refine blk_put (cs := #[.slice Ao4 y150.length co4, .int .i64 2, .int .i64 0, .int .i64 0, .int .i64 0]) ?_ 2 _ rfl; (with_reducible repeat (first | refine blk_drewN ?_ _ | refine blk_drew ?_ | refine blk_alloc ?_ _)); refine blk_put (cs := #[.slice Ao4 y150.length co4, .int .i64 0, .int .i64 0, .int .i64 0, .int .i64 0]) ?_ 1 _ rfl; (with_reducible repeat (first | refine blk_drewN ?_ _ | refine blk_drew ?_ | refine blk_alloc ?_ _)); refine blk_put (cs := #[.slice none 0 0, .int .i64 0, .int .i64 0, .int .i64 0, .int .i64 0]) ?_ 0 _ rfl; (with_reducible repeat (first | refine blk_drewN ?_ _ | refine blk_drew ?_ | refine blk_alloc ?_ _)); exact BK149.out) Try.underlying28 rfl (by kernel_rfl)) rfl ?_
  exact ⟨_, by first | rfl | (simp [errW_none, errW_some] <;> rfl) | (simp [*, errW_none, errW_some] <;> rfl), by (with_reducible repeat (first | apply Kd.S_alloc | apply Kd.S_drewN | apply Kd.S_drew)); exact Kd.S_mono (Kd.S_far (p := ⟨gb149, 4, none⟩) (Kd.S_far (p := ⟨gb149, 3, none⟩) (Kd.S_far (p := ⟨gb149, 2, none⟩) (Kd.S_far (p := ⟨gb149, 1, none⟩) (Kd.S_far (p := ⟨gb149, 0, none⟩) (Kd.S_types HO152.out BK149.out (by decide)) (fun _ hk => hk.2) (.slice Ao4 y150.length co4)) (fun _ hk => hk.2) (.int .i64 2)) (fun _ hk => hk.2) (.int .i64 3)) (fun _ hk => hk.2) (.int .i64 1)) (fun _ hk => hk.2) (.int .i64 2)) (fun _ hk => trivial), by repeat (first | (with_reducible first | exact HB.out | apply below_alloc | apply pw_below_drewN | apply below_drew1 | refine below_set ?_ GE149.out) | exact HB.out)⟩

end Go.Proofs.Ytmacdhkfgoahcaa.Q

/- Maps of ints that the call made, as functions; what stores, deletions and strikings leave. -/
set_option linter.unusedVariables false
set_option linter.unusedSimpArgs false
namespace Go.Proofs.Ytmacdhkfgoahcaa.Fo
open Go Go.RowKit Go.Maps Go.Proofs.YtmacdhkfgoahcaaW.PrintWords Go.Proofs.YtmacdhkfgoahcaaW.PrintLast Go.Proofs.YtmacdhkfgoahcaaW.PrintMore
def wf (a : Int) : Prop := (Lit.int .i64 a).wf = true
/-- A map, as a function. -/
abbrev Fn := Int → Option Int
def lit? : Option Int → DataW Unit → DataW Unit
  | some n, _ => .lit (.int .i64 n)
  | none, z => z
/-- The datum reads as this function, at each int. -/
def Tells (D : DataW Unit) (m : Fn) : Prop := ∀ a, wf a → ∀ z, D.atKey (.int .i64 a) z = lit? (m a) z
structure MapI (w : World) (b cnt : Nat) (m : Fn) : Prop where
  ex : ∃ D : DataW Unit, w.ownsMap Try.prog 3 (plainElem Try.prog 3) b cnt D ∧ Tells D m
  ok : ∀ a n, m a = some n → wf n
theorem law3 : Keyed Try.prog 3 := int_keyed Try.underlying3
theorem Tells.has {D : DataW Unit} {m : Fn} (h : Tells D m) (a : Int) (ha : wf a) : Maps.has D (.int .i64 a) = (m a).isSome := by
  cases e : m a with
  | none => exact has_false_of_atKey (fun z => by rw [h a ha z, e]; rfl)
  | some n => exact has_true_of_atKey (y := .lit (.int .i64 n)) (fun z => by rw [h a ha z, e]; rfl)
def put (m : Fn) (a v : Int) : Fn := fun x => if x = a then some v else m x
def del (m : Fn) (a : Int) : Fn := fun x => if x = a then none else m x
/-- Without what holds d. -/
def strike (m : Fn) (d : Int) : Fn := fun x => if m x = some d then none else m x
theorem Tells.put {D : DataW Unit} {m : Fn} (h : Tells D m) (hD : IsMap D) (a v : Int) : Tells (D.put (.int .i64 a) (.lit (.int .i64 v))) (put m a v) := fun x hx z => by
  unfold Fo.put
  by_cases e : x = a
  · subst e; rw [if_pos rfl, atKey_put_same hD (by trivial)]; rfl
  · rw [if_neg e, atKey_put_other (fun hh => e (by injection hh))]; exact h x hx z
theorem Tells.del {D : DataW Unit} {m : Fn} (h : Tells D m) (a : Int) : Tells (D.del (.int .i64 a)) (del m a) := fun x hx z => by
  unfold Fo.del
  by_cases e : x = a
  · subst e; rw [if_pos rfl, atKey_del_same]; rfl
  · rw [if_neg e, atKey_del_other (fun hh => e (by injection hh))]; exact h x hx z
/-- Is the element this int? -/
def isD (d : Int) (_ : Lit) : DataW Unit → Bool
  | .lit (.int _ v) => v == d
  | _ => false
theorem MapI.made (w : World) : MapI (w.alloc (.map #[] 0)) w.heap.size 0 (fun _ => none) := ⟨⟨_, World.ownsMap_made w Try.prog 3 _, fun a _ z => rfl⟩, fun _ _ h => by cases h⟩
theorem MapI.mono {w : World} {b cnt cnt' : Nat} {m : Fn} (h : MapI w b cnt m) (hc : cnt ≤ cnt') : MapI w b cnt' m := by
  obtain ⟨D, hD, hT⟩ := h.ex
  exact ⟨⟨D, hD.mono hc, hT⟩, h.ok⟩
theorem MapI.lt {w : World} {b cnt : Nat} {m : Fn} (h : MapI w b cnt m) : b < w.heap.size := by
  obtain ⟨D, hD, _⟩ := h.ex
  exact hD.lt
theorem MapI.keep {w w' : World} {b cnt : Nat} {m : Fn} (h : MapI w b cnt m) (hb : w'.heap[b]? = w.heap[b]?) : MapI w' b cnt m := by
  obtain ⟨D, ⟨es, clock, h1, h2⟩, hT⟩ := h.ex
  exact ⟨⟨D, ⟨es, clock, hb.trans h1, h2⟩, hT⟩, h.ok⟩
theorem MapI.below {w w' : World} {b cnt : Nat} {m : Fn} (h : MapI w b cnt m) (hb : Below w.heap.size w w') : MapI w' b cnt m := h.keep (hb.block b h.lt)
/-- A look-up, at the operation. -/
theorem MapI.look {w : World} {b cnt : Nat} {m : Fn} (h : MapI w b cnt m) (a : Int) (ha : wf a) : ∃ D : DataW Unit, w.ownsMap Try.prog 3 (plainElem Try.prog 3) b cnt D ∧ Maps.has D (.int .i64 a) = (m a).isSome ∧
    ∀ c : Int, D.atKey (.int .i64 a) (.lit (.int .i64 0)) = .lit (.int .i64 c) → c = (m a).getD 0 := by
  obtain ⟨D, hD, hT⟩ := h.ex
  refine ⟨D, hD, hT.has a ha, fun c hc => ?_⟩
  have := hT a ha (.lit (.int .i64 0))
  rw [hc] at this
  cases e : m a with
  | none => rw [e] at this; simp [lit?] at this; simpa using this
  | some n => rw [e] at this; simp [lit?] at this; simpa using this
end Go.Proofs.Ytmacdhkfgoahcaa.Fo

/- What the operations on words answer, as plain functions. -/
set_option linter.unusedVariables false
set_option linter.unusedSimpArgs false
namespace Go.Proofs.Ytmacdhkfgoahcaa.Fo
open Go Go.RowKit Go.Maps Go.Proofs.Ytmacdhkfgoahcaa.Q Go.Proofs.YtmacdhkfgoahcaaW.PrintWords Go.Proofs.YtmacdhkfgoahcaaW.PrintLast Go.Proofs.YtmacdhkfgoahcaaW.PrintMore
def knownB (op : Int) : Bool := decide (1 ≤ op) && decide (op ≤ 14)
def doR (op a b : Int) : Int × Int := (word_Do.f 9 op a b).getD (0, 0)
def turB (op : Int) : Bool := op == 1 || op == 3 || op == 6 || op == 7 || op == 8 || op == 13 || op == 14
def folR (op : Int) : Int × Bool := (word_Fold.f 9 op 0).getD (0, false)
def neuB (op n : Int) : Bool := (fold_Neutral.f 9 op n).getD false
def setsI (x : S30) : Int := if x.f0 < 1 ∨ x.f0 > 8 ∨ x.f0 = 5 then 0 else x.f1
theorem sets_some (x : S30) : code_Sets.f 9 x.f0 x.f1 x.f2 x.f3 x.f4 x.f5 = some (setsI x) := by
  unfold code_Sets.f code_shapeOf.f setsI
  simp only [code_shapeOf.j0]
  generalize x.f0 = a
  by_cases h1 : a = 1
  · subst h1; simp
  by_cases h2 : a = 2
  · subst h2; simp
  by_cases h3 : a = 3
  · subst h3; simp
  by_cases h4 : a = 4
  · subst h4; simp
  by_cases h5 : a = 5
  · subst h5; simp
  by_cases h6 : a = 6
  · subst h6; simp
  by_cases h7 : a = 7
  · subst h7; simp
  by_cases h8 : a = 8
  · subst h8; simp
  by_cases h9 : a = 9
  · subst h9; simp
  simp [h1, h2, h3, h4, h5, h6, h7, h8, h9]
  omega
instance (a : Int) : Decidable (wf a) := inferInstanceAs (Decidable (_ = true))
theorem wf_zero : wf 0 := by decide
end Go.Proofs.Ytmacdhkfgoahcaa.Fo

/- Contracts, walked by hand: what a register holds (held), whether it holds what changes nothing (neutral), or 0 (zero), and an operation on two that are known (both). For every map, every operation. -/
set_option linter.unusedVariables false
set_option linter.unusedSimpArgs false
namespace Go.Proofs.Ytmacdhkfgoahcaa.Fo
open Go Go.RowKit Go.Maps Go.Proofs.Ytmacdhkfgoahcaa.Q Go.Proofs.YtmacdhkfgoahcaaW.PrintWords Go.Proofs.YtmacdhkfgoahcaaW.PrintLast Go.Proofs.YtmacdhkfgoahcaaW.PrintMore
theorem key3 {a : Int} (h : wf a) : keyOf Try.prog 3 (.int .i64 a) = some (.int .i64 a) := keyOf_int_mk Try.underlying3 h
/-- What a look-up gives, in the walk's words. -/
theorem MapI.gives {w : World} {b cnt : Nat} {m : Fn} (h : MapI w b cnt m) (a : Int) (ha : wf a) : ∃ D : DataW Unit, w.ownsMap Try.prog 3 (plainElem Try.prog 3) b cnt D ∧ Maps.has D (.int .i64 a) = (m a).isSome ∧
    Aside0 (∀ c : Int, D.atKey (.int .i64 a) (.lit (.int .i64 0)) = .lit (.int .i64 c) → c = (m a).getD 0) := by
  obtain ⟨D, h1, h2, h3⟩ := h.look a ha
  exact ⟨D, h1, h2, ⟨h3⟩⟩
def neutralB (m : Fn) (op r : Int) : Bool := match m r with | some n => neuB op n | none => false
end Go.Proofs.Ytmacdhkfgoahcaa.Fo

/- Contract, walked by hand: an operation on two that are known (both). For every map, every operation. -/
set_option linter.unusedVariables false
set_option linter.unusedSimpArgs false
namespace Go.Proofs.Ytmacdhkfgoahcaa.Fo
open Go Go.RowKit Go.Maps Go.Proofs.Ytmacdhkfgoahcaa.Q Go.Proofs.YtmacdhkfgoahcaaW.PrintWords Go.Proofs.YtmacdhkfgoahcaaW.PrintLast Go.Proofs.YtmacdhkfgoahcaaW.PrintMore
def bothR (m : Fn) (x : S30) : Int × Bool := match m x.f2, m x.f3 with
  | some a, some b => ((doR x.f4 a b).1, (doR x.f4 a b).2 == 0)
  | _, _ => (0, false)
/-- An operation, as a value. -/
def opV (x : S30) (v5 : Value) : Value := .agg #[.int .i64 x.f0, .int .i64 x.f1, .int .i64 x.f2, .int .i64 x.f3, .int .i64 x.f4, v5]
end Go.Proofs.Ytmacdhkfgoahcaa.Fo

/- Contract, walked by hand: an operation reckoned by what is known (reckon). For every map, every operation. -/
set_option linter.unusedVariables false
set_option linter.unusedSimpArgs false
namespace Go.Proofs.Ytmacdhkfgoahcaa.Fo
open Go Go.RowKit Go.Maps Go.Proofs.Ytmacdhkfgoahcaa.Q Go.Proofs.YtmacdhkfgoahcaaW.PrintWords Go.Proofs.YtmacdhkfgoahcaaW.PrintLast Go.Proofs.YtmacdhkfgoahcaaW.PrintMore
def constS (x : S30) (n : Int) : S30 := ⟨1, x.f1, 0, 0, n, []⟩
def moveS (x : S30) (a : Int) : S30 := ⟨3, x.f1, a, 0, 0, []⟩
theorem below_un {B n : Nat} {a w : World} (h : Below B a w) : Below B a (w.drewN n) := ⟨h.os, h.tape, h.output, h.size, h.block⟩
end Go.Proofs.Ytmacdhkfgoahcaa.Fo

/- Contract: slices.Clone of ints, in the walks' words. -/
set_option linter.unusedVariables false
set_option linter.unusedSimpArgs false
namespace Go.Proofs.Ytmacdhkfgoahcaa.Fo
open Go Go.RowKit Go.Maps Go.Proofs.Ytmacdhkfgoahcaa.Q Go.Proofs.YtmacdhkfgoahcaaW.PrintWords Go.Proofs.YtmacdhkfgoahcaaW.PrintLast Go.Proofs.YtmacdhkfgoahcaaW.PrintMore
theorem below_unI {B n : Nat} {a w : World} (h : Below B a w) : Below B a (w.drewN n) := ⟨h.os, h.tape, h.output, h.size, h.block⟩
theorem reps_ints (R : Int → List Value → Prop) (hR : ∀ x, R x [.int .i64 x]) (l : List Int) : Reps R 1 l (l.map (Value.int .i64)) := by
  induction l with
  | nil => exact Reps.none _ _
  | cons a r ih => exact Reps.one (hR a) ih
end Go.Proofs.Ytmacdhkfgoahcaa.Fo

/- Operations whose numbers are of their kind: as in FoL, for the texts of chapter 23, which want no more of chapter 24's. -/
set_option linter.unusedVariables false
set_option linter.unusedSimpArgs false
namespace Go.Proofs.Ytmacdhkfgoahcaa.Fo
open Go Go.RowKit Go.Maps Go.Proofs.Ytmacdhkfgoahcaa.Q Go.Proofs.YtmacdhkfgoahcaaW.PrintWords Go.Proofs.YtmacdhkfgoahcaaW.PrintLast Go.Proofs.YtmacdhkfgoahcaaW.PrintMore
/-- All numbers of an operation are of their kind. -/
structure WfOp (x : S30) : Prop where
  h1 : wf x.f1
  h2 : wf x.f2
  h3 : wf x.f3
  h4 : wf x.f4
  h5 : ∀ r ∈ x.f5, wf r
end Go.Proofs.Ytmacdhkfgoahcaa.Fo

-- Written by a program of this work (wip/tools/mp.py), not by print.sh.
namespace Go.Proofs.Ytmacdhkfgoahcaa.Q
open Go.RowKit Go.Proofs.YtmacdhkfgoahcaaW.PrintWords Go.Proofs.YtmacdhkfgoahcaaW.PrintLast Go.Proofs.YtmacdhkfgoahcaaW.PrintMore
attribute [local go_sem] max2_int min2_int max_two min_two max_three min_three max_four min_four   -- for this text's walks alone
set_option linter.unusedVariables false
set_option linter.unusedSimpArgs false

/-! ### swagelaw14_Few: function 13 -/
mutual
def swagelaw14_Few.l0 : Nat → Int → Int → Int → List (S28) → Option (Bool)
  | 0, _, _, _, _ => none
  | k + 1, x3, x4, x154000, x154001 => if x4 < (x154001.length : Int) then (swagelaw14_Few.j1 k x3 x4 (decide (x4 < 100)) x154000 x154001) else (swagelaw14_Few.j1 k x3 x4 false x154000 x154001)
def swagelaw14_Few.j1 : Nat → Int → Int → Bool → Int → List (S28) → Option (Bool)
  | 0, _, _, _, _, _ => none
  | k + 1, x3, x4, x14, x154000, x154001 => if x14 = true then (if 0 ≤ x4 then (if x4 < (x154001.length : Int) then (swagelaw14_Few.l1 k (wrap64 (x3 + (((rd_T28 x154001 x4).f0).length : Int))) x4 0 x154000 x154001) else (none)) else (none)) else (if (x154001.length : Int) ≤ 40 then (some (decide (x3 ≤ 250))) else (some false))
def swagelaw14_Few.l1 : Nat → Int → Int → Int → Int → List (S28) → Option (Bool)
  | 0, _, _, _, _, _ => none
  | k + 1, x3, x4, x5, x154000, x154001 => if 0 ≤ x4 then (if x4 < (x154001.length : Int) then (if x5 < (((rd_T28 x154001 x4).f0).length : Int) then (swagelaw14_Few.j3 k x3 x4 x5 (decide (x5 < 300)) x154000 x154001) else (swagelaw14_Few.j3 k x3 x4 x5 false x154000 x154001)) else (none)) else (none)
def swagelaw14_Few.j3 : Nat → Int → Int → Int → Bool → Int → List (S28) → Option (Bool)
  | 0, _, _, _, _, _, _ => none
  | k + 1, x3, x4, x5, x38, x154000, x154001 => if x38 = true then (if 0 ≤ x4 then (if x4 < (x154001.length : Int) then (if 0 ≤ x5 then (if x5 < (((rd_T28 x154001 x4).f0).length : Int) then (if (((rd_T30 ((rd_T28 x154001 x4).f0) x5).f5).length : Int) > 20 then (some false) else (swagelaw14_Few.l1 k x3 x4 (wrap64 (x5 + 1)) x154000 x154001)) else (none)) else (none)) else (none)) else (none)) else (swagelaw14_Few.l0 k x3 (wrap64 (x4 + 1)) x154000 x154001)
end
def swagelaw14_Few.f (k : Nat) (a0_0 : Int) (l0_1 : List (S28)) : Option (Bool) := swagelaw14_Few.l0 k 0 0 a0_0 l0_1
theorem swagelaw14_Few.mono_l : ∀ k, (∀ y0 y1 y2 y3, LeO (swagelaw14_Few.l0 k y0 y1 y2 y3) (swagelaw14_Few.l0 (k + 1) y0 y1 y2 y3)) ∧ (∀ y0 y1 y2 y3 y4, LeO (swagelaw14_Few.j1 k y0 y1 y2 y3 y4) (swagelaw14_Few.j1 (k + 1) y0 y1 y2 y3 y4)) ∧ (∀ y0 y1 y2 y3 y4, LeO (swagelaw14_Few.l1 k y0 y1 y2 y3 y4) (swagelaw14_Few.l1 (k + 1) y0 y1 y2 y3 y4)) ∧ (∀ y0 y1 y2 y3 y4 y5, LeO (swagelaw14_Few.j3 k y0 y1 y2 y3 y4 y5) (swagelaw14_Few.j3 (k + 1) y0 y1 y2 y3 y4 y5))
  | 0 => ⟨fun _ _ _ _ r h => by simp [swagelaw14_Few.l0] at h, fun _ _ _ _ _ r h => by simp [swagelaw14_Few.j1] at h, fun _ _ _ _ _ r h => by simp [swagelaw14_Few.l1] at h, fun _ _ _ _ _ _ r h => by simp [swagelaw14_Few.j3] at h⟩
  | k + 1 => by
    obtain ⟨ih0, ih1, ih2, ih3⟩ := swagelaw14_Few.mono_l k
    refine ⟨?_, ?_, ?_, ?_⟩
    · intro y0 y1 y2 y3
      unfold swagelaw14_Few.l0
      repeat' first
      | (with_reducible exact ih0 _ _ _ _)
      | (with_reducible exact ih1 _ _ _ _ _)
      | (with_reducible exact ih2 _ _ _ _ _)
      | (with_reducible exact ih3 _ _ _ _ _ _)
      | (with_reducible exact LeO.refl _)
      | (with_reducible exact LeO.none _)
      | (with_reducible refine LeO.ite ?_ ?_)
      | (with_reducible refine LeO.bind ?_ (fun _ => ?_))
      | exact ih0 _ _ _ _
      | exact ih1 _ _ _ _ _
      | exact ih2 _ _ _ _ _
      | exact ih3 _ _ _ _ _ _
      | exact LeO.none _
      | refine LeO.ite ?_ ?_
      | refine LeO.bind ?_ (fun _ => ?_)
    · intro y0 y1 y2 y3 y4
      unfold swagelaw14_Few.j1
      repeat' first
      | (with_reducible exact ih0 _ _ _ _)
      | (with_reducible exact ih1 _ _ _ _ _)
      | (with_reducible exact ih2 _ _ _ _ _)
      | (with_reducible exact ih3 _ _ _ _ _ _)
      | (with_reducible exact LeO.refl _)
      | (with_reducible exact LeO.none _)
      | (with_reducible refine LeO.ite ?_ ?_)
      | (with_reducible refine LeO.bind ?_ (fun _ => ?_))
      | exact ih0 _ _ _ _
      | exact ih1 _ _ _ _ _
      | exact ih2 _ _ _ _ _
      | exact ih3 _ _ _ _ _ _
      | exact LeO.none _
      | refine LeO.ite ?_ ?_
      | refine LeO.bind ?_ (fun _ => ?_)
    · intro y0 y1 y2 y3 y4
      unfold swagelaw14_Few.l1
      repeat' first
      | (with_reducible exact ih0 _ _ _ _)
      | (with_reducible exact ih1 _ _ _ _ _)
      | (with_reducible exact ih2 _ _ _ _ _)
      | (with_reducible exact ih3 _ _ _ _ _ _)
      | (with_reducible exact LeO.refl _)
      | (with_reducible exact LeO.none _)
      | (with_reducible refine LeO.ite ?_ ?_)
      | (with_reducible refine LeO.bind ?_ (fun _ => ?_))
      | exact ih0 _ _ _ _
      | exact ih1 _ _ _ _ _
      | exact ih2 _ _ _ _ _
      | exact ih3 _ _ _ _ _ _
      | exact LeO.none _
      | refine LeO.ite ?_ ?_
      | refine LeO.bind ?_ (fun _ => ?_)
    · intro y0 y1 y2 y3 y4 y5
      unfold swagelaw14_Few.j3
      repeat' first
      | (with_reducible exact ih0 _ _ _ _)
      | (with_reducible exact ih1 _ _ _ _ _)
      | (with_reducible exact ih2 _ _ _ _ _)
      | (with_reducible exact ih3 _ _ _ _ _ _)
      | (with_reducible exact LeO.refl _)
      | (with_reducible exact LeO.none _)
      | (with_reducible refine LeO.ite ?_ ?_)
      | (with_reducible refine LeO.bind ?_ (fun _ => ?_))
      | exact ih0 _ _ _ _
      | exact ih1 _ _ _ _ _
      | exact ih2 _ _ _ _ _
      | exact ih3 _ _ _ _ _ _
      | exact LeO.none _
      | refine LeO.ite ?_ ?_
      | refine LeO.bind ?_ (fun _ => ?_)
theorem swagelaw14_Few.mono : ∀ a0 a1 k, LeO (swagelaw14_Few.f k a0 a1) (swagelaw14_Few.f (k + 1) a0 a1) := by
  intro a0 a1 k
  obtain ⟨ih0, ih1, ih2, ih3⟩ := swagelaw14_Few.mono_l k
  unfold swagelaw14_Few.f
  repeat' first
      | (with_reducible exact ih0 _ _ _ _)
      | (with_reducible exact ih1 _ _ _ _ _)
      | (with_reducible exact ih2 _ _ _ _ _)
      | (with_reducible exact ih3 _ _ _ _ _ _)
      | (with_reducible exact LeO.refl _)
      | (with_reducible exact LeO.none _)
      | (with_reducible refine LeO.ite ?_ ?_)
      | (with_reducible refine LeO.bind ?_ (fun _ => ?_))
      | exact ih0 _ _ _ _
      | exact ih1 _ _ _ _ _
      | exact ih2 _ _ _ _ _
      | exact ih3 _ _ _ _ _ _
      | exact LeO.none _
      | refine LeO.ite ?_ ?_
      | refine LeO.bind ?_ (fun _ => ?_)
set_option maxHeartbeats 8000000 in
set_option maxRecDepth 100000 in
theorem swagelaw14_Few.calls (k : Nat) (a0_0 : Int) (A0_1 : Option Addr) (c0_1 : Nat) (l0_1 : List (S28)) (r : Bool) (w : World) (hr0_1 : Kd.C k28 w A0_1 l0_1.length l0_1) (hc0_1 : l0_1.length ≤ c0_1) (h : swagelaw14_Few.f k a0_0 l0_1 = some r) :
    Calls Try.prog 13 #[.agg #[.int .i64 a0_0, .slice A0_1 l0_1.length c0_1]] w fun e w' => e = .returned (.bool r) ∧ Below w.heap.size w w' := by
  have hu36 := Try.underlying36
  have HR0_1 := Aside0.mk hr0_1
  have HC0_1 := Aside0.mk hc0_1
  clear hr0_1 hc0_1
  have HB := Aside0.mk (Below.refl w.heap.size w)
  have H : (swagelaw14_Few.l0 k 0 0 a0_0 l0_1) = some r := h
  clear h
  have H' := Aside0.mk H
  clear H
  go_enter Try.func13, Try.ntmps13
  go_wp2_with (first | ((with_reducible refine gate_dst (N := 1) rfl ?_); refine box_event ?hg (N := 1) ?hd (cs := #[.int .i64 a0_0, .slice A0_1 l0_1.length c0_1]) (t := 36) ?hr ?_; (case hd => rfl); (case hg => rfl); (case hr => first | (go_simp; done) | (go_simp; rfl)); intro gb153 hg w2 hbox hb; have n0_ := Aside0.mk (below_step (by repeat (first | (with_reducible first | exact HB.out | apply below_alloc | apply pw_below_drewN | apply below_drew1) | exact HB.out)) hb); have n1_ := Aside0.mk (hbox); have n2_ := Aside0.mk ((by rw [hg]; exact (below_size (by repeat (first | (with_reducible first | exact HB.out | apply below_alloc | apply pw_below_drewN | apply below_drew1) | exact HB.out))) : w.heap.size ≤ gb153)); have n3_ := Aside0.mk ((by rw [hg]; exact (below_size (by repeat (first | (with_reducible first | exact HB.out | apply below_alloc | apply pw_below_drewN | apply below_drew1) | exact HB.out))) : w.heap.size ≤ gb153)); clear HB; have HB := n0_; have BK153 := n1_; have GW153 := n2_; have GE153 := n3_; clear n0_ n1_ n2_ n3_; clear hb hbox hg))
  go_loopg [3, 4] k (fun kq v3 v4 w' => ∃ (x3_1 : Int) (x4_1 : Int), v3 = .int .i64 x3_1 ∧ v4 = .int .i64 x4_1 ∧ Aside0 (swagelaw14_Few.l0 kq x3_1 x4_1 a0_0 l0_1 = some r) ∧ Aside0 (kq ≤ k) ∧ Aside0 (w'.heap[gb153]? = some (.cells #[.int .i64 a0_0, (.slice A0_1 l0_1.length c0_1)] 36 (0, 0))) ∧ Aside0 (Below w.heap.size w w'))
  case atStart => exact ⟨(0), (0), (by first | rfl | (simp; done) | (simp [*]; done)), (by first | rfl | (simp; done) | (simp [*]; done)), H', ⟨Nat.le_refl _⟩, ⟨by (with_reducible repeat (first | refine blk_drewN ?_ _ | refine blk_drew ?_ | refine blk_alloc ?_ _)); exact BK153.out⟩, ⟨by repeat (first | (with_reducible first | exact HB.out | apply below_alloc | apply pw_below_drewN | apply below_drew1 | refine below_set ?_ GE153.out) | exact HB.out)⟩⟩
  case round =>
    clear H'
    try clear c1
    try clear p2
    obtain ⟨x3_1, x4_1, rfl, rfl, HA, HK1, BK153, HB⟩ := hrel
    cases gk with
    | zero => exact absurd HA.out (by simp [swagelaw14_Few.l0])
    | succ k1 =>
      have H := HA.out
      clear HA
      simp only [swagelaw14_Few.l0] at H
      have HC3 := Aside0.mk H
      clear H
      go_upto_region 3 with (fail)
      go_cut [14] (fun v14 wc => ∃ (kq : Nat) (x14_2 : Bool), v14 = .bool x14_2 ∧ Aside0 (swagelaw14_Few.j1 kq x3_1 x4_1 x14_2 a0_0 l0_1 = some r) ∧ Aside0 (kq ≤ k1) ∧ Aside0 (wc.heap[gb153]? = some (.cells #[.int .i64 a0_0, (.slice A0_1 l0_1.length c0_1)] 36 (0, 0))) ∧ Aside0 (Below w.heap.size w wc))
      case first =>
        have H := HC3.out
        clear HC3
        by_cases c4 : x4_1 < (l0_1.length : Int)
        · rw [if_pos c4] at H
          have c4b0 : decide (x4_1 < (l0_1.length : Int)) = true := decide_eq_true c4
          clear c4
          (first | rw [c4b0] | (simp only [i64_w, i32_w]; rw [c4b0]) | skip)
          have H' := Aside0.mk H
          clear H
          have hcz5_0 : wr.cell? ⟨gb153, 0, none⟩ = some (.int .i64 a0_0) := (blk_cell BK153.out 0).trans rfl
          have hcz5_1 : wr.cell? ⟨gb153, 1, none⟩ = some (.slice A0_1 l0_1.length c0_1) := (blk_cell BK153.out 1).trans rfl
          have hfz5_0 := blk_frozen BK153.out 0
          have hfz5_1 := blk_frozen BK153.out 1
          go_wp2
          go_meet
          case rel => exact ⟨_, (decide (x4_1 < 100)), (by first | rfl | (simp; done) | (simp [*]; done)), H', ⟨by have := HK1.out; first | omega | exact Nat.le_refl _⟩, ⟨by (with_reducible repeat (first | refine blk_drewN ?_ _ | refine blk_drew ?_ | refine blk_alloc ?_ _)); exact BK153.out⟩, ⟨by repeat (first | (with_reducible first | exact HB.out | apply below_alloc | apply pw_below_drewN | apply below_drew1 | refine below_set ?_ GE153.out) | exact HB.out)⟩⟩
        · rw [if_neg c4] at H
          have c4b0 : decide (x4_1 < (l0_1.length : Int)) = false := decide_eq_false c4
          clear c4
          (first | rw [c4b0] | (simp only [i64_w, i32_w]; rw [c4b0]) | skip)
          have H' := Aside0.mk H
          clear H
          have hcz6_0 : wr.cell? ⟨gb153, 0, none⟩ = some (.int .i64 a0_0) := (blk_cell BK153.out 0).trans rfl
          have hcz6_1 : wr.cell? ⟨gb153, 1, none⟩ = some (.slice A0_1 l0_1.length c0_1) := (blk_cell BK153.out 1).trans rfl
          have hfz6_0 := blk_frozen BK153.out 0
          have hfz6_1 := blk_frozen BK153.out 1
          go_wp2
          go_meet
          case rel => exact ⟨_, (false), (by first | rfl | (simp; done) | (simp [*]; done)), H', ⟨by have := HK1.out; first | omega | exact Nat.le_refl _⟩, ⟨by (with_reducible repeat (first | refine blk_drewN ?_ _ | refine blk_drew ?_ | refine blk_alloc ?_ _)); exact BK153.out⟩, ⟨by repeat (first | (with_reducible first | exact HB.out | apply below_alloc | apply pw_below_drewN | apply below_drew1 | refine below_set ?_ GE153.out) | exact HB.out)⟩⟩
      case rest =>
        clear HC3
        try clear c1
        try clear p2
        try clear c4
        try clear c4b0
        try clear hcz5_0
        try clear hcz5_1
        try clear hcz6_0
        try clear hcz6_1
        try clear hfz5_0
        try clear hfz5_1
        try clear hfz6_0
        try clear hfz6_1
        try clear p2
        obtain ⟨kq, x14_2, rfl, HA, HJ2, BK153, HB⟩ := hcut
        cases kq with
        | zero => exact absurd HA.out (by simp [swagelaw14_Few.j1])
        | succ kj2 =>
          have H := HA.out
          clear HA
          simp only [swagelaw14_Few.j1] at H
          by_cases c7 : x14_2 = true
          · subst c7
            have H1 : (if 0 ≤ x4_1 then (if x4_1 < (l0_1.length : Int) then (swagelaw14_Few.l1 kj2 (wrap64 (x3_1 + (((rd_T28 l0_1 x4_1).f0).length : Int))) x4_1 0 a0_0 l0_1) else (none)) else (none)) = some r := by rw [if_pos rfl] at H; exact H
            clear H
            have H := H1
            clear H1
            by_cases c8 : 0 ≤ x4_1
            · rw [if_pos c8] at H
              have c8b0 : decide (0 ≤ x4_1) = true := decide_eq_true c8
              clear c8
              by_cases c9 : x4_1 < (l0_1.length : Int)
              · rw [if_pos c9] at H
                have c9b0 : decide (x4_1 < (l0_1.length : Int)) = true := decide_eq_true c9
                clear c9
                have H' := Aside0.mk H
                clear H
                have hcz10_0 : wc.cell? ⟨gb153, 0, none⟩ = some (.int .i64 a0_0) := (blk_cell BK153.out 0).trans rfl
                have hcz10_1 : wc.cell? ⟨gb153, 1, none⟩ = some (.slice A0_1 l0_1.length c0_1) := (blk_cell BK153.out 1).trans rfl
                have hfz10_0 := blk_frozen BK153.out 0
                have hfz10_1 := blk_frozen BK153.out 1
                have p154 : 0 ≤ (x4_1 : Int) := of_decide_eq_true (by first | (with_reducible assumption) | assumption)
                have q154 : x4_1 < (l0_1.length : Int) := of_decide_eq_true (by first | (with_reducible assumption) | assumption)
                obtain ⟨ad154, A154_0, c154_0, e154, hx154_0, hx154_1, hx154_2, hx154_3, hx154_4, hl154_0, hi154_0⟩ := at_T28 HR0_1.out x4_1 p154 q154
                cases e154
                replace hx154_0 := (HB.out.cell (World.block_lt_of_cell? w _ hx154_0)).trans hx154_0
                replace hx154_1 := (HB.out.cell (World.block_lt_of_cell? w _ hx154_1)).trans hx154_1
                replace hx154_2 := (HB.out.cell (World.block_lt_of_cell? w _ hx154_2)).trans hx154_2
                replace hx154_3 := (HB.out.cell (World.block_lt_of_cell? w _ hx154_3)).trans hx154_3
                replace hx154_4 := (HB.out.cell (World.block_lt_of_cell? w _ hx154_4)).trans hx154_4
                have HR154_0 := Aside0.mk hi154_0
                have HC154_0 := Aside0.mk hl154_0
                clear hi154_0 hl154_0
                replace p154 := eq_true p154
                replace q154 := eq_true q154
                go_wp2
                go_loopg [5] kj2 (fun kq v5 w' => ∃ (x5_3 : Int), v5 = .int .i64 x5_3 ∧ Aside0 (swagelaw14_Few.l1 kq (wrap64 (x3_1 + (((rd_T28 l0_1 x4_1).f0).length : Int))) x4_1 x5_3 a0_0 l0_1 = some r) ∧ Aside0 (kq ≤ kj2) ∧ Aside0 (w'.heap[gb153]? = some (.cells #[.int .i64 a0_0, (.slice (some ad154) l0_1.length c0_1)] 36 (0, 0))) ∧ Aside0 (Below w.heap.size w w'))
                case atStart => exact ⟨(0), (by first | rfl | (simp; done) | (simp [*]; done)), H', ⟨Nat.le_refl _⟩, ⟨by (with_reducible repeat (first | refine blk_drewN ?_ _ | refine blk_drew ?_ | refine blk_alloc ?_ _)); exact BK153.out⟩, ⟨by repeat (first | (with_reducible first | exact HB.out | apply below_alloc | apply pw_below_drewN | apply below_drew1 | refine below_set ?_ GE153.out) | exact HB.out)⟩⟩
                case round =>
                  clear H'
                  try clear c1
                  try clear p1
                  try clear q1
                  try clear hx1
                  try clear p2
                  try clear c4
                  try clear c4b0
                  try clear p6
                  try clear c7
                  try clear c8
                  try clear c8b0
                  try clear c9
                  try clear c9b0
                  try clear hcz10_0
                  try clear hcz10_1
                  try clear hcz5_0
                  try clear hcz5_1
                  try clear hcz6_0
                  try clear hcz6_1
                  try clear hfz10_0
                  try clear hfz10_1
                  try clear hfz5_0
                  try clear hfz5_1
                  try clear hfz6_0
                  try clear hfz6_1
                  try clear hx154_0
                  try clear hx154_1
                  try clear hx154_2
                  try clear hx154_3
                  try clear hx154_4
                  try clear p154
                  try clear p2
                  try clear q154
                  obtain ⟨x5_3, rfl, HA, HK3, BK153, HB⟩ := hrel
                  cases gk with
                  | zero => exact absurd HA.out (by simp [swagelaw14_Few.l1])
                  | succ k3 =>
                    have H := HA.out
                    clear HA
                    simp only [swagelaw14_Few.l1] at H
                    have HC11 := Aside0.mk H
                    clear H
                    go_upto_region 7 with (fail)
                    go_cut [38] (fun v38 wc => ∃ (kq : Nat) (x38_10 : Bool), v38 = .bool x38_10 ∧ Aside0 (swagelaw14_Few.j3 kq (wrap64 (x3_1 + (((rd_T28 l0_1 x4_1).f0).length : Int))) x4_1 x5_3 x38_10 a0_0 l0_1 = some r) ∧ Aside0 (kq ≤ k3) ∧ Aside0 (wc.heap[gb153]? = some (.cells #[.int .i64 a0_0, (.slice (some ad154) l0_1.length c0_1)] 36 (0, 0))) ∧ Aside0 (Below w.heap.size w wc))
                    case first =>
                      have H := HC11.out
                      clear HC11
                      by_cases c12 : 0 ≤ x4_1
                      · rw [if_pos c12] at H
                        have c12b0 : decide (0 ≤ x4_1) = true := decide_eq_true c12
                        clear c12
                        (first | rw [c12b0] | (simp only [i64_w, i32_w]; rw [c12b0]) | skip)
                        by_cases c13 : x4_1 < (l0_1.length : Int)
                        · rw [if_pos c13] at H
                          have c13b0 : decide (x4_1 < (l0_1.length : Int)) = true := decide_eq_true c13
                          clear c13
                          by_cases c14 : x5_3 < (((rd_T28 l0_1 x4_1).f0).length : Int)
                          · rw [if_pos c14] at H
                            have c14b0 : decide (x5_3 < (((rd_T28 l0_1 x4_1).f0).length : Int)) = true := decide_eq_true c14
                            clear c14
                            have H' := Aside0.mk H
                            clear H
                            have hcz15_0 : wr.cell? ⟨gb153, 0, none⟩ = some (.int .i64 a0_0) := (blk_cell BK153.out 0).trans rfl
                            have hcz15_1 : wr.cell? ⟨gb153, 1, none⟩ = some (.slice (some ad154) l0_1.length c0_1) := (blk_cell BK153.out 1).trans rfl
                            have hfz15_0 := blk_frozen BK153.out 0
                            have hfz15_1 := blk_frozen BK153.out 1
                            have p155 : 0 ≤ (x4_1 : Int) := of_decide_eq_true (by first | (with_reducible assumption) | assumption)
                            have q155 : x4_1 < (l0_1.length : Int) := of_decide_eq_true (by first | (with_reducible assumption) | assumption)
                            obtain ⟨ad155, A155_0, c155_0, e155, hx155_0, hx155_1, hx155_2, hx155_3, hx155_4, hl155_0, hi155_0⟩ := at_T28 HR0_1.out x4_1 p155 q155
                            obtain rfl : ad154 = ad155 := (by injection e155)
                            replace hx155_0 := (HB.out.cell (World.block_lt_of_cell? w _ hx155_0)).trans hx155_0
                            replace hx155_1 := (HB.out.cell (World.block_lt_of_cell? w _ hx155_1)).trans hx155_1
                            replace hx155_2 := (HB.out.cell (World.block_lt_of_cell? w _ hx155_2)).trans hx155_2
                            replace hx155_3 := (HB.out.cell (World.block_lt_of_cell? w _ hx155_3)).trans hx155_3
                            replace hx155_4 := (HB.out.cell (World.block_lt_of_cell? w _ hx155_4)).trans hx155_4
                            have HR155_0 := Aside0.mk hi155_0
                            have HC155_0 := Aside0.mk hl155_0
                            clear hi155_0 hl155_0
                            replace p155 := eq_true p155
                            replace q155 := eq_true q155
                            go_wp2
                            go_meet
                            case rel => exact ⟨_, (decide (x5_3 < 300)), (by first | rfl | (simp; done) | (simp [*]; done)), H', ⟨by have := HK1.out; have := HJ2.out; have := HK3.out; first | omega | exact Nat.le_refl _⟩, ⟨by (with_reducible repeat (first | refine blk_drewN ?_ _ | refine blk_drew ?_ | refine blk_alloc ?_ _)); exact BK153.out⟩, ⟨by repeat (first | (with_reducible first | exact HB.out | apply below_alloc | apply pw_below_drewN | apply below_drew1 | refine below_set ?_ GE153.out) | exact HB.out)⟩⟩
                          · rw [if_neg c14] at H
                            have c14b0 : decide (x5_3 < (((rd_T28 l0_1 x4_1).f0).length : Int)) = false := decide_eq_false c14
                            clear c14
                            have H' := Aside0.mk H
                            clear H
                            have hcz16_0 : wr.cell? ⟨gb153, 0, none⟩ = some (.int .i64 a0_0) := (blk_cell BK153.out 0).trans rfl
                            have hcz16_1 : wr.cell? ⟨gb153, 1, none⟩ = some (.slice (some ad154) l0_1.length c0_1) := (blk_cell BK153.out 1).trans rfl
                            have hfz16_0 := blk_frozen BK153.out 0
                            have hfz16_1 := blk_frozen BK153.out 1
                            have p155 : 0 ≤ (x4_1 : Int) := of_decide_eq_true (by first | (with_reducible assumption) | assumption)
                            have q155 : x4_1 < (l0_1.length : Int) := of_decide_eq_true (by first | (with_reducible assumption) | assumption)
                            obtain ⟨ad155, A155_0, c155_0, e155, hx155_0, hx155_1, hx155_2, hx155_3, hx155_4, hl155_0, hi155_0⟩ := at_T28 HR0_1.out x4_1 p155 q155
                            obtain rfl : ad154 = ad155 := (by injection e155)
                            replace hx155_0 := (HB.out.cell (World.block_lt_of_cell? w _ hx155_0)).trans hx155_0
                            replace hx155_1 := (HB.out.cell (World.block_lt_of_cell? w _ hx155_1)).trans hx155_1
                            replace hx155_2 := (HB.out.cell (World.block_lt_of_cell? w _ hx155_2)).trans hx155_2
                            replace hx155_3 := (HB.out.cell (World.block_lt_of_cell? w _ hx155_3)).trans hx155_3
                            replace hx155_4 := (HB.out.cell (World.block_lt_of_cell? w _ hx155_4)).trans hx155_4
                            have HR155_0 := Aside0.mk hi155_0
                            have HC155_0 := Aside0.mk hl155_0
                            clear hi155_0 hl155_0
                            replace p155 := eq_true p155
                            replace q155 := eq_true q155
                            go_wp2
                            go_meet
                            case rel => exact ⟨_, (false), (by first | rfl | (simp; done) | (simp [*]; done)), H', ⟨by have := HK1.out; have := HJ2.out; have := HK3.out; first | omega | exact Nat.le_refl _⟩, ⟨by (with_reducible repeat (first | refine blk_drewN ?_ _ | refine blk_drew ?_ | refine blk_alloc ?_ _)); exact BK153.out⟩, ⟨by repeat (first | (with_reducible first | exact HB.out | apply below_alloc | apply pw_below_drewN | apply below_drew1 | refine below_set ?_ GE153.out) | exact HB.out)⟩⟩
                        · rw [if_neg c13] at H
                          exact absurd H (by simp)
                      · rw [if_neg c12] at H
                        exact absurd H (by simp)
                    case rest =>
                      clear HC11
                      try clear c1
                      try clear p1
                      try clear q1
                      try clear hx1
                      try clear p2
                      try clear c4
                      try clear c4b0
                      try clear p6
                      try clear c7
                      try clear c8
                      try clear c8b0
                      try clear c9
                      try clear c9b0
                      try clear c12
                      try clear c12b0
                      try clear c13
                      try clear c13b0
                      try clear c14
                      try clear c14b0
                      try clear c15
                      try clear p15
                      try clear q15
                      try clear hx15
                      try clear hcz10_0
                      try clear hcz10_1
                      try clear hcz15_0
                      try clear hcz15_1
                      try clear hcz16_0
                      try clear hcz16_1
                      try clear hcz5_0
                      try clear hcz5_1
                      try clear hcz6_0
                      try clear hcz6_1
                      try clear hfz10_0
                      try clear hfz10_1
                      try clear hfz15_0
                      try clear hfz15_1
                      try clear hfz16_0
                      try clear hfz16_1
                      try clear hfz5_0
                      try clear hfz5_1
                      try clear hfz6_0
                      try clear hfz6_1
                      try clear hx154_0
                      try clear hx154_1
                      try clear hx154_2
                      try clear hx154_3
                      try clear hx154_4
                      try clear hx155_0
                      try clear hx155_1
                      try clear hx155_2
                      try clear hx155_3
                      try clear hx155_4
                      try clear p1
                      try clear p154
                      try clear p155
                      try clear p2
                      try clear p6
                      try clear q1
                      try clear q154
                      try clear q155
                      obtain ⟨kq, x38_10, rfl, HA, HJ10, BK153, HB⟩ := hcut
                      cases kq with
                      | zero => exact absurd HA.out (by simp [swagelaw14_Few.j3])
                      | succ kj10 =>
                        have H := HA.out
                        clear HA
                        simp only [swagelaw14_Few.j3] at H
                        by_cases c17 : x38_10 = true
                        · subst c17
                          have H1 : (if 0 ≤ x4_1 then (if x4_1 < (l0_1.length : Int) then (if 0 ≤ x5_3 then (if x5_3 < (((rd_T28 l0_1 x4_1).f0).length : Int) then (if (((rd_T30 ((rd_T28 l0_1 x4_1).f0) x5_3).f5).length : Int) > 20 then (some false) else (swagelaw14_Few.l1 kj10 (wrap64 (x3_1 + (((rd_T28 l0_1 x4_1).f0).length : Int))) x4_1 (wrap64 (x5_3 + 1)) a0_0 l0_1)) else (none)) else (none)) else (none)) else (none)) = some r := by rw [if_pos rfl] at H; exact H
                          clear H
                          have H := H1
                          clear H1
                          by_cases c18 : 0 ≤ x4_1
                          · rw [if_pos c18] at H
                            have c18b0 : decide (0 ≤ x4_1) = true := decide_eq_true c18
                            clear c18
                            by_cases c19 : x4_1 < (l0_1.length : Int)
                            · rw [if_pos c19] at H
                              have c19b0 : decide (x4_1 < (l0_1.length : Int)) = true := decide_eq_true c19
                              clear c19
                              by_cases c20 : 0 ≤ x5_3
                              · rw [if_pos c20] at H
                                have c20b0 : decide (0 ≤ x5_3) = true := decide_eq_true c20
                                clear c20
                                by_cases c21 : x5_3 < (((rd_T28 l0_1 x4_1).f0).length : Int)
                                · rw [if_pos c21] at H
                                  have c21b0 : decide (x5_3 < (((rd_T28 l0_1 x4_1).f0).length : Int)) = true := decide_eq_true c21
                                  clear c21
                                  by_cases c22 : (((rd_T30 ((rd_T28 l0_1 x4_1).f0) x5_3).f5).length : Int) > 20
                                  · rw [if_pos c22] at H
                                    have c22b0 : decide (20 < (((rd_T30 ((rd_T28 l0_1 x4_1).f0) x5_3).f5).length : Int)) = true := decide_eq_true c22
                                    have c22b1 : decide (20 < ((rd_T30 ((rd_T28 l0_1 x4_1).f0) x5_3).f5).length) = true := decide_eq_true (by omega)
                                    clear c22
                                    obtain rfl := Option.some.inj H
                                    have hcz23_0 : wc.cell? ⟨gb153, 0, none⟩ = some (.int .i64 a0_0) := (blk_cell BK153.out 0).trans rfl
                                    have hcz23_1 : wc.cell? ⟨gb153, 1, none⟩ = some (.slice (some ad154) l0_1.length c0_1) := (blk_cell BK153.out 1).trans rfl
                                    have hfz23_0 := blk_frozen BK153.out 0
                                    have hfz23_1 := blk_frozen BK153.out 1
                                    have p156 : 0 ≤ (x4_1 : Int) := of_decide_eq_true (by first | (with_reducible assumption) | assumption)
                                    have q156 : x4_1 < (l0_1.length : Int) := of_decide_eq_true (by first | (with_reducible assumption) | assumption)
                                    obtain ⟨ad156, A156_0, c156_0, e156, hx156_0, hx156_1, hx156_2, hx156_3, hx156_4, hl156_0, hi156_0⟩ := at_T28 HR0_1.out x4_1 p156 q156
                                    obtain rfl : ad154 = ad156 := (by injection e156)
                                    replace hx156_0 := (HB.out.cell (World.block_lt_of_cell? w _ hx156_0)).trans hx156_0
                                    replace hx156_1 := (HB.out.cell (World.block_lt_of_cell? w _ hx156_1)).trans hx156_1
                                    replace hx156_2 := (HB.out.cell (World.block_lt_of_cell? w _ hx156_2)).trans hx156_2
                                    replace hx156_3 := (HB.out.cell (World.block_lt_of_cell? w _ hx156_3)).trans hx156_3
                                    replace hx156_4 := (HB.out.cell (World.block_lt_of_cell? w _ hx156_4)).trans hx156_4
                                    have HR156_0 := Aside0.mk hi156_0
                                    have HC156_0 := Aside0.mk hl156_0
                                    clear hi156_0 hl156_0
                                    replace p156 := eq_true p156
                                    replace q156 := eq_true q156
                                    have p157 : 0 ≤ (x5_3 : Int) := of_decide_eq_true (by first | (with_reducible assumption) | assumption)
                                    have q157 : x5_3 < (((rd_T28 l0_1 x4_1).f0).length : Int) := of_decide_eq_true (by first | (with_reducible assumption) | assumption)
                                    obtain ⟨ad157, A157_5, c157_5, e157, hx157_0, hx157_1, hx157_2, hx157_3, hx157_4, hx157_5, hl157_5, hi157_5⟩ := at_T30 HR156_0.out x5_3 p157 q157
                                    cases e157
                                    replace hx157_0 := (HB.out.cell (World.block_lt_of_cell? w _ hx157_0)).trans hx157_0
                                    replace hx157_1 := (HB.out.cell (World.block_lt_of_cell? w _ hx157_1)).trans hx157_1
                                    replace hx157_2 := (HB.out.cell (World.block_lt_of_cell? w _ hx157_2)).trans hx157_2
                                    replace hx157_3 := (HB.out.cell (World.block_lt_of_cell? w _ hx157_3)).trans hx157_3
                                    replace hx157_4 := (HB.out.cell (World.block_lt_of_cell? w _ hx157_4)).trans hx157_4
                                    replace hx157_5 := (HB.out.cell (World.block_lt_of_cell? w _ hx157_5)).trans hx157_5
                                    have HR157_5 := Aside0.mk hi157_5
                                    have HC157_5 := Aside0.mk hl157_5
                                    clear hi157_5 hl157_5
                                    replace p157 := eq_true p157
                                    replace q157 := eq_true q157
                                    go_wp2
                                    go_ret
                                    exact ⟨by first | rfl | (simp [errW_none, errW_some] <;> rfl) | (simp [*, errW_none, errW_some] <;> rfl), by repeat (first | (with_reducible first | exact HB.out | apply below_alloc | apply pw_below_drewN | apply below_drew1 | refine below_set ?_ GE153.out) | exact HB.out)⟩
                                  · rw [if_neg c22] at H
                                    have c22b0 : decide (20 < (((rd_T30 ((rd_T28 l0_1 x4_1).f0) x5_3).f5).length : Int)) = false := decide_eq_false c22
                                    have c22b1 : decide (20 < ((rd_T30 ((rd_T28 l0_1 x4_1).f0) x5_3).f5).length) = false := decide_eq_false (by omega)
                                    clear c22
                                    have H' := Aside0.mk H
                                    clear H
                                    have hcz24_0 : wc.cell? ⟨gb153, 0, none⟩ = some (.int .i64 a0_0) := (blk_cell BK153.out 0).trans rfl
                                    have hcz24_1 : wc.cell? ⟨gb153, 1, none⟩ = some (.slice (some ad154) l0_1.length c0_1) := (blk_cell BK153.out 1).trans rfl
                                    have hfz24_0 := blk_frozen BK153.out 0
                                    have hfz24_1 := blk_frozen BK153.out 1
                                    have p156 : 0 ≤ (x4_1 : Int) := of_decide_eq_true (by first | (with_reducible assumption) | assumption)
                                    have q156 : x4_1 < (l0_1.length : Int) := of_decide_eq_true (by first | (with_reducible assumption) | assumption)
                                    obtain ⟨ad156, A156_0, c156_0, e156, hx156_0, hx156_1, hx156_2, hx156_3, hx156_4, hl156_0, hi156_0⟩ := at_T28 HR0_1.out x4_1 p156 q156
                                    obtain rfl : ad154 = ad156 := (by injection e156)
                                    replace hx156_0 := (HB.out.cell (World.block_lt_of_cell? w _ hx156_0)).trans hx156_0
                                    replace hx156_1 := (HB.out.cell (World.block_lt_of_cell? w _ hx156_1)).trans hx156_1
                                    replace hx156_2 := (HB.out.cell (World.block_lt_of_cell? w _ hx156_2)).trans hx156_2
                                    replace hx156_3 := (HB.out.cell (World.block_lt_of_cell? w _ hx156_3)).trans hx156_3
                                    replace hx156_4 := (HB.out.cell (World.block_lt_of_cell? w _ hx156_4)).trans hx156_4
                                    have HR156_0 := Aside0.mk hi156_0
                                    have HC156_0 := Aside0.mk hl156_0
                                    clear hi156_0 hl156_0
                                    replace p156 := eq_true p156
                                    replace q156 := eq_true q156
                                    have p157 : 0 ≤ (x5_3 : Int) := of_decide_eq_true (by first | (with_reducible assumption) | assumption)
                                    have q157 : x5_3 < (((rd_T28 l0_1 x4_1).f0).length : Int) := of_decide_eq_true (by first | (with_reducible assumption) | assumption)
                                    obtain ⟨ad157, A157_5, c157_5, e157, hx157_0, hx157_1, hx157_2, hx157_3, hx157_4, hx157_5, hl157_5, hi157_5⟩ := at_T30 HR156_0.out x5_3 p157 q157
                                    cases e157
                                    replace hx157_0 := (HB.out.cell (World.block_lt_of_cell? w _ hx157_0)).trans hx157_0
                                    replace hx157_1 := (HB.out.cell (World.block_lt_of_cell? w _ hx157_1)).trans hx157_1
                                    replace hx157_2 := (HB.out.cell (World.block_lt_of_cell? w _ hx157_2)).trans hx157_2
                                    replace hx157_3 := (HB.out.cell (World.block_lt_of_cell? w _ hx157_3)).trans hx157_3
                                    replace hx157_4 := (HB.out.cell (World.block_lt_of_cell? w _ hx157_4)).trans hx157_4
                                    replace hx157_5 := (HB.out.cell (World.block_lt_of_cell? w _ hx157_5)).trans hx157_5
                                    have HR157_5 := Aside0.mk hi157_5
                                    have HC157_5 := Aside0.mk hl157_5
                                    clear hi157_5 hl157_5
                                    replace p157 := eq_true p157
                                    replace q157 := eq_true q157
                                    go_wp2
                                    go_roundg kj10
                                    case measure => have := HK1.out; have := HJ2.out; have := HK3.out; have := HJ10.out; omega
                                    case rel => exact ⟨(wrap64 (x5_3 + 1)), (by first | rfl | (simp; done) | (simp [*]; done)), H', ⟨by have := HK1.out; have := HJ2.out; have := HK3.out; have := HJ10.out; omega⟩, ⟨by (with_reducible repeat (first | refine blk_drewN ?_ _ | refine blk_drew ?_ | refine blk_alloc ?_ _)); exact BK153.out⟩, ⟨by repeat (first | (with_reducible first | exact HB.out | apply below_alloc | apply pw_below_drewN | apply below_drew1 | refine below_set ?_ GE153.out) | exact HB.out)⟩⟩
                                · rw [if_neg c21] at H
                                  exact absurd H (by simp)
                              · rw [if_neg c20] at H
                                exact absurd H (by simp)
                            · rw [if_neg c19] at H
                              exact absurd H (by simp)
                          · rw [if_neg c18] at H
                            exact absurd H (by simp)
                        · replace c17 := Bool.eq_false_iff.mpr c17
                          subst c17
                          have H1 : (swagelaw14_Few.l0 kj10 (wrap64 (x3_1 + (((rd_T28 l0_1 x4_1).f0).length : Int))) (wrap64 (x4_1 + 1)) a0_0 l0_1) = some r := by rw [if_neg (show ¬ (false = true) by decide)] at H; exact H
                          clear H
                          have H := H1
                          clear H1
                          have H' := Aside0.mk H
                          clear H
                          go_wp2
                          go_roundg kj10
                          case measure => have := HK1.out; have := HJ2.out; have := HK3.out; have := HJ10.out; omega
                          case rel => exact ⟨((wrap64 (x3_1 + (((rd_T28 l0_1 x4_1).f0).length : Int)))), (wrap64 (x4_1 + 1)), (by first | rfl | (simp; done) | (simp [*]; done)), (by first | rfl | (simp; done) | (simp [*]; done)), H', ⟨by have := HK1.out; have := HJ2.out; have := HK3.out; have := HJ10.out; omega⟩, ⟨by (with_reducible repeat (first | refine blk_drewN ?_ _ | refine blk_drew ?_ | refine blk_alloc ?_ _)); exact BK153.out⟩, ⟨by repeat (first | (with_reducible first | exact HB.out | apply below_alloc | apply pw_below_drewN | apply below_drew1 | refine below_set ?_ GE153.out) | exact HB.out)⟩⟩
              · rw [if_neg c9] at H
                exact absurd H (by simp)
            · rw [if_neg c8] at H
              exact absurd H (by simp)
          · replace c7 := Bool.eq_false_iff.mpr c7
            subst c7
            have H1 : (if (l0_1.length : Int) ≤ 40 then (some (decide (x3_1 ≤ 250))) else (some false)) = some r := by rw [if_neg (show ¬ (false = true) by decide)] at H; exact H
            clear H
            have H := H1
            clear H1
            by_cases c25 : (l0_1.length : Int) ≤ 40
            · rw [if_pos c25] at H
              have c25b0 : decide ((l0_1.length : Int) ≤ 40) = true := decide_eq_true c25
              have c25b1 : decide (l0_1.length ≤ 40) = true := decide_eq_true (by omega)
              clear c25
              obtain rfl := Option.some.inj H
              have hcz26_0 : wc.cell? ⟨gb153, 0, none⟩ = some (.int .i64 a0_0) := (blk_cell BK153.out 0).trans rfl
              have hcz26_1 : wc.cell? ⟨gb153, 1, none⟩ = some (.slice A0_1 l0_1.length c0_1) := (blk_cell BK153.out 1).trans rfl
              have hfz26_0 := blk_frozen BK153.out 0
              have hfz26_1 := blk_frozen BK153.out 1
              go_wp2
              go_ret
              exact ⟨by first | rfl | (simp [errW_none, errW_some] <;> rfl) | (simp [*, errW_none, errW_some] <;> rfl), by repeat (first | (with_reducible first | exact HB.out | apply below_alloc | apply pw_below_drewN | apply below_drew1 | refine below_set ?_ GE153.out) | exact HB.out)⟩
            · rw [if_neg c25] at H
              have c25b0 : decide ((l0_1.length : Int) ≤ 40) = false := decide_eq_false c25
              have c25b1 : decide (l0_1.length ≤ 40) = false := decide_eq_false (by omega)
              clear c25
              obtain rfl := Option.some.inj H
              have hcz27_0 : wc.cell? ⟨gb153, 0, none⟩ = some (.int .i64 a0_0) := (blk_cell BK153.out 0).trans rfl
              have hcz27_1 : wc.cell? ⟨gb153, 1, none⟩ = some (.slice A0_1 l0_1.length c0_1) := (blk_cell BK153.out 1).trans rfl
              have hfz27_0 := blk_frozen BK153.out 0
              have hfz27_1 := blk_frozen BK153.out 1
              go_wp2
              go_ret
              exact ⟨by first | rfl | (simp [errW_none, errW_some] <;> rfl) | (simp [*, errW_none, errW_some] <;> rfl), by repeat (first | (with_reducible first | exact HB.out | apply below_alloc | apply pw_below_drewN | apply below_drew1 | refine below_set ?_ GE153.out) | exact HB.out)⟩

/-! ### slices_Index_int_int: function 84 -/
def slices_Index_int_int.l0 : Nat → List Int → Int → Int → Int → Option (Int)
  | 0, _, _, _, _ => none
  | k + 1, x0, x1, x7, x8 => if x8 < x7 then (if 0 ≤ x8 then (if x8 < (x0.length : Int) then (if x1 = (rd x0 x8) then (some x8) else (slices_Index_int_int.l0 k x0 x1 x7 (wrap64 (x8 + 1)))) else (none)) else (none)) else (some (-1))
def slices_Index_int_int.f (k : Nat) (l0 : List Int) (a1 : Int) : Option (Int) := slices_Index_int_int.l0 k l0 a1 (l0.length : Int) 0
theorem slices_Index_int_int.mono_l : ∀ k, (∀ y0 y1 y2 y3, LeO (slices_Index_int_int.l0 k y0 y1 y2 y3) (slices_Index_int_int.l0 (k + 1) y0 y1 y2 y3))
  | 0 => fun _ _ _ _ r h => by simp [slices_Index_int_int.l0] at h
  | k + 1 => by
    have ih0 := slices_Index_int_int.mono_l k
    · intro y0 y1 y2 y3
      unfold slices_Index_int_int.l0
      repeat' first
      | (with_reducible exact ih0 _ _ _ _)
      | (with_reducible exact LeO.refl _)
      | (with_reducible exact LeO.none _)
      | (with_reducible refine LeO.ite ?_ ?_)
      | (with_reducible refine LeO.bind ?_ (fun _ => ?_))
      | exact ih0 _ _ _ _
      | exact LeO.none _
      | refine LeO.ite ?_ ?_
      | refine LeO.bind ?_ (fun _ => ?_)
theorem slices_Index_int_int.mono : ∀ a0 a1 k, LeO (slices_Index_int_int.f k a0 a1) (slices_Index_int_int.f (k + 1) a0 a1) := by
  intro a0 a1 k
  have ih0 := slices_Index_int_int.mono_l k
  unfold slices_Index_int_int.f
  repeat' first
      | (with_reducible exact ih0 _ _ _ _)
      | (with_reducible exact LeO.refl _)
      | (with_reducible exact LeO.none _)
      | (with_reducible refine LeO.ite ?_ ?_)
      | (with_reducible refine LeO.bind ?_ (fun _ => ?_))
      | exact ih0 _ _ _ _
      | exact LeO.none _
      | refine LeO.ite ?_ ?_
      | refine LeO.bind ?_ (fun _ => ?_)
set_option maxHeartbeats 8000000 in
set_option maxRecDepth 100000 in
theorem slices_Index_int_int.calls (k : Nat) (A0 : Option Addr) (c0 : Nat) (l0 : List Int) (a1 : Int) (r : Int) (w : World) (hr0 : Kd.C (Kd.int .i64) w A0 l0.length l0) (hc0 : l0.length ≤ c0) (h : slices_Index_int_int.f k l0 a1 = some r) :
    Calls Try.prog 84 #[.slice A0 l0.length c0, .int .i64 a1] w fun e w' => e = .returned (.int .i64 r) ∧ Drawn0 w w' := by
  have HR0 := Aside0.mk hr0
  have HC0 := Aside0.mk hc0
  clear hr0 hc0
  have H : (slices_Index_int_int.l0 k l0 a1 (l0.length : Int) 0) = some r := h
  clear h
  have H' := Aside0.mk H
  clear H
  go_enter Try.func84, Try.ntmps84
  go_wp2
  go_loopg [8] k (fun kq v8 w' => ∃ (x8_1 : Int), v8 = .int .i64 x8_1 ∧ Aside0 (slices_Index_int_int.l0 kq l0 a1 (l0.length : Int) x8_1 = some r) ∧ Aside0 (kq ≤ k) ∧ Drawn0 w w')
  case atStart => exact ⟨(0), (by first | rfl | (simp; done) | (simp [*]; done)), H', ⟨Nat.le_refl _⟩, by repeat (first | exact Drawn0.refl _ | apply Drawn0.step)⟩
  case round =>
    clear H'
    try clear p2
    obtain ⟨x8_1, rfl, HA, HK1, ⟨m1, rfl⟩⟩ := hrel
    cases gk with
    | zero => exact absurd HA.out (by simp [slices_Index_int_int.l0])
    | succ k1 =>
      have H := HA.out
      clear HA
      simp only [slices_Index_int_int.l0] at H
      by_cases c3 : x8_1 < (l0.length : Int)
      · rw [if_pos c3] at H
        have c3b0 : decide (x8_1 < (l0.length : Int)) = true := decide_eq_true c3
        clear c3
        by_cases c4 : 0 ≤ x8_1
        · rw [if_pos c4] at H
          have c4b0 : decide (0 ≤ x8_1) = true := decide_eq_true c4
          clear c4
          by_cases c5 : x8_1 < (l0.length : Int)
          · rw [if_pos c5] at H
            have c5b0 : decide (x8_1 < (l0.length : Int)) = true := decide_eq_true c5
            clear c5
            by_cases c6 : a1 = (rd l0 x8_1)
            · rw [if_pos c6] at H
              have c6b0 : (a1 == (rd l0 x8_1)) = true := beq_iff_eq.mpr c6
              have c6b1 : (a1 != (rd l0 x8_1)) = false := bne_eq_false_iff_eq.mpr c6
              clear c6
              obtain rfl := Option.some.inj H
              have p158 : 0 ≤ (x8_1 : Int) := of_decide_eq_true (by first | (with_reducible assumption) | assumption)
              have q158 : x8_1 < (l0.length : Int) := of_decide_eq_true (by first | (with_reducible assumption) | assumption)
              obtain ⟨ad158, e158, hx158_0⟩ := Kd.at_int HR0.out x8_1 p158 q158
              cases e158
              replace p158 := eq_true p158
              replace q158 := eq_true q158
              go_wp2
              go_ret
              exact ⟨by first | rfl | (simp; done) | (simp [*]; done), by repeat (first | exact Drawn0.refl _ | apply Drawn0.step)⟩
            · rw [if_neg c6] at H
              have c6b0 : (a1 == (rd l0 x8_1)) = false := beq_eq_false_iff_ne.mpr c6
              have c6b1 : (a1 != (rd l0 x8_1)) = true := bne_iff_ne.mpr c6
              have H' := Aside0.mk H
              clear H
              have p158 : 0 ≤ (x8_1 : Int) := of_decide_eq_true (by first | (with_reducible assumption) | assumption)
              have q158 : x8_1 < (l0.length : Int) := of_decide_eq_true (by first | (with_reducible assumption) | assumption)
              obtain ⟨ad158, e158, hx158_0⟩ := Kd.at_int HR0.out x8_1 p158 q158
              cases e158
              replace p158 := eq_true p158
              replace q158 := eq_true q158
              go_wp2
              go_roundg k1
              case measure => have := HK1.out; omega
              case rel => exact ⟨(wrap64 (x8_1 + 1)), (by first | rfl | (simp; done) | (simp [*]; done)), H', ⟨by have := HK1.out; omega⟩, by repeat (first | exact Drawn0.refl _ | apply Drawn0.step)⟩
          · rw [if_neg c5] at H
            exact absurd H (by simp)
        · rw [if_neg c4] at H
          exact absurd H (by simp)
      · rw [if_neg c3] at H
        have c3b0 : decide (x8_1 < (l0.length : Int)) = false := decide_eq_false c3
        clear c3
        obtain rfl := Option.some.inj H
        go_wp2
        go_ret
        exact ⟨by first | rfl | (simp; done) | (simp [*]; done), by repeat (first | exact Drawn0.refl _ | apply Drawn0.step)⟩

/-! ### slices_Contains_int_int: function 62 -/
def slices_Contains_int_int.f (k : Nat) (l0 : List Int) (a1 : Int) : Option (Bool) := (slices_Index_int_int.f k l0 a1).bind fun t159 => (some (decide (t159 ≥ 0)))
theorem slices_Contains_int_int.mono : ∀ a0 a1 k, LeO (slices_Contains_int_int.f k a0 a1) (slices_Contains_int_int.f (k + 1) a0 a1) := by
  intro a0 a1 k
  unfold slices_Contains_int_int.f
  repeat' first
      | (with_reducible exact slices_Index_int_int.mono _ _ _)
      | (with_reducible exact LeO.refl _)
      | (with_reducible exact LeO.none _)
      | (with_reducible refine LeO.ite ?_ ?_)
      | (with_reducible refine LeO.bind ?_ (fun _ => ?_))
      | exact slices_Index_int_int.mono _ _ _
      | exact LeO.none _
      | refine LeO.ite ?_ ?_
      | refine LeO.bind ?_ (fun _ => ?_)
set_option maxHeartbeats 8000000 in
set_option maxRecDepth 100000 in
theorem slices_Contains_int_int.calls (k : Nat) (A0 : Option Addr) (c0 : Nat) (l0 : List Int) (a1 : Int) (r : Bool) (w : World) (hr0 : Kd.C (Kd.int .i64) w A0 l0.length l0) (hc0 : l0.length ≤ c0) (h : slices_Contains_int_int.f k l0 a1 = some r) :
    Calls Try.prog 62 #[.slice A0 l0.length c0, .int .i64 a1] w fun e w' => e = .returned (.bool r) ∧ Drawn0 w w' := by
  have HR0 := Aside0.mk hr0
  have HC0 := Aside0.mk hc0
  clear hr0 hc0
  have H : ((slices_Index_int_int.f k l0 a1).bind fun t159 => (some (decide (t159 ≥ 0)))) = some r := h
  clear h
  replace H := Option.bind_eq_some_iff.mp H
  obtain ⟨t159, A30, H⟩ := H
  replace H : (some (decide (t159 ≥ 0))) = some r := H
  have A3 := Aside0.mk A30
  clear A30
  obtain rfl := Option.some.inj H
  go_enter Try.func62, Try.ntmps62
  go_wp2_with (first | ((with_reducible refine gate_callee (f := 84) rfl ?_); refine goesL_ (some 7) rfl rfl Try.func84 (by kernel_rfl) rfl #[.slice A0 l0.length c0, .int .i64 a1] rfl (by (try simp only [List.map_toArray, List.map_cons, List.map_nil]); first | done | rfl | (simp only [List.length_drop, List.length_take]; rfl)) ?_; (with_reducible refine (slices_Index_int_int.calls k _ _ l0 a1 t159 _ ?side1 ?side2 A3.out).mono ?_); (case side1 => repeat (first | exact HR0.out | (with_reducible refine Kd.C_alloc ?_ _) | (with_reducible refine Kd.C_drewN ?_ _) | (with_reducible refine Kd.C_drew ?_))); (case side2 => exact HC0.out); rintro e w' ⟨rfl, ⟨nd, rfl⟩⟩; refine ⟨_, rfl, ?_⟩))
  go_ret
  exact ⟨by first | rfl | (simp; done) | (simp [*]; done), by repeat (first | exact Drawn0.refl _ | apply Drawn0.step)⟩

/-! ### code_Pure: function 32 -/
def code_Pure.j0 : Nat → Int → Bool → Int → Int → Int → Int → Int → List Int → Option (Bool)
  | 0, _, _, _, _, _, _, _, _ => none
  | k + 1, x4, x5, x161000, x161001, x161002, x161003, x161004, x161005 => if x5 = true then (some true) else (if x4 = 2 then ((slices_Contains_int_int.f k (([4, 5, 9, 10] : List Int)) x161004).bind fun t164 => (some (!t164))) else (some false))
def code_Pure.f (k : Nat) (a0_0 : Int) (a0_1 : Int) (a0_2 : Int) (a0_3 : Int) (a0_4 : Int) (l0_5 : List Int) : Option (Bool) := if a0_0 = 1 then (code_Pure.j0 k a0_0 (a0_0 == 1) a0_0 a0_1 a0_2 a0_3 a0_4 l0_5) else (code_Pure.j0 k a0_0 (a0_0 == 3) a0_0 a0_1 a0_2 a0_3 a0_4 l0_5)
theorem code_Pure.mono_l : ∀ k, (∀ y0 y1 y2 y3 y4 y5 y6 y7, LeO (code_Pure.j0 k y0 y1 y2 y3 y4 y5 y6 y7) (code_Pure.j0 (k + 1) y0 y1 y2 y3 y4 y5 y6 y7))
  | 0 => fun _ _ _ _ _ _ _ _ r h => by simp [code_Pure.j0] at h
  | k + 1 => by
    have ih0 := code_Pure.mono_l k
    · intro y0 y1 y2 y3 y4 y5 y6 y7
      unfold code_Pure.j0
      repeat' first
      | (with_reducible exact ih0 _ _ _ _ _ _ _ _)
      | (with_reducible exact slices_Contains_int_int.mono _ _ _)
      | (with_reducible exact LeO.refl _)
      | (with_reducible exact LeO.none _)
      | (with_reducible refine LeO.ite ?_ ?_)
      | (with_reducible refine LeO.bind ?_ (fun _ => ?_))
      | exact ih0 _ _ _ _ _ _ _ _
      | exact slices_Contains_int_int.mono _ _ _
      | exact LeO.none _
      | refine LeO.ite ?_ ?_
      | refine LeO.bind ?_ (fun _ => ?_)
theorem code_Pure.mono : ∀ a0 a1 a2 a3 a4 a5 k, LeO (code_Pure.f k a0 a1 a2 a3 a4 a5) (code_Pure.f (k + 1) a0 a1 a2 a3 a4 a5) := by
  intro a0 a1 a2 a3 a4 a5 k
  have ih0 := code_Pure.mono_l k
  unfold code_Pure.f
  repeat' first
      | (with_reducible exact ih0 _ _ _ _ _ _ _ _)
      | (with_reducible exact slices_Contains_int_int.mono _ _ _)
      | (with_reducible exact LeO.refl _)
      | (with_reducible exact LeO.none _)
      | (with_reducible refine LeO.ite ?_ ?_)
      | (with_reducible refine LeO.bind ?_ (fun _ => ?_))
      | exact ih0 _ _ _ _ _ _ _ _
      | exact slices_Contains_int_int.mono _ _ _
      | exact LeO.none _
      | refine LeO.ite ?_ ?_
      | refine LeO.bind ?_ (fun _ => ?_)
set_option maxHeartbeats 8000000 in
set_option maxRecDepth 100000 in
theorem code_Pure.calls (k : Nat) (a0_0 : Int) (a0_1 : Int) (a0_2 : Int) (a0_3 : Int) (a0_4 : Int) (A0_5 : Option Addr) (c0_5 : Nat) (l0_5 : List Int) (r : Bool) (w : World) (hr0_5 : Kd.C (Kd.int .i64) w A0_5 l0_5.length l0_5) (hc0_5 : l0_5.length ≤ c0_5) (h : code_Pure.f k a0_0 a0_1 a0_2 a0_3 a0_4 l0_5 = some r) :
    Calls Try.prog 32 #[.agg #[.int .i64 a0_0, .int .i64 a0_1, .int .i64 a0_2, .int .i64 a0_3, .int .i64 a0_4, .slice A0_5 l0_5.length c0_5]] w fun e w' => e = .returned (.bool r) ∧ Below w.heap.size w w' := by
  have hu30 := Try.underlying30
  have HR0_5 := Aside0.mk hr0_5
  have HC0_5 := Aside0.mk hc0_5
  clear hr0_5 hc0_5
  have HB := Aside0.mk (Below.refl w.heap.size w)
  have H : (if a0_0 = 1 then (code_Pure.j0 k a0_0 (a0_0 == 1) a0_0 a0_1 a0_2 a0_3 a0_4 l0_5) else (code_Pure.j0 k a0_0 (a0_0 == 3) a0_0 a0_1 a0_2 a0_3 a0_4 l0_5)) = some r := h
  clear h
  have HC2 := Aside0.mk H
  clear H
  go_enter Try.func32, Try.ntmps32
  go_upto_if 5 with (first | ((with_reducible refine gate_dst (N := 1) rfl ?_); refine box_event ?hg (N := 1) ?hd (cs := #[.int .i64 a0_0, .int .i64 a0_1, .int .i64 a0_2, .int .i64 a0_3, .int .i64 a0_4, .slice A0_5 l0_5.length c0_5]) (t := 30) ?hr ?_; (case hd => rfl); (case hg => rfl); (case hr => first | (go_simp; done) | (go_simp; rfl)); intro gb160 hg w3 hbox hb; have n0_ := Aside0.mk (below_step (by repeat (first | (with_reducible first | exact HB.out | apply below_alloc | apply pw_below_drewN | apply below_drew1) | exact HB.out)) hb); have n1_ := Aside0.mk (hbox); have n2_ := Aside0.mk ((by rw [hg]; exact (below_size (by repeat (first | (with_reducible first | exact HB.out | apply below_alloc | apply pw_below_drewN | apply below_drew1) | exact HB.out))) : w.heap.size ≤ gb160)); have n3_ := Aside0.mk ((by rw [hg]; exact (below_size (by repeat (first | (with_reducible first | exact HB.out | apply below_alloc | apply pw_below_drewN | apply below_drew1) | exact HB.out))) : w.heap.size ≤ gb160)); clear HB; have HB := n0_; have BK160 := n1_; have GW160 := n2_; have GE160 := n3_; clear n0_ n1_ n2_ n3_; clear hb hbox hg; have hcz4_0 : w3.cell? ⟨gb160, 0, none⟩ = some (.int .i64 a0_0) := (blk_cell BK160.out 0).trans rfl; have hcz4_1 : w3.cell? ⟨gb160, 1, none⟩ = some (.int .i64 a0_1) := (blk_cell BK160.out 1).trans rfl; have hcz4_2 : w3.cell? ⟨gb160, 2, none⟩ = some (.int .i64 a0_2) := (blk_cell BK160.out 2).trans rfl; have hcz4_3 : w3.cell? ⟨gb160, 3, none⟩ = some (.int .i64 a0_3) := (blk_cell BK160.out 3).trans rfl; have hcz4_4 : w3.cell? ⟨gb160, 4, none⟩ = some (.int .i64 a0_4) := (blk_cell BK160.out 4).trans rfl; have hcz4_5 : w3.cell? ⟨gb160, 5, none⟩ = some (.slice A0_5 l0_5.length c0_5) := (blk_cell BK160.out 5).trans rfl; have hfz4_0 := blk_frozen BK160.out 0; have hfz4_1 := blk_frozen BK160.out 1; have hfz4_2 := blk_frozen BK160.out 2; have hfz4_3 := blk_frozen BK160.out 3; have hfz4_4 := blk_frozen BK160.out 4; have hfz4_5 := blk_frozen BK160.out 5))
  (try simp only [Act.put, List.setIfInBounds_toArray, List.set_cons_zero, List.set_cons_succ])
  go_cut [5] (fun v5 wc => ∃ (kq : Nat) (x5_1 : Bool), v5 = .bool x5_1 ∧ Aside0 (code_Pure.j0 kq a0_0 x5_1 a0_0 a0_1 a0_2 a0_3 a0_4 l0_5 = some r) ∧ Aside0 (kq ≤ k) ∧ Aside0 (wc.heap[gb160]? = some (.cells #[.int .i64 a0_0, .int .i64 a0_1, .int .i64 a0_2, .int .i64 a0_3, .int .i64 a0_4, (.slice A0_5 l0_5.length c0_5)] 30 (0, 0))) ∧ Aside0 (Below w.heap.size w wc))
  case first =>
    have H := HC2.out
    clear HC2
    by_cases c5 : a0_0 = 1
    · rw [if_pos c5] at H
      have c5b0 : (a0_0 == 1) = true := beq_iff_eq.mpr c5
      have c5b1 : (a0_0 != 1) = false := bne_eq_false_iff_eq.mpr c5
      clear c5
      (first | rw [c5b0] | (simp only [i64_w, i32_w]; rw [c5b0]) | skip)
      have H' := Aside0.mk H
      clear H
      go_wp2
      go_meet
      case rel => exact ⟨_, ((a0_0 == 1)), (by first | rfl | (simp; done) | (simp [*]; done)), H', ⟨by first | omega | exact Nat.le_refl _⟩, ⟨by (with_reducible repeat (first | refine blk_drewN ?_ _ | refine blk_drew ?_ | refine blk_alloc ?_ _)); exact BK160.out⟩, ⟨by repeat (first | (with_reducible first | exact HB.out | apply below_alloc | apply pw_below_drewN | apply below_drew1 | refine below_set ?_ GE160.out) | exact HB.out)⟩⟩
    · rw [if_neg c5] at H
      have c5b0 : (a0_0 == 1) = false := beq_eq_false_iff_ne.mpr c5
      have c5b1 : (a0_0 != 1) = true := bne_iff_ne.mpr c5
      (first | rw [c5b0] | (simp only [i64_w, i32_w]; rw [c5b0]) | skip)
      have H' := Aside0.mk H
      clear H
      go_wp2
      go_meet
      case rel => exact ⟨_, ((a0_0 == 3)), (by first | rfl | (simp; done) | (simp [*]; done)), H', ⟨by first | omega | exact Nat.le_refl _⟩, ⟨by (with_reducible repeat (first | refine blk_drewN ?_ _ | refine blk_drew ?_ | refine blk_alloc ?_ _)); exact BK160.out⟩, ⟨by repeat (first | (with_reducible first | exact HB.out | apply below_alloc | apply pw_below_drewN | apply below_drew1 | refine below_set ?_ GE160.out) | exact HB.out)⟩⟩
  case rest =>
    clear HC2
    try clear p2
    try clear c3
    try clear c5
    try clear c5b0
    try clear c5b1
    try clear hcz4_0
    try clear hcz4_1
    try clear hcz4_2
    try clear hcz4_3
    try clear hcz4_4
    try clear hcz4_5
    try clear hfz4_0
    try clear hfz4_1
    try clear hfz4_2
    try clear hfz4_3
    try clear hfz4_4
    try clear hfz4_5
    obtain ⟨kq, x5_1, rfl, HA, HJ1, BK160, HB⟩ := hcut
    cases kq with
    | zero => exact absurd HA.out (by simp [code_Pure.j0])
    | succ kj1 =>
      have H := HA.out
      clear HA
      simp only [code_Pure.j0] at H
      by_cases c6 : x5_1 = true
      · subst c6
        have H1 : (some true) = some r := by rw [if_pos rfl] at H; exact H
        clear H
        have H := H1
        clear H1
        obtain rfl := Option.some.inj H
        go_wp2
        go_ret
        exact ⟨by first | rfl | (simp [errW_none, errW_some] <;> rfl) | (simp [*, errW_none, errW_some] <;> rfl), by repeat (first | (with_reducible first | exact HB.out | apply below_alloc | apply pw_below_drewN | apply below_drew1 | refine below_set ?_ GE160.out) | exact HB.out)⟩
      · replace c6 := Bool.eq_false_iff.mpr c6
        subst c6
        have H1 : (if a0_0 = 2 then ((slices_Contains_int_int.f kj1 (([4, 5, 9, 10] : List Int)) a0_4).bind fun t164 => (some (!t164))) else (some false)) = some r := by rw [if_neg (show ¬ (false = true) by decide)] at H; exact H
        clear H
        have H := H1
        clear H1
        by_cases c7 : a0_0 = 2
        · rw [if_pos c7] at H
          have c7b0 : (a0_0 == 2) = true := beq_iff_eq.mpr c7
          have c7b1 : (a0_0 != 2) = false := bne_eq_false_iff_eq.mpr c7
          clear c7
          obtain ⟨y161, hy161⟩ : ∃ y_ : List Int, y_ = (([4, 5, 9, 10] : List Int)) := ⟨_, rfl⟩
          replace H : ((slices_Contains_int_int.f kj1 y161 a0_4).bind fun t164 => (some (!t164))) = some r := by first | (rw [hy161]; with_reducible exact H) | (have H2_ := (Option.bind_some _ _).symm.trans H; rw [hy161]; with_reducible exact H2_) | (have H2_ := (Option.bind_some _ _).symm.trans H; with_reducible exact H2_) | with_reducible exact H | (rw [hy161]; exact H) | exact H
          have Ny161 := Aside0.mk hy161
          clear hy161
          replace H := Option.bind_eq_some_iff.mp H
          obtain ⟨t164, A80, H⟩ := H
          replace H : (some (!t164)) = some r := H
          have A8 := Aside0.mk A80
          clear A80
          obtain rfl := Option.some.inj H
          go_wp2_with (first | ((with_reducible refine gate_dst (N := 10) rfl ?_); refine Kd.R_lit (Kd.int .i64) _ 3 ?hg (N := 10) ?hd (xs := ([4, 5, 9, 10] : List Int)) (inner := [.int .i64 4, .int .i64 5, .int .i64 9, .int .i64 10]) (ok := fun _ => True) (okp := fun _ => True) ?hr ?hp (fun _ hk => hk) trivial (Below.refl _ _) (Nat.le_refl _) (by simp) ?_; (case hd => rfl); (case hg => rfl); (case hr => first | (go_simp; done) | (go_simp; rfl)); (case hp => exact (Reps.one (show Kd.M (Kd.int .i64) _ _ _ 4 [.int .i64 4] from rfl) (Reps.one (show Kd.M (Kd.int .i64) _ _ _ 5 [.int .i64 5] from rfl) (Reps.one (show Kd.M (Kd.int .i64) _ _ _ 9 [.int .i64 9] from rfl) (Reps.one (show Kd.M (Kd.int .i64) _ _ _ 10 [.int .i64 10] from rfl) (Reps.none _ _)))))); intro v162 w9 ho10 hb hg_ hnew_; clear hg_ hnew_; (first | rw [← Ny161.out] at ho10 | (simp only [Int.reduceToNat] at ho10; rw [← Ny161.out] at ho10)); have n0_ := Aside0.mk (Kd.R_lower ho10 (below_size (by repeat (first | (with_reducible first | exact HB.out | apply below_alloc | apply pw_below_drewN | apply below_drew1 | refine below_set ?_ GE160.out) | exact HB.out)))); have n1_ := Aside0.mk (blk_below (g := gb160) (o := .cells #[.int .i64 a0_0, .int .i64 a0_1, .int .i64 a0_2, .int .i64 a0_3, .int .i64 a0_4, .slice A0_5 l0_5.length c0_5] 30 (0, 0)) (by (with_reducible repeat (first | refine blk_drewN ?_ _ | refine blk_drew ?_ | refine blk_alloc ?_ _)); exact BK160.out) hb); have n2_ := Aside0.mk (below_step (by repeat (first | (with_reducible first | exact HB.out | apply below_alloc | apply pw_below_drewN | apply below_drew1 | refine below_set ?_ GE160.out) | exact HB.out)) hb); clear BK160; clear HB; have HO163 := n0_; have BK160 := n1_; have HB := n2_; clear n0_ n1_ n2_; clear hb ho10; have hcz11_0 : w9.cell? ⟨gb160, 0, none⟩ = some (.int .i64 a0_0) := (blk_cell BK160.out 0).trans rfl; have hcz11_1 : w9.cell? ⟨gb160, 1, none⟩ = some (.int .i64 a0_1) := (blk_cell BK160.out 1).trans rfl; have hcz11_2 : w9.cell? ⟨gb160, 2, none⟩ = some (.int .i64 a0_2) := (blk_cell BK160.out 2).trans rfl; have hcz11_3 : w9.cell? ⟨gb160, 3, none⟩ = some (.int .i64 a0_3) := (blk_cell BK160.out 3).trans rfl; have hcz11_4 : w9.cell? ⟨gb160, 4, none⟩ = some (.int .i64 a0_4) := (blk_cell BK160.out 4).trans rfl; have hcz11_5 : w9.cell? ⟨gb160, 5, none⟩ = some (.slice A0_5 l0_5.length c0_5) := (blk_cell BK160.out 5).trans rfl; have hfz11_0 := blk_frozen BK160.out 0; have hfz11_1 := blk_frozen BK160.out 1; have hfz11_2 := blk_frozen BK160.out 2; have hfz11_3 := blk_frozen BK160.out 3; have hfz11_4 := blk_frozen BK160.out 4; have hfz11_5 := blk_frozen BK160.out 5; obtain ⟨Ao12, co12, eo12⟩ := Kd.R_slice HO163.out; subst eo12) | ((with_reducible refine gate_callee (f := 62) rfl ?_); refine goesL_ (some 13) rfl rfl Try.func62 (by kernel_rfl) rfl #[.slice Ao12 y161.length co12, .int .i64 a0_4] rfl (by (try simp only [List.map_toArray, List.map_cons, List.map_nil]); first | done | rfl | (simp only [List.length_drop, List.length_take]; rfl)) ?_; (with_reducible refine (slices_Contains_int_int.calls kj1 _ _ y161 a0_4 t164 _ ?side1 ?side2 A8.out).mono ?_); (case side1 => repeat (first | exact (Kd.R_reads' HO163.out).2.2 | (with_reducible refine Kd.C_alloc ?_ _) | (with_reducible refine Kd.C_drewN ?_ _) | (with_reducible refine Kd.C_drew ?_))); (case side2 => exact (Kd.R_reads' HO163.out).2.1); rintro e w' ⟨rfl, ⟨nd, rfl⟩⟩; refine ⟨_, rfl, ?_⟩))
          go_ret
          exact ⟨by first | rfl | (simp [errW_none, errW_some] <;> rfl) | (simp [*, errW_none, errW_some] <;> rfl), by repeat (first | (with_reducible first | exact HB.out | apply below_alloc | apply pw_below_drewN | apply below_drew1 | refine below_set ?_ GE160.out) | exact HB.out)⟩
        · rw [if_neg c7] at H
          have c7b0 : (a0_0 == 2) = false := beq_eq_false_iff_ne.mpr c7
          have c7b1 : (a0_0 != 2) = true := bne_iff_ne.mpr c7
          obtain rfl := Option.some.inj H
          go_wp2
          go_ret
          exact ⟨by first | rfl | (simp [errW_none, errW_some] <;> rfl) | (simp [*, errW_none, errW_some] <;> rfl), by repeat (first | (with_reducible first | exact HB.out | apply below_alloc | apply pw_below_drewN | apply below_drew1 | refine below_set ?_ GE160.out) | exact HB.out)⟩

end Go.Proofs.Ytmacdhkfgoahcaa.Q

/- Contract, walked by hand: one step backwards (deadstore's next.step). For every state, every operation. -/
set_option linter.unusedVariables false
set_option linter.unusedSimpArgs false
namespace Go.Proofs.Ytmacdhkfgoahcaa.De
open Go Go.RowKit Go.Maps Go.Proofs.Ytmacdhkfgoahcaa.Q Go.Proofs.Ytmacdhkfgoahcaa.Fo Go.Proofs.YtmacdhkfgoahcaaW.PrintWords Go.Proofs.YtmacdhkfgoahcaaW.PrintLast Go.Proofs.YtmacdhkfgoahcaaW.PrintMore
abbrev Sn := Int → Bool
/-- The datum reads as this set. -/
def TellsS (D : DataW Unit) (s : Sn) : Prop := ∀ a, wf a → ∀ z, D.atKey (.int .i64 a) z = if s a = true then .lit (.bool true) else z
def MapS (w : World) (b cnt : Nat) (s : Sn) : Prop := ∃ D : DataW Unit, w.ownsMap Try.prog 3 (plainElem Try.prog 4) b cnt D ∧ TellsS D s
theorem zero4 (w : World) : (zeroValue 4).run Try.prog w = .ok (.bool false) w := by kernel_rfl
theorem MapS.made (w : World) : MapS (w.alloc (.map #[] 0)) w.heap.size 0 (fun _ => false) := ⟨_, World.ownsMap_made w Try.prog 3 _, fun a _ z => rfl⟩
theorem MapS.mono {w : World} {b cnt cnt' : Nat} {s : Sn} (h : MapS w b cnt s) (hc : cnt ≤ cnt') : MapS w b cnt' s := by
  obtain ⟨D, hD, hT⟩ := h
  exact ⟨D, hD.mono hc, hT⟩
theorem MapS.lt {w : World} {b cnt : Nat} {s : Sn} (h : MapS w b cnt s) : b < w.heap.size := by
  obtain ⟨D, hD, _⟩ := h
  exact hD.lt
theorem MapS.keep {w w' : World} {b cnt : Nat} {s : Sn} (h : MapS w b cnt s) (hb : w'.heap[b]? = w.heap[b]?) : MapS w' b cnt s := by
  obtain ⟨D, ⟨es, clock, h1, h2⟩, hT⟩ := h
  exact ⟨D, ⟨es, clock, hb.trans h1, h2⟩, hT⟩
theorem MapS.not_cells {w : World} {b cnt : Nat} {s : Sn} (h : MapS w b cnt s) {g : Nat} {cs : Array Value} {t : TypeId} (hg : w.heap[g]? = some (.cells cs t (0, 0))) : b ≠ g := by
  rintro rfl
  obtain ⟨D, ⟨es, clock, h1, h2⟩, hT⟩ := h
  rw [h1] at hg; cases hg
def add (s : Sn) (a : Int) : Sn := fun x => if x = a then true else s x
theorem TellsS.put {D : DataW Unit} {s : Sn} (h : TellsS D s) (hD : IsMap D) (a : Int) : TellsS (D.put (.int .i64 a) (.lit (.bool true))) (add s a) := fun x hx z => by
  unfold add
  by_cases e : x = a
  · subst e; rw [if_pos rfl, atKey_put_same hD (by trivial)]; rfl
  · rw [if_neg e, atKey_put_other (fun hh => e (by injection hh))]; exact h x hx z
theorem run_lookS {w : World} {b cnt : Nat} {s : Sn} (h : MapS w b cnt s) (a : Int) (ha : wf a) : (Instr.lookup 55 (.map (some b)) (.int .i64 a) false).run Try.prog w = .ok (.bool (s a)) w := by
  obtain ⟨D, hD, hT⟩ := h
  obtain ⟨v, ps, hrun, hR⟩ := hD.lookup law3 Try.underlying55 (zero4 w) (plainElem_bool Try.underlying4 false) (key3 ha)
  rw [hT a ha] at hR
  obtain ⟨c, rfl⟩ : ∃ c, v = .bool c := by
    cases v <;> simp [plainElem] at hR <;> exact ⟨_, rfl⟩
  rw [plainElem_bool Try.underlying4 c] at hR
  rw [hrun]
  cases e : s a with
  | true => rw [e, if_pos rfl] at hR; simp at hR; rw [hR.1]
  | false => rw [e, if_neg (by simp)] at hR; simp at hR; rw [hR.1]
theorem run_nilS (w : World) (a : Int) (ha : wf a) : (Instr.lookup 55 (.map none) (.int .i64 a) false).run Try.prog w = .ok (.bool false) w := Maps.look_nil false law3 Try.underlying55 (zero4 w) (key3 ha)
/-- The state 'next': at block g. -/
structure IsNext (w : World) (g cnt : Nat) (a imm : Int) (is : Bool) (mb : Option Nat) (s : Sn) : Prop where
  ex : ∃ k0 k1 k3 v5, w.heap[g]? = some (.cells #[.int .i64 k0, .int .i64 k1, .int .i64 a, .int .i64 k3, .int .i64 imm, v5, .bool is, .map mb] 57 (0, 0))
  no : mb = none → s = fun _ => false
  yes : ∀ b, mb = some b → MapS w b cnt s
theorem IsNext.look {w W : World} {g cnt : Nat} {a imm : Int} {is : Bool} {mb : Option Nat} {s : Sn} (h : IsNext w g cnt a imm is mb s) (hW : Below w.heap.size w W) (x : Int) (hx : wf x) : (Instr.lookup 55 (.map mb) (.int .i64 x) false).run Try.prog W = .ok (.bool (s x)) W := by
  cases mb with
  | none => rw [h.no rfl]; exact run_nilS W x hx
  | some b => exact run_lookS ((h.yes b rfl).keep (hW.block b (h.yes b rfl).lt)) x hx
/-- What a step leaves as it lay. -/
structure Frame (w w' : World) (g : Nat) (mb : Option Nat) : Prop where
  os : w'.os = w.os
  tape : w'.tape = w.tape
  output : w'.output = w.output
  size : w.heap.size ≤ w'.heap.size
  block : ∀ k, k < w.heap.size → k ≠ g → some k ≠ mb → w'.heap[k]? = w.heap[k]?
theorem cont_some (v : Int) : ∃ r, slices_Contains_int_int.f 11 ([4, 5, 9, 10] : List Int) v = some r := by
  unfold slices_Contains_int_int.f slices_Index_int_int.f
  have w1 : wrap64 1 = 1 := by decide +kernel
  have w2 : wrap64 2 = 2 := by decide +kernel
  have w3 : wrap64 3 = 3 := by decide +kernel
  have w4 : wrap64 4 = 4 := by decide +kernel
  simp [w4, slices_Index_int_int.l0, rd, w1, w2, w3]
  repeat' split
  all_goals simp
def pureB (x : S30) : Bool := (code_Pure.f 12 x.f0 x.f1 x.f2 x.f3 x.f4 x.f5).getD false
theorem pure_some (x : S30) : code_Pure.f 12 x.f0 x.f1 x.f2 x.f3 x.f4 x.f5 = some (pureB x) := by
  have h : ∃ r, code_Pure.f 12 x.f0 x.f1 x.f2 x.f3 x.f4 x.f5 = some r := by
    unfold code_Pure.f
    have hc := cont_some x.f4
    obtain ⟨r, hr⟩ := hc
    simp only [code_Pure.j0, hr, Option.bind_some]
    repeat' split
    all_goals exact ⟨_, rfl⟩
  obtain ⟨r, hr⟩ := h
  unfold pureB
  rw [hr]; rfl
def deadB (a imm : Int) (is : Bool) (s : Sn) (x : S30) : Bool := is && (a == x.f2) && (imm == x.f4) && !(s x.f2)
theorem store_end {w W : World} {g : Nat} (n : Nat) (mb : Option Nat) (k0 k1 a k3 imm : Int) (vo : Value) (is : Bool) (mb0 : Value) (hg : W.heap[g]? = some (.cells #[.int .i64 k0, .int .i64 k1, .int .i64 a, .int .i64 k3, .int .i64 imm, vo, .bool is, mb0] 57 (0, 0))) (HB : Below w.heap.size w W) (hz : W.heap.size = w.heap.size + 1)
    (x : S30) (v0 v1 v2 v3 v4 v5 v6 v7 : Value) (q0 : v0 = .int .i64 x.f0) (q1 : v1 = .int .i64 x.f1) (q2 : v2 = .int .i64 x.f2) (q3 : v3 = .int .i64 x.f3) (q4 : v4 = .int .i64 x.f4) (q6 : v6 = .bool true) (q7 : v7 = .map (some (w.heap.size + 1))) :
    IsNext (World.alloc (((((((((W.drewN n).setCell ⟨g, 0, none⟩ v0).setCell ⟨g, 1, none⟩ v1).setCell ⟨g, 2, none⟩ v2).setCell ⟨g, 3, none⟩ v3).setCell ⟨g, 4, none⟩ v4).setCell ⟨g, 5, none⟩ v5).setCell ⟨g, 6, none⟩ v6).setCell ⟨g, 7, none⟩ v7) (.map #[] 0)) g 0 x.f2 x.f4 true (some (w.heap.size + 1)) (fun _ => false) ∧ Frame w (World.alloc (((((((((W.drewN n).setCell ⟨g, 0, none⟩ v0).setCell ⟨g, 1, none⟩ v1).setCell ⟨g, 2, none⟩ v2).setCell ⟨g, 3, none⟩ v3).setCell ⟨g, 4, none⟩ v4).setCell ⟨g, 5, none⟩ v5).setCell ⟨g, 6, none⟩ v6).setCell ⟨g, 7, none⟩ v7) (.map #[] 0)) g mb := by
  have hs : ((((((((((W.drewN n).setCell ⟨g, 0, none⟩ v0).setCell ⟨g, 1, none⟩ v1).setCell ⟨g, 2, none⟩ v2).setCell ⟨g, 3, none⟩ v3).setCell ⟨g, 4, none⟩ v4).setCell ⟨g, 5, none⟩ v5).setCell ⟨g, 6, none⟩ v6).setCell ⟨g, 7, none⟩ v7)).heap.size = w.heap.size + 1 := by simp [hz]
  have g0 : ((W.drewN n).setCell ⟨g, 0, none⟩ v0).heap[g]? = some (.cells #[v0, (.int .i64 k1), (.int .i64 a), (.int .i64 k3), (.int .i64 imm), vo, (.bool is), mb0] 57 (0, 0)) := (blk_set (w := (W.drewN n)) hg 0 v0).trans rfl
  have g1 : (((W.drewN n).setCell ⟨g, 0, none⟩ v0).setCell ⟨g, 1, none⟩ v1).heap[g]? = some (.cells #[v0, v1, (.int .i64 a), (.int .i64 k3), (.int .i64 imm), vo, (.bool is), mb0] 57 (0, 0)) := (blk_set (w := ((W.drewN n).setCell ⟨g, 0, none⟩ v0)) g0 1 v1).trans rfl
  have g2 : ((((W.drewN n).setCell ⟨g, 0, none⟩ v0).setCell ⟨g, 1, none⟩ v1).setCell ⟨g, 2, none⟩ v2).heap[g]? = some (.cells #[v0, v1, v2, (.int .i64 k3), (.int .i64 imm), vo, (.bool is), mb0] 57 (0, 0)) := (blk_set (w := (((W.drewN n).setCell ⟨g, 0, none⟩ v0).setCell ⟨g, 1, none⟩ v1)) g1 2 v2).trans rfl
  have g3 : (((((W.drewN n).setCell ⟨g, 0, none⟩ v0).setCell ⟨g, 1, none⟩ v1).setCell ⟨g, 2, none⟩ v2).setCell ⟨g, 3, none⟩ v3).heap[g]? = some (.cells #[v0, v1, v2, v3, (.int .i64 imm), vo, (.bool is), mb0] 57 (0, 0)) := (blk_set (w := ((((W.drewN n).setCell ⟨g, 0, none⟩ v0).setCell ⟨g, 1, none⟩ v1).setCell ⟨g, 2, none⟩ v2)) g2 3 v3).trans rfl
  have g4 : ((((((W.drewN n).setCell ⟨g, 0, none⟩ v0).setCell ⟨g, 1, none⟩ v1).setCell ⟨g, 2, none⟩ v2).setCell ⟨g, 3, none⟩ v3).setCell ⟨g, 4, none⟩ v4).heap[g]? = some (.cells #[v0, v1, v2, v3, v4, vo, (.bool is), mb0] 57 (0, 0)) := (blk_set (w := (((((W.drewN n).setCell ⟨g, 0, none⟩ v0).setCell ⟨g, 1, none⟩ v1).setCell ⟨g, 2, none⟩ v2).setCell ⟨g, 3, none⟩ v3)) g3 4 v4).trans rfl
  have g5 : (((((((W.drewN n).setCell ⟨g, 0, none⟩ v0).setCell ⟨g, 1, none⟩ v1).setCell ⟨g, 2, none⟩ v2).setCell ⟨g, 3, none⟩ v3).setCell ⟨g, 4, none⟩ v4).setCell ⟨g, 5, none⟩ v5).heap[g]? = some (.cells #[v0, v1, v2, v3, v4, v5, (.bool is), mb0] 57 (0, 0)) := (blk_set (w := ((((((W.drewN n).setCell ⟨g, 0, none⟩ v0).setCell ⟨g, 1, none⟩ v1).setCell ⟨g, 2, none⟩ v2).setCell ⟨g, 3, none⟩ v3).setCell ⟨g, 4, none⟩ v4)) g4 5 v5).trans rfl
  have g6 : ((((((((W.drewN n).setCell ⟨g, 0, none⟩ v0).setCell ⟨g, 1, none⟩ v1).setCell ⟨g, 2, none⟩ v2).setCell ⟨g, 3, none⟩ v3).setCell ⟨g, 4, none⟩ v4).setCell ⟨g, 5, none⟩ v5).setCell ⟨g, 6, none⟩ v6).heap[g]? = some (.cells #[v0, v1, v2, v3, v4, v5, v6, mb0] 57 (0, 0)) := (blk_set (w := (((((((W.drewN n).setCell ⟨g, 0, none⟩ v0).setCell ⟨g, 1, none⟩ v1).setCell ⟨g, 2, none⟩ v2).setCell ⟨g, 3, none⟩ v3).setCell ⟨g, 4, none⟩ v4).setCell ⟨g, 5, none⟩ v5)) g5 6 v6).trans rfl
  have g7 : (((((((((W.drewN n).setCell ⟨g, 0, none⟩ v0).setCell ⟨g, 1, none⟩ v1).setCell ⟨g, 2, none⟩ v2).setCell ⟨g, 3, none⟩ v3).setCell ⟨g, 4, none⟩ v4).setCell ⟨g, 5, none⟩ v5).setCell ⟨g, 6, none⟩ v6).setCell ⟨g, 7, none⟩ v7).heap[g]? = some (.cells #[v0, v1, v2, v3, v4, v5, v6, v7] 57 (0, 0)) := (blk_set (w := ((((((((W.drewN n).setCell ⟨g, 0, none⟩ v0).setCell ⟨g, 1, none⟩ v1).setCell ⟨g, 2, none⟩ v2).setCell ⟨g, 3, none⟩ v3).setCell ⟨g, 4, none⟩ v4).setCell ⟨g, 5, none⟩ v5).setCell ⟨g, 6, none⟩ v6)) g6 7 v7).trans rfl
  have h8 := g7
  clear g0 g1 g2 g3 g4 g5 g6 g7
  have hk : ∀ k, k ≠ g → ((((((((((W.drewN n).setCell ⟨g, 0, none⟩ v0).setCell ⟨g, 1, none⟩ v1).setCell ⟨g, 2, none⟩ v2).setCell ⟨g, 3, none⟩ v3).setCell ⟨g, 4, none⟩ v4).setCell ⟨g, 5, none⟩ v5).setCell ⟨g, 6, none⟩ v6).setCell ⟨g, 7, none⟩ v7)).heap[k]? = W.heap[k]? := fun k hne => (Below.heap_setCell ((((((((W.drewN n).setCell ⟨g, 0, none⟩ v0).setCell ⟨g, 1, none⟩ v1).setCell ⟨g, 2, none⟩ v2).setCell ⟨g, 3, none⟩ v3).setCell ⟨g, 4, none⟩ v4).setCell ⟨g, 5, none⟩ v5).setCell ⟨g, 6, none⟩ v6) ⟨g, 7, none⟩ v7 k hne).trans ((Below.heap_setCell (((((((W.drewN n).setCell ⟨g, 0, none⟩ v0).setCell ⟨g, 1, none⟩ v1).setCell ⟨g, 2, none⟩ v2).setCell ⟨g, 3, none⟩ v3).setCell ⟨g, 4, none⟩ v4).setCell ⟨g, 5, none⟩ v5) ⟨g, 6, none⟩ v6 k hne).trans ((Below.heap_setCell ((((((W.drewN n).setCell ⟨g, 0, none⟩ v0).setCell ⟨g, 1, none⟩ v1).setCell ⟨g, 2, none⟩ v2).setCell ⟨g, 3, none⟩ v3).setCell ⟨g, 4, none⟩ v4) ⟨g, 5, none⟩ v5 k hne).trans ((Below.heap_setCell (((((W.drewN n).setCell ⟨g, 0, none⟩ v0).setCell ⟨g, 1, none⟩ v1).setCell ⟨g, 2, none⟩ v2).setCell ⟨g, 3, none⟩ v3) ⟨g, 4, none⟩ v4 k hne).trans ((Below.heap_setCell ((((W.drewN n).setCell ⟨g, 0, none⟩ v0).setCell ⟨g, 1, none⟩ v1).setCell ⟨g, 2, none⟩ v2) ⟨g, 3, none⟩ v3 k hne).trans ((Below.heap_setCell (((W.drewN n).setCell ⟨g, 0, none⟩ v0).setCell ⟨g, 1, none⟩ v1) ⟨g, 2, none⟩ v2 k hne).trans ((Below.heap_setCell ((W.drewN n).setCell ⟨g, 0, none⟩ v0) ⟨g, 1, none⟩ v1 k hne).trans (Below.heap_setCell (W.drewN n) ⟨g, 0, none⟩ v0 k hne)))))))
  have hm := MapS.made (((((((((W.drewN n).setCell ⟨g, 0, none⟩ v0).setCell ⟨g, 1, none⟩ v1).setCell ⟨g, 2, none⟩ v2).setCell ⟨g, 3, none⟩ v3).setCell ⟨g, 4, none⟩ v4).setCell ⟨g, 5, none⟩ v5).setCell ⟨g, 6, none⟩ v6).setCell ⟨g, 7, none⟩ v7)
  rw [hs] at hm
  have hb0 := (((((((((below_un (n := n) (HB.mono (Nat.zero_le _)) : Below 0 w (W.drewN n)).setCell (p := ⟨g, 0, none⟩) (Nat.zero_le _) v0).setCell (p := ⟨g, 1, none⟩) (Nat.zero_le _) v1).setCell (p := ⟨g, 2, none⟩) (Nat.zero_le _) v2).setCell (p := ⟨g, 3, none⟩) (Nat.zero_le _) v3).setCell (p := ⟨g, 4, none⟩) (Nat.zero_le _) v4).setCell (p := ⟨g, 5, none⟩) (Nat.zero_le _) v5).setCell (p := ⟨g, 6, none⟩) (Nat.zero_le _) v6).setCell (p := ⟨g, 7, none⟩) (Nat.zero_le _) v7).alloc (Nat.zero_le _) (.map #[] 0)
  generalize hW8 : (((((((((W.drewN n).setCell ⟨g, 0, none⟩ v0).setCell ⟨g, 1, none⟩ v1).setCell ⟨g, 2, none⟩ v2).setCell ⟨g, 3, none⟩ v3).setCell ⟨g, 4, none⟩ v4).setCell ⟨g, 5, none⟩ v5).setCell ⟨g, 6, none⟩ v6).setCell ⟨g, 7, none⟩ v7) = W8 at *
  subst q0 q1 q2 q3 q4 q6 q7
  refine ⟨⟨⟨_, _, _, _, blk_alloc h8 _⟩, fun h => by (cases h), fun b hb => by (injection hb with hb; rw [← hb]; exact hm)⟩, ⟨?_, ?_, ?_, ?_, fun k hkl h1 _ => ?_⟩⟩
  · exact hb0.os
  · exact hb0.tape
  · exact hb0.output
  · rw [World.size_alloc, hs]; omega
  · exact (Below.heap_alloc W8 _ k (by rw [hs]; omega)).trans ((hk k h1).trans (HB.block k hkl))

theorem not_end {w w1 : World} {g cnt : Nat} {a imm : Int} {is : Bool} {mb : Option Nat} {s : Sn} (hn : IsNext w g cnt a imm is mb s) (HB : Below w.heap.size w w1) : IsNext (w1.setCell ⟨g, 6, none⟩ (.bool false)) g cnt a imm false mb s ∧ Frame w (w1.setCell ⟨g, 6, none⟩ (.bool false)) g mb := by
  obtain ⟨k0, k1, k3, v5, hg⟩ := hn.ex
  have hg1 := (HB.block g (blk_lt hg)).trans hg
  have hb0 := (HB.mono (Nat.zero_le _)).setCell (p := ⟨g, 6, none⟩) (Nat.zero_le _) (.bool false)
  have hk : ∀ k, k < w.heap.size → k ≠ g → (w1.setCell ⟨g, 6, none⟩ (.bool false)).heap[k]? = w.heap[k]? := fun k hk hne => (Below.heap_setCell w1 ⟨g, 6, none⟩ _ k hne).trans (HB.block k hk)
  exact ⟨⟨⟨k0, k1, k3, v5, (blk_set hg1 6 (.bool false)).trans rfl⟩, hn.no, fun b hb => (hn.yes b hb).keep (hk b (hn.yes b hb).lt ((hn.yes b hb).not_cells hg))⟩, ⟨hb0.os, hb0.tape, hb0.output, hb0.size, fun k h1 h2 _ => hk k h1 h2⟩⟩
theorem ints_nil {w1 : World} {g : Nat} {v0 v1 v2 v3 v4 v5 v6 : Value} {t : TypeId} (hg : w1.heap[g]? = some (.cells #[v0, v1, v2, v3, v4, v5, v6, .map none] t (0, 0))) {A : Option Addr} {n : Nat} {xs : List Int} (h : Kd.C (Kd.int .i64) w1 A n xs) {u : Value} {o : Obj} : Kd.C (Kd.int .i64) ((w1.setCell ⟨g, 7, none⟩ u).alloc o) A n xs := by
  refine Kd.C_below (w := w1.setCell ⟨g, 7, none⟩ u) ⟨h.1, h.2.1, fun hn => ?_⟩ ((Below.refl _ _).alloc (Nat.le_refl _) o)
  obtain ⟨ad, e, hc⟩ := h.2.2 hn
  refine ⟨ad, e, fun j p hj => ?_⟩
  obtain ⟨c, hs, hr, hcell⟩ := hc j p hj
  refine ⟨c, hs, hr, fun i v hv => ?_⟩
  have hc1 : c = [.int .i64 p] := hr
  have h1 := hcell i v hv
  have hvi : v = .int .i64 p := by
    rw [hc1] at hv
    have := List.mem_of_getElem? hv
    simpa using this
  refine (World.cell?_setCell_other _ _ _ _ (fun e => ?_)).trans h1
  have h7 : w1.cell? ⟨g, 7, none⟩ = some (.map none) := (blk_cell hg 7).trans rfl
  rw [e, h1, hvi] at h7
  cases h7
theorem nil_made {w w1 : World} {g cnt : Nat} {a imm : Int} {is : Bool} {s : Sn} (hn : IsNext w g cnt a imm is none s) (HB : Below w.heap.size w w1) :
    IsNext ((w1.setCell ⟨g, 7, none⟩ (.map (some w1.heap.size))).alloc (.map #[] 0)) g 0 a imm is (some w1.heap.size) s ∧ Frame w ((w1.setCell ⟨g, 7, none⟩ (.map (some w1.heap.size))).alloc (.map #[] 0)) g none ∧ ((w1.setCell ⟨g, 7, none⟩ (.map (some w1.heap.size))).alloc (.map #[] 0)).heap.size = w1.heap.size + 1 ∧
      ∀ k, k < w1.heap.size → k ≠ g → ((w1.setCell ⟨g, 7, none⟩ (.map (some w1.heap.size))).alloc (.map #[] 0)).heap[k]? = w1.heap[k]? := by
  obtain ⟨k0, k1, k3, v5, hg⟩ := hn.ex
  have hg1 := (HB.block g (blk_lt hg)).trans hg
  have hs : (w1.setCell ⟨g, 7, none⟩ (.map (some w1.heap.size))).heap.size = w1.heap.size := by simp
  have hb0 := ((HB.mono (Nat.zero_le _)).setCell (p := ⟨g, 7, none⟩) (Nat.zero_le _) (.map (some w1.heap.size))).alloc (Nat.zero_le _) (.map #[] 0)
  have hkk : ∀ k, k < w1.heap.size → k ≠ g → ((w1.setCell ⟨g, 7, none⟩ (.map (some w1.heap.size))).alloc (.map #[] 0)).heap[k]? = w1.heap[k]? := fun k hk hne => (Below.heap_alloc _ _ k (by rw [hs]; exact hk)).trans (Below.heap_setCell w1 ⟨g, 7, none⟩ _ k hne)
  have hm := MapS.made (w1.setCell ⟨g, 7, none⟩ (.map (some w1.heap.size)))
  rw [hs] at hm
  refine ⟨⟨⟨k0, k1, k3, v5, blk_alloc ((blk_set hg1 7 (.map (some w1.heap.size))).trans rfl) _⟩, fun h => by (cases h), fun b hb => by (injection hb with hb; subst hb; rw [hn.no rfl]; exact hm)⟩, ⟨hb0.os, hb0.tape, hb0.output, hb0.size, fun k h1 h2 _ => (hkk k (Nat.lt_of_lt_of_le h1 HB.size) h2).trans (HB.block k h1)⟩, by rw [World.size_alloc, hs], hkk⟩
theorem frame_nil {w W2 w9 : World} {g b : Nat} (h : Frame w W2 g none) (k : Frame W2 w9 g (some b)) (hb : w.heap.size ≤ b) : Frame w w9 g none :=
  ⟨k.os.trans h.os, k.tape.trans h.tape, k.output.trans h.output, Nat.le_trans h.size k.size, fun i h1 h2 h3 => (k.block i (Nat.lt_of_lt_of_le h1 h.size) h2 (fun e => by (injection e with e; omega))).trans (h.block i h1 h2 h3)⟩
theorem owns_keep {w w' : World} {b cnt : Nat} {D : DataW Unit} (h : w.ownsMap Try.prog 3 (plainElem Try.prog 4) b cnt D) (hb : w'.heap[b]? = w.heap[b]?) : w'.ownsMap Try.prog 3 (plainElem Try.prog 4) b cnt D := by
  obtain ⟨es, clock, h1, h2⟩ := h
  exact ⟨es, clock, hb.trans h1, h2⟩
theorem pure_end {w w2 w9 : World} {g cnt b : Nat} {a imm v : Int} {is : Bool} {s : Sn} {D : DataW Unit} (hn : IsNext w g cnt a imm is (some b) s) (HB : Below w.heap.size w w2) (hD0 : w.ownsMap Try.prog 3 (plainElem Try.prog 4) b cnt D) (hT : TellsS D s)
    (hown : w9.ownsMap Try.prog 3 (plainElem Try.prog 4) b (cnt + 1) (D.put (.int .i64 v) (.lit (.bool true)))) (hgrow : w2.grownBy w9 (some b)) : IsNext w9 g (cnt + 1) a imm is (some b) (add s v) ∧ Frame w w9 g (some b) := by
  obtain ⟨k0, k1, k3, v5, hg⟩ := hn.ex
  have hbg : b ≠ g := (hn.yes b rfl).not_cells hg
  have hg2 := (HB.block g (blk_lt hg)).trans hg
  have hg9 := (hgrow.block g (blk_lt hg2) (fun e => hbg (by injection e with e; exact e.symm))).trans hg2
  refine ⟨⟨⟨k0, k1, k3, v5, hg9⟩, fun h => by (cases h), fun b' hb' => by (injection hb' with hb'; subst hb'; exact ⟨_, hown, hT.put hD0.isMap v⟩)⟩, ⟨hgrow.os.trans HB.os, hgrow.tape.trans HB.tape, hgrow.output.trans HB.output, Nat.le_trans HB.size hgrow.size, fun k h1 _ h3 => (hgrow.block k (Nat.lt_of_lt_of_le h1 HB.size) h3).trans (HB.block k h1)⟩⟩
set_option maxHeartbeats 8000000 in
set_option maxRecDepth 100000 in
theorem stepS1 (g cnt : Nat) (a imm : Int) (is : Bool) (mb : Option Nat) (s : Sn) (x : S30) (A : Option Addr) (c : Nat) (h2 : wf x.f2) (w : World) (hn : IsNext w g cnt a imm is mb s) (h5 : (x.f0 == 5) = true) (his : is = false) :
    Calls Try.prog 35 #[.pointer (some ⟨g, 0, none⟩), opV x (.slice A x.f5.length c)] w fun e w' => e = .returned (.bool false) ∧ IsNext w' g 0 x.f2 x.f4 true (some (w.heap.size + 1)) (fun _ => false) ∧ Frame w w' g mb := by
  have hmm := @run_makeMap Try.prog
  obtain ⟨k0, k1, k3, v5, hg0⟩ := hn.ex
  have gl : g < w.heap.size := blk_lt hg0
  unfold opV
  go_enter Try.func35, Try.ntmps35
  obtain ⟨o, ho⟩ : ∃ o : Obj, o = .cells #[.int .i64 x.f0, .int .i64 x.f1, .int .i64 x.f2, .int .i64 x.f3, .int .i64 x.f4, .slice A x.f5.length c] 30 := ⟨_, rfl⟩
  have HB : Aside0 (Below w.heap.size w (w.alloc o)) := Aside0.mk ((Below.refl _ _).alloc (Nat.le_refl _) o)
  have hx : (w.alloc o).heap[w.heap.size]? = some o := blk_new w o
  have hg := blk_alloc hg0 o
  have hz : (w.alloc o).heap.size = w.heap.size + 1 := World.size_alloc _ _
  have hlk : ∀ n, (Instr.lookup 55 (.map mb) (.int .i64 x.f2) false).run Try.prog ((w.alloc o).drewN n) = .ok (.bool (s x.f2)) ((w.alloc o).drewN n) := fun n => hn.look (W := (w.alloc o).drewN n) (below_un HB.out) _ h2
  go_wp2
  rw [← ho]
  clear hn
  generalize w.alloc o = W at *
  subst ho
  have x0 : W.cell? ⟨w.heap.size, 0, none⟩ = some (.int .i64 x.f0) := (blk_cell hx 0).trans rfl
  have x1 : W.cell? ⟨w.heap.size, 1, none⟩ = some (.int .i64 x.f1) := (blk_cell hx 1).trans rfl
  have x2 : W.cell? ⟨w.heap.size, 2, none⟩ = some (.int .i64 x.f2) := (blk_cell hx 2).trans rfl
  have x3 : W.cell? ⟨w.heap.size, 3, none⟩ = some (.int .i64 x.f3) := (blk_cell hx 3).trans rfl
  have x4 : W.cell? ⟨w.heap.size, 4, none⟩ = some (.int .i64 x.f4) := (blk_cell hx 4).trans rfl
  have x5 : W.cell? ⟨w.heap.size, 5, none⟩ = some (.slice A x.f5.length c) := (blk_cell hx 5).trans rfl
  have y0 : W.cell? ⟨g, 0, none⟩ = some (.int .i64 k0) := (blk_cell hg 0).trans rfl
  have y1 : W.cell? ⟨g, 1, none⟩ = some (.int .i64 k1) := (blk_cell hg 1).trans rfl
  have y2 : W.cell? ⟨g, 2, none⟩ = some (.int .i64 a) := (blk_cell hg 2).trans rfl
  have y3 : W.cell? ⟨g, 3, none⟩ = some (.int .i64 k3) := (blk_cell hg 3).trans rfl
  have y4 : W.cell? ⟨g, 4, none⟩ = some (.int .i64 imm) := (blk_cell hg 4).trans rfl
  have y5 : W.cell? ⟨g, 5, none⟩ = some v5 := (blk_cell hg 5).trans rfl
  have y6 : W.cell? ⟨g, 6, none⟩ = some (.bool is) := (blk_cell hg 6).trans rfl
  have y7 : W.cell? ⟨g, 7, none⟩ = some (.map mb) := (blk_cell hg 7).trans rfl
  have e0 : W.frozen? ⟨g, 0, none⟩ = false := blk_frozen hg 0
  have e1 : W.frozen? ⟨g, 1, none⟩ = false := blk_frozen hg 1
  have e2 : W.frozen? ⟨g, 2, none⟩ = false := blk_frozen hg 2
  have e3 : W.frozen? ⟨g, 3, none⟩ = false := blk_frozen hg 3
  have e4 : W.frozen? ⟨g, 4, none⟩ = false := blk_frozen hg 4
  have e5 : W.frozen? ⟨g, 5, none⟩ = false := blk_frozen hg 5
  have e6 : W.frozen? ⟨g, 6, none⟩ = false := blk_frozen hg 6
  have e7 : W.frozen? ⟨g, 7, none⟩ = false := blk_frozen hg 7
  replace hx := Aside0.mk hx
  replace hg := Aside0.mk hg
  subst his
  go_quiet (fail)
  clear hlk
  go_wp2
  refine bodyPost_ret (v := .bool false) (by simp [results, Try.results35, go_sem]) rfl ⟨rfl, ?_⟩
  exact store_end nq mb _ _ _ _ _ _ _ _ hg.out HB.out hz x _ _ _ _ _ _ _ _ rfl rfl rfl rfl rfl rfl rfl
set_option maxHeartbeats 8000000 in
set_option maxRecDepth 100000 in
theorem stepS2 (g cnt : Nat) (a imm : Int) (is : Bool) (mb : Option Nat) (s : Sn) (x : S30) (A : Option Addr) (c : Nat) (h2 : wf x.f2) (w : World) (hn : IsNext w g cnt a imm is mb s) (h5 : (x.f0 == 5) = true) (his : is = true) (ha : (a == x.f2) = false) :
    Calls Try.prog 35 #[.pointer (some ⟨g, 0, none⟩), opV x (.slice A x.f5.length c)] w fun e w' => e = .returned (.bool false) ∧ IsNext w' g 0 x.f2 x.f4 true (some (w.heap.size + 1)) (fun _ => false) ∧ Frame w w' g mb := by
  have hmm := @run_makeMap Try.prog
  obtain ⟨k0, k1, k3, v5, hg0⟩ := hn.ex
  have gl : g < w.heap.size := blk_lt hg0
  unfold opV
  go_enter Try.func35, Try.ntmps35
  obtain ⟨o, ho⟩ : ∃ o : Obj, o = .cells #[.int .i64 x.f0, .int .i64 x.f1, .int .i64 x.f2, .int .i64 x.f3, .int .i64 x.f4, .slice A x.f5.length c] 30 := ⟨_, rfl⟩
  have HB : Aside0 (Below w.heap.size w (w.alloc o)) := Aside0.mk ((Below.refl _ _).alloc (Nat.le_refl _) o)
  have hx : (w.alloc o).heap[w.heap.size]? = some o := blk_new w o
  have hg := blk_alloc hg0 o
  have hz : (w.alloc o).heap.size = w.heap.size + 1 := World.size_alloc _ _
  have hlk : ∀ n, (Instr.lookup 55 (.map mb) (.int .i64 x.f2) false).run Try.prog ((w.alloc o).drewN n) = .ok (.bool (s x.f2)) ((w.alloc o).drewN n) := fun n => hn.look (W := (w.alloc o).drewN n) (below_un HB.out) _ h2
  go_wp2
  rw [← ho]
  clear hn
  generalize w.alloc o = W at *
  subst ho
  have x0 : W.cell? ⟨w.heap.size, 0, none⟩ = some (.int .i64 x.f0) := (blk_cell hx 0).trans rfl
  have x1 : W.cell? ⟨w.heap.size, 1, none⟩ = some (.int .i64 x.f1) := (blk_cell hx 1).trans rfl
  have x2 : W.cell? ⟨w.heap.size, 2, none⟩ = some (.int .i64 x.f2) := (blk_cell hx 2).trans rfl
  have x3 : W.cell? ⟨w.heap.size, 3, none⟩ = some (.int .i64 x.f3) := (blk_cell hx 3).trans rfl
  have x4 : W.cell? ⟨w.heap.size, 4, none⟩ = some (.int .i64 x.f4) := (blk_cell hx 4).trans rfl
  have x5 : W.cell? ⟨w.heap.size, 5, none⟩ = some (.slice A x.f5.length c) := (blk_cell hx 5).trans rfl
  have y0 : W.cell? ⟨g, 0, none⟩ = some (.int .i64 k0) := (blk_cell hg 0).trans rfl
  have y1 : W.cell? ⟨g, 1, none⟩ = some (.int .i64 k1) := (blk_cell hg 1).trans rfl
  have y2 : W.cell? ⟨g, 2, none⟩ = some (.int .i64 a) := (blk_cell hg 2).trans rfl
  have y3 : W.cell? ⟨g, 3, none⟩ = some (.int .i64 k3) := (blk_cell hg 3).trans rfl
  have y4 : W.cell? ⟨g, 4, none⟩ = some (.int .i64 imm) := (blk_cell hg 4).trans rfl
  have y5 : W.cell? ⟨g, 5, none⟩ = some v5 := (blk_cell hg 5).trans rfl
  have y6 : W.cell? ⟨g, 6, none⟩ = some (.bool is) := (blk_cell hg 6).trans rfl
  have y7 : W.cell? ⟨g, 7, none⟩ = some (.map mb) := (blk_cell hg 7).trans rfl
  have e0 : W.frozen? ⟨g, 0, none⟩ = false := blk_frozen hg 0
  have e1 : W.frozen? ⟨g, 1, none⟩ = false := blk_frozen hg 1
  have e2 : W.frozen? ⟨g, 2, none⟩ = false := blk_frozen hg 2
  have e3 : W.frozen? ⟨g, 3, none⟩ = false := blk_frozen hg 3
  have e4 : W.frozen? ⟨g, 4, none⟩ = false := blk_frozen hg 4
  have e5 : W.frozen? ⟨g, 5, none⟩ = false := blk_frozen hg 5
  have e6 : W.frozen? ⟨g, 6, none⟩ = false := blk_frozen hg 6
  have e7 : W.frozen? ⟨g, 7, none⟩ = false := blk_frozen hg 7
  replace hx := Aside0.mk hx
  replace hg := Aside0.mk hg
  subst his
  go_quiet (fail)
  clear hlk
  go_wp2
  refine bodyPost_ret (v := .bool false) (by simp [results, Try.results35, go_sem]) rfl ⟨rfl, ?_⟩
  exact store_end nq mb _ _ _ _ _ _ _ _ hg.out HB.out hz x _ _ _ _ _ _ _ _ rfl rfl rfl rfl rfl rfl rfl
set_option maxHeartbeats 8000000 in
set_option maxRecDepth 100000 in
theorem stepS3 (g cnt : Nat) (a imm : Int) (is : Bool) (mb : Option Nat) (s : Sn) (x : S30) (A : Option Addr) (c : Nat) (h2 : wf x.f2) (w : World) (hn : IsNext w g cnt a imm is mb s) (h5 : (x.f0 == 5) = true) (his : is = true) (ha : (a == x.f2) = true) (hi : (imm == x.f4) = false) :
    Calls Try.prog 35 #[.pointer (some ⟨g, 0, none⟩), opV x (.slice A x.f5.length c)] w fun e w' => e = .returned (.bool false) ∧ IsNext w' g 0 x.f2 x.f4 true (some (w.heap.size + 1)) (fun _ => false) ∧ Frame w w' g mb := by
  have hmm := @run_makeMap Try.prog
  obtain ⟨k0, k1, k3, v5, hg0⟩ := hn.ex
  have gl : g < w.heap.size := blk_lt hg0
  unfold opV
  go_enter Try.func35, Try.ntmps35
  obtain ⟨o, ho⟩ : ∃ o : Obj, o = .cells #[.int .i64 x.f0, .int .i64 x.f1, .int .i64 x.f2, .int .i64 x.f3, .int .i64 x.f4, .slice A x.f5.length c] 30 := ⟨_, rfl⟩
  have HB : Aside0 (Below w.heap.size w (w.alloc o)) := Aside0.mk ((Below.refl _ _).alloc (Nat.le_refl _) o)
  have hx : (w.alloc o).heap[w.heap.size]? = some o := blk_new w o
  have hg := blk_alloc hg0 o
  have hz : (w.alloc o).heap.size = w.heap.size + 1 := World.size_alloc _ _
  have hlk : ∀ n, (Instr.lookup 55 (.map mb) (.int .i64 x.f2) false).run Try.prog ((w.alloc o).drewN n) = .ok (.bool (s x.f2)) ((w.alloc o).drewN n) := fun n => hn.look (W := (w.alloc o).drewN n) (below_un HB.out) _ h2
  go_wp2
  rw [← ho]
  clear hn
  generalize w.alloc o = W at *
  subst ho
  have x0 : W.cell? ⟨w.heap.size, 0, none⟩ = some (.int .i64 x.f0) := (blk_cell hx 0).trans rfl
  have x1 : W.cell? ⟨w.heap.size, 1, none⟩ = some (.int .i64 x.f1) := (blk_cell hx 1).trans rfl
  have x2 : W.cell? ⟨w.heap.size, 2, none⟩ = some (.int .i64 x.f2) := (blk_cell hx 2).trans rfl
  have x3 : W.cell? ⟨w.heap.size, 3, none⟩ = some (.int .i64 x.f3) := (blk_cell hx 3).trans rfl
  have x4 : W.cell? ⟨w.heap.size, 4, none⟩ = some (.int .i64 x.f4) := (blk_cell hx 4).trans rfl
  have x5 : W.cell? ⟨w.heap.size, 5, none⟩ = some (.slice A x.f5.length c) := (blk_cell hx 5).trans rfl
  have y0 : W.cell? ⟨g, 0, none⟩ = some (.int .i64 k0) := (blk_cell hg 0).trans rfl
  have y1 : W.cell? ⟨g, 1, none⟩ = some (.int .i64 k1) := (blk_cell hg 1).trans rfl
  have y2 : W.cell? ⟨g, 2, none⟩ = some (.int .i64 a) := (blk_cell hg 2).trans rfl
  have y3 : W.cell? ⟨g, 3, none⟩ = some (.int .i64 k3) := (blk_cell hg 3).trans rfl
  have y4 : W.cell? ⟨g, 4, none⟩ = some (.int .i64 imm) := (blk_cell hg 4).trans rfl
  have y5 : W.cell? ⟨g, 5, none⟩ = some v5 := (blk_cell hg 5).trans rfl
  have y6 : W.cell? ⟨g, 6, none⟩ = some (.bool is) := (blk_cell hg 6).trans rfl
  have y7 : W.cell? ⟨g, 7, none⟩ = some (.map mb) := (blk_cell hg 7).trans rfl
  have e0 : W.frozen? ⟨g, 0, none⟩ = false := blk_frozen hg 0
  have e1 : W.frozen? ⟨g, 1, none⟩ = false := blk_frozen hg 1
  have e2 : W.frozen? ⟨g, 2, none⟩ = false := blk_frozen hg 2
  have e3 : W.frozen? ⟨g, 3, none⟩ = false := blk_frozen hg 3
  have e4 : W.frozen? ⟨g, 4, none⟩ = false := blk_frozen hg 4
  have e5 : W.frozen? ⟨g, 5, none⟩ = false := blk_frozen hg 5
  have e6 : W.frozen? ⟨g, 6, none⟩ = false := blk_frozen hg 6
  have e7 : W.frozen? ⟨g, 7, none⟩ = false := blk_frozen hg 7
  replace hx := Aside0.mk hx
  replace hg := Aside0.mk hg
  subst his
  go_quiet (fail)
  clear hlk
  go_wp2
  refine bodyPost_ret (v := .bool false) (by simp [results, Try.results35, go_sem]) rfl ⟨rfl, ?_⟩
  exact store_end nq mb _ _ _ _ _ _ _ _ hg.out HB.out hz x _ _ _ _ _ _ _ _ rfl rfl rfl rfl rfl rfl rfl
set_option maxHeartbeats 8000000 in
set_option maxRecDepth 100000 in
theorem stepS4 (g cnt : Nat) (a imm : Int) (is : Bool) (mb : Option Nat) (s : Sn) (x : S30) (A : Option Addr) (c : Nat) (h2 : wf x.f2) (w : World) (hn : IsNext w g cnt a imm is mb s) (h5 : (x.f0 == 5) = true) (his : is = true) (ha : (a == x.f2) = true) (hi : (imm == x.f4) = true) (hs : s x.f2 = true) :
    Calls Try.prog 35 #[.pointer (some ⟨g, 0, none⟩), opV x (.slice A x.f5.length c)] w fun e w' => e = .returned (.bool false) ∧ IsNext w' g 0 x.f2 x.f4 true (some (w.heap.size + 1)) (fun _ => false) ∧ Frame w w' g mb := by
  have hmm := @run_makeMap Try.prog
  obtain ⟨k0, k1, k3, v5, hg0⟩ := hn.ex
  have gl : g < w.heap.size := blk_lt hg0
  unfold opV
  go_enter Try.func35, Try.ntmps35
  obtain ⟨o, ho⟩ : ∃ o : Obj, o = .cells #[.int .i64 x.f0, .int .i64 x.f1, .int .i64 x.f2, .int .i64 x.f3, .int .i64 x.f4, .slice A x.f5.length c] 30 := ⟨_, rfl⟩
  have HB : Aside0 (Below w.heap.size w (w.alloc o)) := Aside0.mk ((Below.refl _ _).alloc (Nat.le_refl _) o)
  have hx : (w.alloc o).heap[w.heap.size]? = some o := blk_new w o
  have hg := blk_alloc hg0 o
  have hz : (w.alloc o).heap.size = w.heap.size + 1 := World.size_alloc _ _
  have hlk : ∀ n, (Instr.lookup 55 (.map mb) (.int .i64 x.f2) false).run Try.prog ((w.alloc o).drewN n) = .ok (.bool (s x.f2)) ((w.alloc o).drewN n) := fun n => hn.look (W := (w.alloc o).drewN n) (below_un HB.out) _ h2
  go_wp2
  rw [← ho]
  clear hn
  generalize w.alloc o = W at *
  subst ho
  have x0 : W.cell? ⟨w.heap.size, 0, none⟩ = some (.int .i64 x.f0) := (blk_cell hx 0).trans rfl
  have x1 : W.cell? ⟨w.heap.size, 1, none⟩ = some (.int .i64 x.f1) := (blk_cell hx 1).trans rfl
  have x2 : W.cell? ⟨w.heap.size, 2, none⟩ = some (.int .i64 x.f2) := (blk_cell hx 2).trans rfl
  have x3 : W.cell? ⟨w.heap.size, 3, none⟩ = some (.int .i64 x.f3) := (blk_cell hx 3).trans rfl
  have x4 : W.cell? ⟨w.heap.size, 4, none⟩ = some (.int .i64 x.f4) := (blk_cell hx 4).trans rfl
  have x5 : W.cell? ⟨w.heap.size, 5, none⟩ = some (.slice A x.f5.length c) := (blk_cell hx 5).trans rfl
  have y0 : W.cell? ⟨g, 0, none⟩ = some (.int .i64 k0) := (blk_cell hg 0).trans rfl
  have y1 : W.cell? ⟨g, 1, none⟩ = some (.int .i64 k1) := (blk_cell hg 1).trans rfl
  have y2 : W.cell? ⟨g, 2, none⟩ = some (.int .i64 a) := (blk_cell hg 2).trans rfl
  have y3 : W.cell? ⟨g, 3, none⟩ = some (.int .i64 k3) := (blk_cell hg 3).trans rfl
  have y4 : W.cell? ⟨g, 4, none⟩ = some (.int .i64 imm) := (blk_cell hg 4).trans rfl
  have y5 : W.cell? ⟨g, 5, none⟩ = some v5 := (blk_cell hg 5).trans rfl
  have y6 : W.cell? ⟨g, 6, none⟩ = some (.bool is) := (blk_cell hg 6).trans rfl
  have y7 : W.cell? ⟨g, 7, none⟩ = some (.map mb) := (blk_cell hg 7).trans rfl
  have e0 : W.frozen? ⟨g, 0, none⟩ = false := blk_frozen hg 0
  have e1 : W.frozen? ⟨g, 1, none⟩ = false := blk_frozen hg 1
  have e2 : W.frozen? ⟨g, 2, none⟩ = false := blk_frozen hg 2
  have e3 : W.frozen? ⟨g, 3, none⟩ = false := blk_frozen hg 3
  have e4 : W.frozen? ⟨g, 4, none⟩ = false := blk_frozen hg 4
  have e5 : W.frozen? ⟨g, 5, none⟩ = false := blk_frozen hg 5
  have e6 : W.frozen? ⟨g, 6, none⟩ = false := blk_frozen hg 6
  have e7 : W.frozen? ⟨g, 7, none⟩ = false := blk_frozen hg 7
  replace hx := Aside0.mk hx
  replace hg := Aside0.mk hg
  subst his
  rw [hs] at hlk
  go_quiet (fail)
  clear hlk
  go_wp2
  refine bodyPost_ret (v := .bool false) (by simp [results, Try.results35, go_sem]) rfl ⟨rfl, ?_⟩
  exact store_end nq mb _ _ _ _ _ _ _ _ hg.out HB.out hz x _ _ _ _ _ _ _ _ rfl rfl rfl rfl rfl rfl rfl
set_option maxHeartbeats 8000000 in
set_option maxRecDepth 100000 in
theorem stepS5 (g cnt : Nat) (a imm : Int) (is : Bool) (mb : Option Nat) (s : Sn) (x : S30) (A : Option Addr) (c : Nat) (h2 : wf x.f2) (w : World) (hn : IsNext w g cnt a imm is mb s) (h5 : (x.f0 == 5) = true) (his : is = true) (ha : (a == x.f2) = true) (hi : (imm == x.f4) = true) (hs : s x.f2 = false) :
    Calls Try.prog 35 #[.pointer (some ⟨g, 0, none⟩), opV x (.slice A x.f5.length c)] w fun e w' => e = .returned (.bool true) ∧ IsNext w' g 0 x.f2 x.f4 true (some (w.heap.size + 1)) (fun _ => false) ∧ Frame w w' g mb := by
  have hmm := @run_makeMap Try.prog
  obtain ⟨k0, k1, k3, v5, hg0⟩ := hn.ex
  have gl : g < w.heap.size := blk_lt hg0
  unfold opV
  go_enter Try.func35, Try.ntmps35
  obtain ⟨o, ho⟩ : ∃ o : Obj, o = .cells #[.int .i64 x.f0, .int .i64 x.f1, .int .i64 x.f2, .int .i64 x.f3, .int .i64 x.f4, .slice A x.f5.length c] 30 := ⟨_, rfl⟩
  have HB : Aside0 (Below w.heap.size w (w.alloc o)) := Aside0.mk ((Below.refl _ _).alloc (Nat.le_refl _) o)
  have hx : (w.alloc o).heap[w.heap.size]? = some o := blk_new w o
  have hg := blk_alloc hg0 o
  have hz : (w.alloc o).heap.size = w.heap.size + 1 := World.size_alloc _ _
  have hlk : ∀ n, (Instr.lookup 55 (.map mb) (.int .i64 x.f2) false).run Try.prog ((w.alloc o).drewN n) = .ok (.bool (s x.f2)) ((w.alloc o).drewN n) := fun n => hn.look (W := (w.alloc o).drewN n) (below_un HB.out) _ h2
  go_wp2
  rw [← ho]
  clear hn
  generalize w.alloc o = W at *
  subst ho
  have x0 : W.cell? ⟨w.heap.size, 0, none⟩ = some (.int .i64 x.f0) := (blk_cell hx 0).trans rfl
  have x1 : W.cell? ⟨w.heap.size, 1, none⟩ = some (.int .i64 x.f1) := (blk_cell hx 1).trans rfl
  have x2 : W.cell? ⟨w.heap.size, 2, none⟩ = some (.int .i64 x.f2) := (blk_cell hx 2).trans rfl
  have x3 : W.cell? ⟨w.heap.size, 3, none⟩ = some (.int .i64 x.f3) := (blk_cell hx 3).trans rfl
  have x4 : W.cell? ⟨w.heap.size, 4, none⟩ = some (.int .i64 x.f4) := (blk_cell hx 4).trans rfl
  have x5 : W.cell? ⟨w.heap.size, 5, none⟩ = some (.slice A x.f5.length c) := (blk_cell hx 5).trans rfl
  have y0 : W.cell? ⟨g, 0, none⟩ = some (.int .i64 k0) := (blk_cell hg 0).trans rfl
  have y1 : W.cell? ⟨g, 1, none⟩ = some (.int .i64 k1) := (blk_cell hg 1).trans rfl
  have y2 : W.cell? ⟨g, 2, none⟩ = some (.int .i64 a) := (blk_cell hg 2).trans rfl
  have y3 : W.cell? ⟨g, 3, none⟩ = some (.int .i64 k3) := (blk_cell hg 3).trans rfl
  have y4 : W.cell? ⟨g, 4, none⟩ = some (.int .i64 imm) := (blk_cell hg 4).trans rfl
  have y5 : W.cell? ⟨g, 5, none⟩ = some v5 := (blk_cell hg 5).trans rfl
  have y6 : W.cell? ⟨g, 6, none⟩ = some (.bool is) := (blk_cell hg 6).trans rfl
  have y7 : W.cell? ⟨g, 7, none⟩ = some (.map mb) := (blk_cell hg 7).trans rfl
  have e0 : W.frozen? ⟨g, 0, none⟩ = false := blk_frozen hg 0
  have e1 : W.frozen? ⟨g, 1, none⟩ = false := blk_frozen hg 1
  have e2 : W.frozen? ⟨g, 2, none⟩ = false := blk_frozen hg 2
  have e3 : W.frozen? ⟨g, 3, none⟩ = false := blk_frozen hg 3
  have e4 : W.frozen? ⟨g, 4, none⟩ = false := blk_frozen hg 4
  have e5 : W.frozen? ⟨g, 5, none⟩ = false := blk_frozen hg 5
  have e6 : W.frozen? ⟨g, 6, none⟩ = false := blk_frozen hg 6
  have e7 : W.frozen? ⟨g, 7, none⟩ = false := blk_frozen hg 7
  replace hx := Aside0.mk hx
  replace hg := Aside0.mk hg
  subst his
  rw [hs] at hlk
  go_quiet (fail)
  clear hlk
  go_wp2
  refine bodyPost_ret (v := .bool true) (by simp [results, Try.results35, go_sem]) rfl ⟨rfl, ?_⟩
  exact store_end nq mb _ _ _ _ _ _ _ _ hg.out HB.out hz x _ _ _ _ _ _ _ _ rfl rfl rfl rfl rfl rfl rfl
set_option maxHeartbeats 8000000 in
set_option maxRecDepth 100000 in
theorem stepN (g cnt : Nat) (a imm : Int) (is : Bool) (mb : Option Nat) (s : Sn) (x : S30) (A : Option Addr) (c : Nat) (h2 : wf x.f2) (w : World) (hn : IsNext w g cnt a imm is mb s) (hr : Kd.C (Kd.int .i64) w A x.f5.length x.f5) (hc : x.f5.length ≤ c) (h5 : (x.f0 == 5) = false) (hp : pureB x = false) :
    Calls Try.prog 35 #[.pointer (some ⟨g, 0, none⟩), opV x (.slice A x.f5.length c)] w fun e w' => e = .returned (.bool false) ∧ IsNext w' g cnt a imm false mb s ∧ Frame w w' g mb := by
  have hP : ∀ W, Below w.heap.size w W → Calls Try.prog 32 #[.agg #[.int .i64 x.f0, .int .i64 x.f1, .int .i64 x.f2, .int .i64 x.f3, .int .i64 x.f4, .slice A x.f5.length c]] W fun e w' => e = .returned (.bool (pureB x)) ∧ Below W.heap.size W w' := fun W hb => code_Pure.calls 12 x.f0 x.f1 x.f2 x.f3 x.f4 A c x.f5 (pureB x) W (Kd.C_below hr hb) hc (pure_some x)
  rw [hp] at hP
  have hmm := @run_makeMap Try.prog
  obtain ⟨k0, k1, k3, v5, hg0⟩ := hn.ex
  have gl : g < w.heap.size := blk_lt hg0
  unfold opV
  go_enter Try.func35, Try.ntmps35
  obtain ⟨o, ho⟩ : ∃ o : Obj, o = .cells #[.int .i64 x.f0, .int .i64 x.f1, .int .i64 x.f2, .int .i64 x.f3, .int .i64 x.f4, .slice A x.f5.length c] 30 := ⟨_, rfl⟩
  have HB : Aside0 (Below w.heap.size w (w.alloc o)) := Aside0.mk ((Below.refl _ _).alloc (Nat.le_refl _) o)
  have hx : (w.alloc o).heap[w.heap.size]? = some o := blk_new w o
  have hg := blk_alloc hg0 o
  have hz : (w.alloc o).heap.size = w.heap.size + 1 := World.size_alloc _ _
  subst ho
  replace hn := Aside0.mk hn
  replace hx := Aside0.mk hx
  replace hg := Aside0.mk hg
  go_wp2_with (go_at_call 32; refine (hP _ ?hb).mono ?_; (case hb => exact HB.out); rintro e w1 ⟨rfl, hb1⟩; have hx1 := Aside0.mk ((hb1.block w.heap.size (by rw [hz]; omega)).trans hx.out); have hg1 := Aside0.mk ((hb1.block g (by rw [hz]; omega)).trans hg.out); have HB1 := Aside0.mk (HB.out.trans (hb1.mono HB.out.size)); have hz1 : w.heap.size + 1 ≤ w1.heap.size := (by have := hb1.size; rw [hz] at this; exact this); have gl1 : g < w1.heap.size := (by omega); have z0 : w1.cell? ⟨w.heap.size, 0, none⟩ = some (.int .i64 x.f0) := (blk_cell hx1.out 0).trans rfl; have z1 : w1.cell? ⟨w.heap.size, 1, none⟩ = some (.int .i64 x.f1) := (blk_cell hx1.out 1).trans rfl; have z2 : w1.cell? ⟨w.heap.size, 2, none⟩ = some (.int .i64 x.f2) := (blk_cell hx1.out 2).trans rfl; have z3 : w1.cell? ⟨w.heap.size, 3, none⟩ = some (.int .i64 x.f3) := (blk_cell hx1.out 3).trans rfl; have z4 : w1.cell? ⟨w.heap.size, 4, none⟩ = some (.int .i64 x.f4) := (blk_cell hx1.out 4).trans rfl; have z5 : w1.cell? ⟨w.heap.size, 5, none⟩ = some (.slice A x.f5.length c) := (blk_cell hx1.out 5).trans rfl; have p0 : w1.cell? ⟨g, 0, none⟩ = some (.int .i64 k0) := (blk_cell hg1.out 0).trans rfl; have p1 : w1.cell? ⟨g, 1, none⟩ = some (.int .i64 k1) := (blk_cell hg1.out 1).trans rfl; have p2 : w1.cell? ⟨g, 2, none⟩ = some (.int .i64 a) := (blk_cell hg1.out 2).trans rfl; have p3 : w1.cell? ⟨g, 3, none⟩ = some (.int .i64 k3) := (blk_cell hg1.out 3).trans rfl; have p4 : w1.cell? ⟨g, 4, none⟩ = some (.int .i64 imm) := (blk_cell hg1.out 4).trans rfl; have p5 : w1.cell? ⟨g, 5, none⟩ = some v5 := (blk_cell hg1.out 5).trans rfl; have p6 : w1.cell? ⟨g, 6, none⟩ = some (.bool is) := (blk_cell hg1.out 6).trans rfl; have p7 : w1.cell? ⟨g, 7, none⟩ = some (.map mb) := (blk_cell hg1.out 7).trans rfl; have f0 : w1.frozen? ⟨g, 0, none⟩ = false := blk_frozen hg1.out 0; have f1 : w1.frozen? ⟨g, 1, none⟩ = false := blk_frozen hg1.out 1; have f2 : w1.frozen? ⟨g, 2, none⟩ = false := blk_frozen hg1.out 2; have f3 : w1.frozen? ⟨g, 3, none⟩ = false := blk_frozen hg1.out 3; have f4 : w1.frozen? ⟨g, 4, none⟩ = false := blk_frozen hg1.out 4; have f5 : w1.frozen? ⟨g, 5, none⟩ = false := blk_frozen hg1.out 5; have f6 : w1.frozen? ⟨g, 6, none⟩ = false := blk_frozen hg1.out 6; have f7 : w1.frozen? ⟨g, 7, none⟩ = false := blk_frozen hg1.out 7; clear hb1)
  refine bodyPost_ret (v := .bool false) (by simp [results, Try.results35, go_sem]) rfl ⟨rfl, ?_⟩
  exact not_end hn.out HB1.out
set_option maxHeartbeats 8000000 in
set_option maxRecDepth 100000 in
theorem stepW (g cnt : Nat) (a imm : Int) (is : Bool) (mb : Option Nat) (s : Sn) (x : S30) (A : Option Addr) (c : Nat) (h2 : wf x.f2) (w : World) (hn : IsNext w g cnt a imm is mb s) (hr : Kd.C (Kd.int .i64) w A x.f5.length x.f5) (hc : x.f5.length ≤ c) (h5 : (x.f0 == 5) = false) (hp : pureB x = true) (b : Nat) (hmb : mb = some b) (hcnt : cnt < maxLen) (h1 : wf x.f1) :
    Calls Try.prog 35 #[.pointer (some ⟨g, 0, none⟩), opV x (.slice A x.f5.length c)] w fun e w' => e = .returned (.bool false) ∧ IsNext w' g (cnt + 1) a imm is (some b) (add s (setsI x)) ∧ Frame w w' g (some b) := by
  have hP : ∀ W, Below w.heap.size w W → Calls Try.prog 32 #[.agg #[.int .i64 x.f0, .int .i64 x.f1, .int .i64 x.f2, .int .i64 x.f3, .int .i64 x.f4, .slice A x.f5.length c]] W fun e w' => e = .returned (.bool (pureB x)) ∧ Below W.heap.size W w' := fun W hb => code_Pure.calls 12 x.f0 x.f1 x.f2 x.f3 x.f4 A c x.f5 (pureB x) W (Kd.C_below hr hb) hc (pure_some x)
  rw [hp] at hP
  have hS : ∀ W, Below w.heap.size w W → Calls Try.prog 31 #[.agg #[.int .i64 x.f0, .int .i64 x.f1, .int .i64 x.f2, .int .i64 x.f3, .int .i64 x.f4, .slice A x.f5.length c]] W fun e w' => e = .returned (.int .i64 (setsI x)) ∧ Below W.heap.size W w' := fun W hb => code_Sets.calls 9 x.f0 x.f1 x.f2 x.f3 x.f4 A c x.f5 (setsI x) W (Kd.C_below hr hb) hc (sets_some x)
  subst hmb
  have hmn := fun W => run_eql_map_nil (P := Try.prog) W 55 3 4 (some b) Try.underlying55
  rw [show (some b).isNone = false from rfl] at hmn
  have hd : wf (setsI x) := by unfold setsI; split; (· exact wf_zero); (· exact h1)
  have hkey := key3 hd
  have hcl := Aside0.mk hcnt
  have hval := Aside0.mk (plainElem_bool (H := Unit) Try.underlying4 true)
  obtain ⟨D, hD0, hT⟩ := hn.yes b rfl
  have bl : b < w.heap.size := hD0.lt
  replace hD0 := Aside0.mk hD0
  replace hT := Aside0.mk hT
  have hmm := @run_makeMap Try.prog
  obtain ⟨k0, k1, k3, v5, hg0⟩ := hn.ex
  have gl : g < w.heap.size := blk_lt hg0
  unfold opV
  go_enter Try.func35, Try.ntmps35
  obtain ⟨o, ho⟩ : ∃ o : Obj, o = .cells #[.int .i64 x.f0, .int .i64 x.f1, .int .i64 x.f2, .int .i64 x.f3, .int .i64 x.f4, .slice A x.f5.length c] 30 := ⟨_, rfl⟩
  have HB : Aside0 (Below w.heap.size w (w.alloc o)) := Aside0.mk ((Below.refl _ _).alloc (Nat.le_refl _) o)
  have hx : (w.alloc o).heap[w.heap.size]? = some o := blk_new w o
  have hg := blk_alloc hg0 o
  have hz : (w.alloc o).heap.size = w.heap.size + 1 := World.size_alloc _ _
  subst ho
  replace hn := Aside0.mk hn
  replace hx := Aside0.mk hx
  replace hg := Aside0.mk hg
  go_wp2_with (go_at_call 32; refine (hP _ ?hb).mono ?_; (case hb => exact HB.out); rintro e w1 ⟨rfl, hb1⟩; have hx1 := Aside0.mk ((hb1.block w.heap.size (by rw [hz]; omega)).trans hx.out); have hg1 := Aside0.mk ((hb1.block g (by rw [hz]; omega)).trans hg.out); have HB1 := Aside0.mk (HB.out.trans (hb1.mono HB.out.size)); have hz1 : w.heap.size + 1 ≤ w1.heap.size := (by have := hb1.size; rw [hz] at this; exact this); have gl1 : g < w1.heap.size := (by omega); have z0 : w1.cell? ⟨w.heap.size, 0, none⟩ = some (.int .i64 x.f0) := (blk_cell hx1.out 0).trans rfl; have z1 : w1.cell? ⟨w.heap.size, 1, none⟩ = some (.int .i64 x.f1) := (blk_cell hx1.out 1).trans rfl; have z2 : w1.cell? ⟨w.heap.size, 2, none⟩ = some (.int .i64 x.f2) := (blk_cell hx1.out 2).trans rfl; have z3 : w1.cell? ⟨w.heap.size, 3, none⟩ = some (.int .i64 x.f3) := (blk_cell hx1.out 3).trans rfl; have z4 : w1.cell? ⟨w.heap.size, 4, none⟩ = some (.int .i64 x.f4) := (blk_cell hx1.out 4).trans rfl; have z5 : w1.cell? ⟨w.heap.size, 5, none⟩ = some (.slice A x.f5.length c) := (blk_cell hx1.out 5).trans rfl; have p0 : w1.cell? ⟨g, 0, none⟩ = some (.int .i64 k0) := (blk_cell hg1.out 0).trans rfl; have p1 : w1.cell? ⟨g, 1, none⟩ = some (.int .i64 k1) := (blk_cell hg1.out 1).trans rfl; have p2 : w1.cell? ⟨g, 2, none⟩ = some (.int .i64 a) := (blk_cell hg1.out 2).trans rfl; have p3 : w1.cell? ⟨g, 3, none⟩ = some (.int .i64 k3) := (blk_cell hg1.out 3).trans rfl; have p4 : w1.cell? ⟨g, 4, none⟩ = some (.int .i64 imm) := (blk_cell hg1.out 4).trans rfl; have p5 : w1.cell? ⟨g, 5, none⟩ = some v5 := (blk_cell hg1.out 5).trans rfl; have p6 : w1.cell? ⟨g, 6, none⟩ = some (.bool is) := (blk_cell hg1.out 6).trans rfl; have p7 : w1.cell? ⟨g, 7, none⟩ = some (.map (some b)) := (blk_cell hg1.out 7).trans rfl; have f0 : w1.frozen? ⟨g, 0, none⟩ = false := blk_frozen hg1.out 0; have f1 : w1.frozen? ⟨g, 1, none⟩ = false := blk_frozen hg1.out 1; have f2 : w1.frozen? ⟨g, 2, none⟩ = false := blk_frozen hg1.out 2; have f3 : w1.frozen? ⟨g, 3, none⟩ = false := blk_frozen hg1.out 3; have f4 : w1.frozen? ⟨g, 4, none⟩ = false := blk_frozen hg1.out 4; have f5 : w1.frozen? ⟨g, 5, none⟩ = false := blk_frozen hg1.out 5; have f6 : w1.frozen? ⟨g, 6, none⟩ = false := blk_frozen hg1.out 6; have f7 : w1.frozen? ⟨g, 7, none⟩ = false := blk_frozen hg1.out 7; clear hb1)
  go_region_with (go_at_call 31; (with_reducible refine (hS _ ?hb).mono ?_); (case hb => first | exact HB1.out | exact HB1.out.drew | exact below_unI HB1.out); rintro e w2 ⟨rfl, hb2⟩; have hx2 := Aside0.mk ((hb2.block w.heap.size (by show _ < w1.heap.size; omega)).trans hx1.out); have hg2 := Aside0.mk ((hb2.block g (by show _ < w1.heap.size; omega)).trans hg1.out); have HB2 : Aside0 (Below w.heap.size w w2) := Aside0.mk (HB1.out.trans ((show Below w1.heap.size w1 w2 from ⟨hb2.os, hb2.tape, hb2.output, hb2.size, hb2.block⟩).mono HB1.out.size)); have t0 : w2.cell? ⟨w.heap.size, 0, none⟩ = some (.int .i64 x.f0) := (blk_cell hx2.out 0).trans rfl; have t1 : w2.cell? ⟨w.heap.size, 1, none⟩ = some (.int .i64 x.f1) := (blk_cell hx2.out 1).trans rfl; have t2 : w2.cell? ⟨w.heap.size, 2, none⟩ = some (.int .i64 x.f2) := (blk_cell hx2.out 2).trans rfl; have t3 : w2.cell? ⟨w.heap.size, 3, none⟩ = some (.int .i64 x.f3) := (blk_cell hx2.out 3).trans rfl; have t4 : w2.cell? ⟨w.heap.size, 4, none⟩ = some (.int .i64 x.f4) := (blk_cell hx2.out 4).trans rfl; have t5 : w2.cell? ⟨w.heap.size, 5, none⟩ = some (.slice A x.f5.length c) := (blk_cell hx2.out 5).trans rfl; have r7 : w2.cell? ⟨g, 7, none⟩ = some (.map (some b)) := (blk_cell hg2.out 7).trans rfl; have HD2 := Aside0.mk (owns_keep hD0.out (HB2.out.block b bl)); obtain ⟨w9, hrun, hown, hgrow⟩ := World.ownsMap.update HD2.out law3 Try.underlying55 hcl.out hkey hval.out; have hN := Aside0.mk (pure_end hn.out HB2.out hD0.out hT.out hown hgrow); clear hown hgrow hb2)
  all_goals go_wp2
  all_goals refine bodyPost_ret (v := .bool false) (by simp [results, Try.results35, go_sem]) rfl ⟨rfl, hN.out⟩
set_option maxHeartbeats 8000000 in
set_option maxRecDepth 100000 in
theorem stepQ (g cnt : Nat) (a imm : Int) (is : Bool) (mb : Option Nat) (s : Sn) (x : S30) (A : Option Addr) (c : Nat) (h2 : wf x.f2) (w : World) (hn : IsNext w g cnt a imm is mb s) (hr : Kd.C (Kd.int .i64) w A x.f5.length x.f5) (hc : x.f5.length ≤ c) (h5 : (x.f0 == 5) = false) (hp : pureB x = true) (hmb : mb = none) (h1 : wf x.f1) :
    Calls Try.prog 35 #[.pointer (some ⟨g, 0, none⟩), opV x (.slice A x.f5.length c)] w fun e w' => e = .returned (.bool false) ∧ ∃ b, w.heap.size ≤ b ∧ IsNext w' g 1 a imm is (some b) (add s (setsI x)) ∧ Frame w w' g none := by
  have hP : ∀ W, Below w.heap.size w W → Calls Try.prog 32 #[.agg #[.int .i64 x.f0, .int .i64 x.f1, .int .i64 x.f2, .int .i64 x.f3, .int .i64 x.f4, .slice A x.f5.length c]] W fun e w' => e = .returned (.bool (pureB x)) ∧ Below W.heap.size W w' := fun W hb => code_Pure.calls 12 x.f0 x.f1 x.f2 x.f3 x.f4 A c x.f5 (pureB x) W (Kd.C_below hr hb) hc (pure_some x)
  rw [hp] at hP
  have hS : ∀ W, Kd.C (Kd.int .i64) W A x.f5.length x.f5 → Calls Try.prog 31 #[.agg #[.int .i64 x.f0, .int .i64 x.f1, .int .i64 x.f2, .int .i64 x.f3, .int .i64 x.f4, .slice A x.f5.length c]] W fun e w' => e = .returned (.int .i64 (setsI x)) ∧ Below W.heap.size W w' := fun W hr => code_Sets.calls 9 x.f0 x.f1 x.f2 x.f3 x.f4 A c x.f5 (setsI x) W hr hc (sets_some x)
  subst hmb
  have hmn := fun W => run_eql_map_nil (P := Try.prog) W 55 3 4 none Try.underlying55
  rw [show (none : Option Nat).isNone = true from rfl] at hmn
  have hd : wf (setsI x) := by unfold setsI; split; (· exact wf_zero); (· exact h1)
  have hkey := key3 hd
  have hcl := Aside0.mk (show 0 < maxLen by decide)
  have hval := Aside0.mk (plainElem_bool (H := Unit) Try.underlying4 true)
  replace hr := Aside0.mk hr
  have hmm := @run_makeMap Try.prog
  obtain ⟨k0, k1, k3, v5, hg0⟩ := hn.ex
  have gl : g < w.heap.size := blk_lt hg0
  unfold opV
  go_enter Try.func35, Try.ntmps35
  obtain ⟨o, ho⟩ : ∃ o : Obj, o = .cells #[.int .i64 x.f0, .int .i64 x.f1, .int .i64 x.f2, .int .i64 x.f3, .int .i64 x.f4, .slice A x.f5.length c] 30 := ⟨_, rfl⟩
  have HB : Aside0 (Below w.heap.size w (w.alloc o)) := Aside0.mk ((Below.refl _ _).alloc (Nat.le_refl _) o)
  have hx : (w.alloc o).heap[w.heap.size]? = some o := blk_new w o
  have hg := blk_alloc hg0 o
  have hz : (w.alloc o).heap.size = w.heap.size + 1 := World.size_alloc _ _
  subst ho
  replace hn := Aside0.mk hn
  replace hx := Aside0.mk hx
  replace hg := Aside0.mk hg
  have hP' := hP _ HB.out
  go_wp2_with (go_at_call 32; refine (hP _ ?hb).mono ?_; (case hb => exact HB.out); rintro e w1 ⟨rfl, hb1⟩; have hx1 := Aside0.mk ((hb1.block w.heap.size (by rw [hz]; omega)).trans hx.out); have hg1 := Aside0.mk ((hb1.block g (by rw [hz]; omega)).trans hg.out); have HB1 := Aside0.mk (HB.out.trans (hb1.mono HB.out.size)); have hz1 : w.heap.size + 1 ≤ w1.heap.size := (by have := hb1.size; rw [hz] at this; exact this); have gl1 : g < w1.heap.size := (by omega); have z0 : w1.cell? ⟨w.heap.size, 0, none⟩ = some (.int .i64 x.f0) := (blk_cell hx1.out 0).trans rfl; have z1 : w1.cell? ⟨w.heap.size, 1, none⟩ = some (.int .i64 x.f1) := (blk_cell hx1.out 1).trans rfl; have z2 : w1.cell? ⟨w.heap.size, 2, none⟩ = some (.int .i64 x.f2) := (blk_cell hx1.out 2).trans rfl; have z3 : w1.cell? ⟨w.heap.size, 3, none⟩ = some (.int .i64 x.f3) := (blk_cell hx1.out 3).trans rfl; have z4 : w1.cell? ⟨w.heap.size, 4, none⟩ = some (.int .i64 x.f4) := (blk_cell hx1.out 4).trans rfl; have z5 : w1.cell? ⟨w.heap.size, 5, none⟩ = some (.slice A x.f5.length c) := (blk_cell hx1.out 5).trans rfl; have p0 : w1.cell? ⟨g, 0, none⟩ = some (.int .i64 k0) := (blk_cell hg1.out 0).trans rfl; have p1 : w1.cell? ⟨g, 1, none⟩ = some (.int .i64 k1) := (blk_cell hg1.out 1).trans rfl; have p2 : w1.cell? ⟨g, 2, none⟩ = some (.int .i64 a) := (blk_cell hg1.out 2).trans rfl; have p3 : w1.cell? ⟨g, 3, none⟩ = some (.int .i64 k3) := (blk_cell hg1.out 3).trans rfl; have p4 : w1.cell? ⟨g, 4, none⟩ = some (.int .i64 imm) := (blk_cell hg1.out 4).trans rfl; have p5 : w1.cell? ⟨g, 5, none⟩ = some v5 := (blk_cell hg1.out 5).trans rfl; have p6 : w1.cell? ⟨g, 6, none⟩ = some (.bool is) := (blk_cell hg1.out 6).trans rfl; have p7 : w1.cell? ⟨g, 7, none⟩ = some (.map none) := (blk_cell hg1.out 7).trans rfl; have f0 : w1.frozen? ⟨g, 0, none⟩ = false := blk_frozen hg1.out 0; have f1 : w1.frozen? ⟨g, 1, none⟩ = false := blk_frozen hg1.out 1; have f2 : w1.frozen? ⟨g, 2, none⟩ = false := blk_frozen hg1.out 2; have f3 : w1.frozen? ⟨g, 3, none⟩ = false := blk_frozen hg1.out 3; have f4 : w1.frozen? ⟨g, 4, none⟩ = false := blk_frozen hg1.out 4; have f5 : w1.frozen? ⟨g, 5, none⟩ = false := blk_frozen hg1.out 5; have f6 : w1.frozen? ⟨g, 6, none⟩ = false := blk_frozen hg1.out 6; have f7 : w1.frozen? ⟨g, 7, none⟩ = false := blk_frozen hg1.out 7; clear hb1)
  obtain ⟨hI, hF, hsz, hkk⟩ := nil_made hn.out HB1.out
  have hCW := ints_nil (u := .map (some w1.heap.size)) (o := .map #[] 0) hg1.out (Kd.C_below hr.out HB1.out)
  generalize (w1.setCell ⟨g, 7, none⟩ (.map (some w1.heap.size))).alloc (.map #[] 0) = W2 at *
  obtain ⟨D, hD0, hT⟩ := hI.yes _ rfl
  obtain ⟨j0, j1, j3, u5, hgW⟩ := hI.ex
  have gne : w.heap.size ≠ g := by omega
  have hxW := Aside0.mk ((hkk w.heap.size hz1 gne).trans hx1.out)
  replace hgW := Aside0.mk hgW
  replace hI := Aside0.mk hI
  replace hF := Aside0.mk hF
  replace hD0 := Aside0.mk hD0
  replace hT := Aside0.mk hT
  have HCW := Aside0.mk hCW
  have hz0 := Aside0.mk HB1.out.size
  clear hCW hkk
  have d0 : W2.cell? ⟨w.heap.size, 0, none⟩ = some (.int .i64 x.f0) := (blk_cell hxW.out 0).trans rfl
  have d1 : W2.cell? ⟨w.heap.size, 1, none⟩ = some (.int .i64 x.f1) := (blk_cell hxW.out 1).trans rfl
  have d2 : W2.cell? ⟨w.heap.size, 2, none⟩ = some (.int .i64 x.f2) := (blk_cell hxW.out 2).trans rfl
  have d3 : W2.cell? ⟨w.heap.size, 3, none⟩ = some (.int .i64 x.f3) := (blk_cell hxW.out 3).trans rfl
  have d4 : W2.cell? ⟨w.heap.size, 4, none⟩ = some (.int .i64 x.f4) := (blk_cell hxW.out 4).trans rfl
  have d5 : W2.cell? ⟨w.heap.size, 5, none⟩ = some (.slice A x.f5.length c) := (blk_cell hxW.out 5).trans rfl
  have d7 : W2.cell? ⟨g, 7, none⟩ = some (.map (some w1.heap.size)) := (blk_cell hgW.out 7).trans rfl
  go_region_with (go_at_call 31; (with_reducible refine (hS _ ?hb).mono ?_); (case hb => exact Kd.C_below HCW.out (((Below.refl _ W2).drew)));  rintro e w2 ⟨rfl, hb2⟩; have hx2 := Aside0.mk ((hb2.block w.heap.size (by show _ < W2.heap.size; omega)).trans hxW.out); have hg2 := Aside0.mk ((hb2.block g (by show _ < W2.heap.size; omega)).trans hgW.out); have HB2 : Aside0 (Below W2.heap.size W2 w2) := Aside0.mk ⟨hb2.os, hb2.tape, hb2.output, hb2.size, hb2.block⟩; have t0 : w2.cell? ⟨w.heap.size, 0, none⟩ = some (.int .i64 x.f0) := (blk_cell hx2.out 0).trans rfl; have t1 : w2.cell? ⟨w.heap.size, 1, none⟩ = some (.int .i64 x.f1) := (blk_cell hx2.out 1).trans rfl; have t2 : w2.cell? ⟨w.heap.size, 2, none⟩ = some (.int .i64 x.f2) := (blk_cell hx2.out 2).trans rfl; have t3 : w2.cell? ⟨w.heap.size, 3, none⟩ = some (.int .i64 x.f3) := (blk_cell hx2.out 3).trans rfl; have t4 : w2.cell? ⟨w.heap.size, 4, none⟩ = some (.int .i64 x.f4) := (blk_cell hx2.out 4).trans rfl; have t5 : w2.cell? ⟨w.heap.size, 5, none⟩ = some (.slice A x.f5.length c) := (blk_cell hx2.out 5).trans rfl; have r7 : w2.cell? ⟨g, 7, none⟩ = some (.map (some w1.heap.size)) := (blk_cell hg2.out 7).trans rfl; have HD2 := Aside0.mk (owns_keep hD0.out (HB2.out.block w1.heap.size (by omega))); obtain ⟨w9, hrun, hown, hgrow⟩ := World.ownsMap.update HD2.out law3 Try.underlying55 hcl.out hkey hval.out; have hN := Aside0.mk (pure_end hI.out HB2.out hD0.out hT.out hown hgrow); clear hown hgrow hb2)
  all_goals go_wp2
  all_goals refine bodyPost_ret (v := .bool false) (by simp [results, Try.results35, go_sem]) rfl ⟨rfl, w1.heap.size, hz0.out, hN.out.1, frame_nil hF.out hN.out.2 hz0.out⟩
/-- The state behind a step: what the last store was, is it one, and the registers that were set. -/
structure St where
  a : Int
  imm : Int
  is : Bool
  s : Sn
def stepP (t : St) (x : S30) : St :=
  if (x.f0 == 5) = true then ⟨x.f2, x.f4, true, fun _ => false⟩
  else if pureB x = true then ⟨t.a, t.imm, t.is, add t.s (setsI x)⟩
  else ⟨t.a, t.imm, false, t.s⟩
def deadP (t : St) (x : S30) : Bool := (x.f0 == 5) && (t.is && (t.a == x.f2) && (t.imm == x.f4) && !(t.s x.f2))
/-- One step: what it answers, the state behind it, what lies as it lay. -/
theorem step_any (g cnt : Nat) (t : St) (mb : Option Nat) (x : S30) (A : Option Addr) (c : Nat) (hw : WfOp x) (w : World) (hn : IsNext w g cnt t.a t.imm t.is mb t.s) (hr : Kd.C (Kd.int .i64) w A x.f5.length x.f5) (hc : x.f5.length ≤ c) (hcnt : cnt < maxLen) :
    Calls Try.prog 35 #[.pointer (some ⟨g, 0, none⟩), opV x (.slice A x.f5.length c)] w fun e w' => e = .returned (.bool (deadP t x)) ∧
      ∃ mb', (mb' = mb ∨ ∃ b, mb' = some b ∧ w.heap.size ≤ b) ∧ IsNext w' g (cnt + 1) (stepP t x).a (stepP t x).imm (stepP t x).is mb' (stepP t x).s ∧ Frame w w' g mb := by
  have mono : ∀ {w' : World} {c1 c2 : Nat} {a imm : Int} {is : Bool} {mb : Option Nat} {s : Sn}, c1 ≤ c2 → IsNext w' g c1 a imm is mb s → IsNext w' g c2 a imm is mb s := fun h k => ⟨k.ex, k.no, fun b hb => (k.yes b hb).mono h⟩
  unfold stepP deadP
  rcases Bool.eq_false_or_eq_true (x.f0 == 5) with h5 | h5
  · rw [if_pos h5, h5, Bool.true_and]
    have fin : ∀ (r : Bool) (e : Ending) (w' : World), (e = .returned (.bool r) ∧ IsNext w' g 0 x.f2 x.f4 true (some (w.heap.size + 1)) (fun _ => false) ∧ Frame w w' g mb) → (e = .returned (.bool r) ∧
      ∃ mb', (mb' = mb ∨ ∃ b, mb' = some b ∧ w.heap.size ≤ b) ∧ IsNext w' g (cnt + 1) x.f2 x.f4 true mb' (fun _ => false) ∧ Frame w w' g mb) := fun r e w' ⟨h1, h2, h3⟩ => ⟨h1, _, .inr ⟨_, rfl, by omega⟩, mono (Nat.zero_le _) h2, h3⟩
    rcases Bool.eq_false_or_eq_true t.is with his | his
    · rcases Bool.eq_false_or_eq_true (t.a == x.f2) with ha | ha
      · rcases Bool.eq_false_or_eq_true (t.imm == x.f4) with hi | hi
        · rcases Bool.eq_false_or_eq_true (t.s x.f2) with hs | hs
          · refine (stepS4 g cnt t.a t.imm t.is mb t.s x A c hw.h2 w hn h5 his ha hi hs).mono fun e w' h => ?_
            rw [his, ha, hi, hs]; exact fin _ e w' h
          · refine (stepS5 g cnt t.a t.imm t.is mb t.s x A c hw.h2 w hn h5 his ha hi hs).mono fun e w' h => ?_
            rw [his, ha, hi, hs]; exact fin _ e w' h
        · refine (stepS3 g cnt t.a t.imm t.is mb t.s x A c hw.h2 w hn h5 his ha hi).mono fun e w' h => ?_
          rw [his, ha, hi]; exact fin _ e w' h
      · refine (stepS2 g cnt t.a t.imm t.is mb t.s x A c hw.h2 w hn h5 his ha).mono fun e w' h => ?_
        rw [his, ha]; exact fin _ e w' h
    · refine (stepS1 g cnt t.a t.imm t.is mb t.s x A c hw.h2 w hn h5 his).mono fun e w' h => ?_
      rw [his]; exact fin _ e w' h
  · rw [if_neg (by simp [h5]), h5, Bool.false_and]
    rcases Bool.eq_false_or_eq_true (pureB x) with hp | hp
    · rw [if_pos hp]
      cases hmb : mb with
      | none => exact (stepQ g cnt t.a t.imm t.is mb t.s x A c hw.h2 w hn hr hc h5 hp hmb hw.h1).mono fun e w' ⟨h1, b, h2, h3, h4⟩ => ⟨h1, some b, .inr ⟨b, rfl, h2⟩, mono (by omega) h3, h4⟩
      | some b => exact (stepW g cnt t.a t.imm t.is mb t.s x A c hw.h2 w hn hr hc h5 hp b hmb hcnt hw.h1).mono fun e w' ⟨h1, h2, h3⟩ => ⟨h1, some b, .inl rfl, h2, h3⟩
    · rw [if_neg (by simp [hp])]
      exact (stepN g cnt t.a t.imm t.is mb t.s x A c hw.h2 w hn hr hc h5 hp).mono fun e w' ⟨h1, h2, h3⟩ => ⟨h1, mb, .inl rfl, mono (Nat.le_succ _) h2, h3⟩
end Go.Proofs.Ytmacdhkfgoahcaa.De

/- A range over a function whose body makes and writes whatever it likes, but for the loop's own two blocks; it is left at its end alone. From the library's law of the statement (wpIn_rangeFunc) and of a round (roundIn_of_wpIn). -/
set_option linter.unusedVariables false
namespace Go.Proofs.Ytmacdhkfgoahcaa.De
open Go Go.RowKit
variable {F : Fence} {n : Nat} {P : Program}
/-- The loop's two blocks lie as they lay. -/
def Keep2 (B : Nat) (W W' : World) : Prop := W'.heap[B]? = W.heap[B]? ∧ W'.heap[B + 1]? = W.heap[B + 1]?
theorem range_book {α : Type} {g : Operand} {ps : Array Tmp} {assign body : Code} {Q : Exit → Act → World → Prop} {a : Act} {w : World}
    (hro : F.round = none) (h1 : 1 ≤ n) {gf : Nat} {lb : Array Value} (hg : a.eval g = .func (.func gf) #[] lb) (hFg : F.fn gf) (eg : ∀ args w, (callFunc gf args).run P w = .ok (.enter gf args) w)
    {encs : α → Array Value} (hps : ∀ x, (encs x).size = ps.size) (I : List α → World → Prop) (Ax : α → Act → World → Prop) (S : List α → Prop) (X : List α → α → Prop)
    (hI : ∀ xs W l o, (l = w.heap.size ∨ l = w.heap.size + 1) → I xs W → I xs (W.putObj l o)) (hA : ∀ x a' W l o, (l = w.heap.size ∨ l = w.heap.size + 1) → Ax x a' W → Ax x a' (W.putObj l o))
    (h0 : ∀ o o', I [] ((w.alloc o).alloc o'))
    (hiter : ∀ (l : Nat) (J : List α → World → Prop), (∀ xs W, J xs W → I xs W) → (∀ pre x W, J pre W → X pre x → YieldAt F (n - 1 - 1) P l (encs x) W fun e W' => e = .returned (.bool true) ∧ J (pre ++ [x]) W') →
      ∀ W, J [] W → CallsIn F (n - 1) P gf (#[.func (.yield l) #[] #[]] ++ lb) W fun e W' => (∃ v, e = .returned v) ∧ ∃ xs, S xs ∧ J xs W')
    (hassign : ∀ (l : Nat) (pre : List α) (x : α) (W : World), I pre W → X pre x →
      assign.wpIn (F.inRound l) (n - 1 - 1) P (Exit.then (fun a' W' => Keep2 w.heap.size W W' ∧ I pre W' ∧ Ax x a' W') (fun _ _ _ => False)) { tmps := (ps.zip (encs x)).foldl (fun t (p, v) => t.setIfInBounds p v) a.tmps, defers := [] } W)
    (hbody : ∀ (l : Nat) (pre : List α) (x : α) (a' : Act) (W : World), I pre W → Ax x a' W → X pre x → body.wpIn (F.inRound l) (n - 1 - 1) P (fun e _ W' => e = .normal ∧ Keep2 w.heap.size W W' ∧ I (pre ++ [x]) W') a' W)
    (hdone : ∀ (xs : List α) (W : World), S xs → I xs W → W.heap[w.heap.size]? = some (.deferred (some [])) → Q .normal { a with defers := { target := .collected w.heap.size, args := #[] } :: a.defers } W) :
    (Code.rangeFunc g ps assign body).wpIn F n P Q a w := by
  refine wpIn_rangeFunc fun fn hfn => ?_
  rw [hro]
  obtain ⟨rec, hrec⟩ : ∃ rec : LoopState → Loop, rec = fun st => { state := st, pending := none, fn, tmps := a.tmps, params := ps, assign, body, defers := w.heap.size } := ⟨_, rfl⟩
  have b0 : ((w.alloc (.deferred (some []))).alloc (.loop (rec .ready))).heap[w.heap.size]? = some (.deferred (some [])) := (Below.heap_alloc _ _ _ (by simp)).trans (World.alloc_heap_new w _)
  have b1 : ((w.alloc (.deferred (some []))).alloc (.loop (rec .ready))).heap[w.heap.size + 1]? = some (.loop (rec .ready)) := by
    have := World.alloc_heap_new (w.alloc (.deferred (some []))) (.loop (rec .ready))
    rwa [World.size_alloc] at this
  have hstart := h0 (.deferred (some [])) (.loop (rec .ready))
  refine ⟨w.heap.size + 1, [{ target := .collected w.heap.size, args := #[] }], (w.alloc (.deferred (some []))).alloc (.loop (rec .ready)), { target := .fn (.func gf) lb, args := #[.func (.yield (w.heap.size + 1)) #[] #[]] }, (w.alloc (.deferred (some []))).alloc (.loop (rec .ready)), gf,
    #[.func (.yield (w.heap.size + 1)) #[] #[]] ++ lb, (w.alloc (.deferred (some []))).alloc (.loop (rec .ready)), ?_, ?_, ?_, ?_, fun _ => h1, ?_⟩
  · rw [hrec]; exact run_enterLoop_outer _ _ _ _ _
  · simp only [resolve, hg]
    simp [go_sem]
  · intro f' hf'
    simp [Target.leads] at hf'
    subst hf'; exact hFg
  · simp [invoke, go_sem, eg]
  · refine (hiter (w.heap.size + 1) (fun pre W => I pre W ∧ W.heap[w.heap.size]? = some (.deferred (some [])) ∧ W.heap[w.heap.size + 1]? = some (.loop (rec .ready))) (fun _ _ h => h.1) ?_ _ ⟨hstart, b0, b1⟩).mono ?_
    · rintro pre x W ⟨hi, hd, hl⟩ hlen
      have hy := run_yield (P := P) (args := encs x) hl (by rw [hrec]; exact hps x)
      rw [hrec] at hy
      refine ⟨fn, _, assign, body, hy, roundIn_of_wpIn hfn (wpIn_mono (hassign _ pre x W hi hlen) ?_)⟩
      rintro e a1 W1 h
      cases e with
      | normal =>
        obtain ⟨hk, hi1, ha1⟩ := h
        have hl1 := hk.2.trans hl
        have hd1 := hk.1.trans hd
        have hlt := (Array.getElem?_eq_some_iff.1 hl1).1
        refine ⟨_, run_beginRound hl1 (by rw [hrec]), wpIn_mono (hbody _ pre x a1 _ (hI _ _ _ _ (.inr rfl) hi1) (hA _ _ _ _ _ (.inr rfl) ha1) hlen) ?_⟩
        rintro e2 a2 W2 ⟨rfl, hk2, hi2⟩
        have hl2 := hk2.2.trans (World.putObj_heap_same (o := .loop { rec .ready with state := .busy }) hlt)
        have hd2 := hk2.1.trans ((World.putObj_heap_other (by omega)).trans hd1)
        have hr := run_endRound (P := P) none hl2
        rw [hrec] at hr ⊢
        exact ⟨_, _, hr, rfl, hI _ _ _ _ (.inr rfl) hi2, (World.putObj_heap_other (by omega)).trans hd2, World.putObj_heap_same (Array.getElem?_eq_some_iff.1 hl2).1⟩
      | _ => exact h.elim
    · rintro e W2 ⟨⟨v, rfl⟩, xs, hS, hi, hd, hl⟩
      have hr := run_endLoop (P := P) hl (by rw [hrec]; simp)
      rw [hrec] at hr
      exact ⟨none, _, hr, hdone xs _ hS (hI _ _ _ _ (.inr rfl) hi) ((World.putObj_heap_other (by omega)).trans hd)⟩
end Go.Proofs.Ytmacdhkfgoahcaa.De

/- The iterator slices.Backward over operations: its maker, its rounds. For every row. -/
set_option linter.unusedVariables false
set_option linter.unusedSimpArgs false
namespace Go.Proofs.Ytmacdhkfgoahcaa.De
open Go Go.RowKit Go.Shelf Go.Maps Go.Proofs.Ytmacdhkfgoahcaa.Q Go.Proofs.Ytmacdhkfgoahcaa.Fo Go.Proofs.YtmacdhkfgoahcaaW.PrintWords Go.Proofs.YtmacdhkfgoahcaaW.PrintLast Go.Proofs.YtmacdhkfgoahcaaW.PrintMore
attribute [local go_sem] Oper.semAt_some
/-- A row's operations, cell by cell. -/
def OpsAt (w : World) (ad : Addr) (xs : List S30) (sl : Nat → Option Addr × Nat) : Prop := ∀ i, (h : i < xs.length) → w.cell? (ad.add (i * 6)) = some (.int .i64 xs[i].f0) ∧ w.cell? ⟨(ad.add (i * 6)).block, (ad.add (i * 6)).off + 1, none⟩ = some (.int .i64 xs[i].f1) ∧ w.cell? ⟨(ad.add (i * 6)).block, (ad.add (i * 6)).off + 2, none⟩ = some (.int .i64 xs[i].f2) ∧ w.cell? ⟨(ad.add (i * 6)).block, (ad.add (i * 6)).off + 3, none⟩ = some (.int .i64 xs[i].f3) ∧ w.cell? ⟨(ad.add (i * 6)).block, (ad.add (i * 6)).off + 4, none⟩ = some (.int .i64 xs[i].f4) ∧ w.cell? ⟨(ad.add (i * 6)).block, (ad.add (i * 6)).off + 5, none⟩ = some (.slice (sl i).1 xs[i].f5.length (sl i).2) ∧ xs[i].f5.length ≤ (sl i).2 ∧ (Kd.int .i64).C w (sl i).1 xs[i].f5.length xs[i].f5
theorem ops_at {w : World} {A : Option Addr} {xs : List S30} (h : Kd.C k30 w A xs.length xs) : ∃ ad sl, (0 < xs.length → A = some ad) ∧ OpsAt w ad xs sl := by
  rcases Nat.eq_zero_or_pos xs.length with h0 | h0
  · exact ⟨⟨0, 0, none⟩, fun _ => (none, 0), fun hp => by omega, fun i hi => by omega⟩
  · obtain ⟨ad, hA, _⟩ := h.2.2 h0
    have key : ∀ i, ∃ v : Option Addr × Nat, (hi : i < xs.length) → w.cell? (ad.add (i * 6)) = some (.int .i64 xs[i].f0) ∧ w.cell? ⟨(ad.add (i * 6)).block, (ad.add (i * 6)).off + 1, none⟩ = some (.int .i64 xs[i].f1) ∧ w.cell? ⟨(ad.add (i * 6)).block, (ad.add (i * 6)).off + 2, none⟩ = some (.int .i64 xs[i].f2) ∧ w.cell? ⟨(ad.add (i * 6)).block, (ad.add (i * 6)).off + 3, none⟩ = some (.int .i64 xs[i].f3) ∧ w.cell? ⟨(ad.add (i * 6)).block, (ad.add (i * 6)).off + 4, none⟩ = some (.int .i64 xs[i].f4) ∧ w.cell? ⟨(ad.add (i * 6)).block, (ad.add (i * 6)).off + 5, none⟩ = some (.slice v.1 xs[i].f5.length v.2) ∧ xs[i].f5.length ≤ v.2 ∧ (Kd.int .i64).C w v.1 xs[i].f5.length xs[i].f5 := fun i => by
      by_cases hi : i < xs.length
      · obtain ⟨ad', A5, c5, e, h0, h1, h2, h3, h4, h5, hl, hi5⟩ := at_T30 h (i : Int) (by omega) (by omega)
        rw [hA] at e
        obtain rfl := Option.some.inj e
        have hx : rd_T30 xs (i : Int) = xs[i] := by unfold rd_T30; simp [List.getD, List.getElem?_eq_getElem hi]
        rw [Int.toNat_natCast] at h0 h1 h2 h3 h4 h5
        rw [hx] at h0 h1 h2 h3 h4 h5 hl hi5
        exact ⟨(A5, c5), fun _ => ⟨h0, h1, h2, h3, h4, h5, hl, hi5⟩⟩
      · exact ⟨(none, 0), fun h => absurd h hi⟩
    exact ⟨ad, fun i => (key i).choose, fun _ => hA, fun i hi => (key i).choose_spec hi⟩
theorem OpsAt.below {w w' : World} {ad : Addr} {xs : List S30} {sl : Nat → Option Addr × Nat} (h : OpsAt w ad xs sl) (hb : Below w.heap.size w w') : OpsAt w' ad xs sl := fun i hi => by
  obtain ⟨x0, x1, x2, x3, x4, x5, hl, hc⟩ := h i hi
  have hab : (ad.add (i * 6)).block < w.heap.size := World.block_lt_of_cell? _ _ x0
  exact ⟨(hb.cell (p := ad.add (i * 6)) hab).trans x0, (hb.cell (p := ⟨(ad.add (i * 6)).block, (ad.add (i * 6)).off + 1, none⟩) hab).trans x1, (hb.cell (p := ⟨(ad.add (i * 6)).block, (ad.add (i * 6)).off + 2, none⟩) hab).trans x2, (hb.cell (p := ⟨(ad.add (i * 6)).block, (ad.add (i * 6)).off + 3, none⟩) hab).trans x3,
    (hb.cell (p := ⟨(ad.add (i * 6)).block, (ad.add (i * 6)).off + 4, none⟩) hab).trans x4, (hb.cell (p := ⟨(ad.add (i * 6)).block, (ad.add (i * 6)).off + 5, none⟩) hab).trans x5, hl, Kd.C_below hc hb⟩
theorem back_in (n : Nat) (A : Option Addr) (l c : Nat) (w : World) :
    CallsIn Fence.wide n Try.prog 34 #[.slice A l c] w fun e w' => e = .returned (.func (.func 63) #[] #[.pointer (some ⟨w.heap.size, 0, none⟩)]) ∧ w' = w.alloc (.cells #[.slice A l c] 26) := by
  refine callsIn_of_wp Try.func34 rfl trivial ?_ rfl
  simp only [Try.ntmps34, List.size_toArray, List.length_cons, List.length_nil, Nat.reduceAdd, Nat.reduceSub, Array.replicate_succ, Array.replicate_zero, List.push_toArray, List.append_toArray, List.nil_append, List.cons_append]
  gi_wp2
  go_ret
  exact ⟨rfl, rfl⟩
/-- What the j-th round is handed: the index, the operation. -/
def encB (xs : List S30) (sl : Nat → Option Addr × Nat) (j : Nat) : Array Value :=
  #[.int .i64 ((xs.length - 1 - j : Nat) : Int), opV (xs.getD (xs.length - 1 - j) z30) (.slice (sl (xs.length - 1 - j)).1 (xs.getD (xs.length - 1 - j) z30).f5.length (sl (xs.length - 1 - j)).2)]
set_option maxRecDepth 100000 in
set_option maxHeartbeats 4000000 in
theorem back1_in (n : Nat) (hn : 1 ≤ n) (l Bn : Nat) (A : Option Addr) (cp : Nat) (xs : List S30) (ad : Addr) (sl : Nat → Option Addr × Nat) (hlen : xs.length < 1099511627776)
    (hA : 0 < xs.length → A = some ad) (J : List Nat → World → Prop) (hJ : ∀ pre W, J pre W → W.cell? ⟨Bn, 0, none⟩ = some (.slice A xs.length cp) ∧ OpsAt W ad xs sl)
    (hY : ∀ pre x W, J pre W → (pre.length < xs.length ∧ x = pre.length) → YieldAt Fence.wide (n - 1) Try.prog l (encB xs sl x) W fun e W' => e = .returned (.bool true) ∧ J (pre ++ [x]) W')
    (W : World) (h0 : J [] W) :
    CallsIn Fence.wide n Try.prog 63 #[.func (.yield l) #[] #[], .pointer (some ⟨Bn, 0, none⟩)] W fun e W' => (∃ v, e = .returned v) ∧ ∃ ys, ys.length = xs.length ∧ J ys W' := by
  have hb0 := (hJ _ _ h0).1
  refine callsIn_of_wp Try.func63 rfl trivial ?_ rfl
  simp only [Try.ntmps63, List.size_toArray, List.length_cons, List.length_nil, Nat.reduceAdd, Nat.reduceSub, Array.replicate_succ, Array.replicate_zero, List.push_toArray, List.append_toArray, List.nil_append, List.cons_append]
  gi_wp2
  gi_loopw [3] (fun p wr => ∃ pre : List Nat, p = .int .i64 ((xs.length : Int) - 1 - pre.length) ∧ pre.length ≤ xs.length ∧ J pre wr) (fun p _ => (intOf p + 1).toNat)
  case atStart => exact ⟨[], by simp, Nat.zero_le _, h0⟩
  case round =>
    clear h0 hb0
    obtain ⟨pre, rfl, hle, hj⟩ := hrel
    obtain ⟨hc, hO⟩ := hJ _ _ hj
    by_cases hlt : pre.length < xs.length
    · obtain ⟨i0, hi0⟩ : ∃ i0 : Nat, i0 = xs.length - 1 - pre.length := ⟨_, rfl⟩
      have hil : i0 < xs.length := by omega
      have hp : (xs.length : Int) - 1 - pre.length = (i0 : Int) := by omega
      obtain ⟨x0, x1, x2, x3, x4, x5, hl5, hi5⟩ := hO i0 hil
      obtain rfl := hA (by omega)
      obtain ⟨fn, tmps, assign, body, hy, hR⟩ := hY pre pre.length wr hj ⟨hlt, rfl⟩
      have hgd : xs.getD i0 z30 = xs[i0] := by simp [List.getD, List.getElem?_eq_getElem hil]
      unfold encB opV at hy
      rw [← hi0, hgd] at hy
      obtain ⟨y, hyx⟩ : ∃ y, y = xs[i0] := ⟨_, rfl⟩
      rw [← hyx] at hy x0 x1 x2 x3 x4 x5 hl5 hi5
      rw [hp]
      have lk0 : (0 : Int) ≤ (i0 : Int) := by omega
      have lk1 : (i0 : Int) < (xs.length : Int) := by omega
      have hst := Aside0.mk (show wrap64 ((i0 : Int) - 1) = (xs.length : Int) - 1 - (pre ++ [pre.length]).length by rw [List.length_append, List.length_singleton]; unfold wrap64; omega)
      have hle' := Aside0.mk (show (pre ++ [pre.length]).length ≤ xs.length by rw [List.length_append, List.length_singleton]; omega)
      have hms := Aside0.mk (show (i0 : Int) = (xs.length : Int) - 1 - pre.length from hp.symm)
      have hlt' := Aside0.mk hlt
      clear hi0 hil hp hgd hyx hlt hle hl5 hi5
      have hms2 := Aside0.mk (show (intOf (.int .i64 (wrap64 ((i0 : Int) - 1))) + 1).toNat < (intOf (.int .i64 (i0 : Int)) + 1).toNat by simp only [intOf]; unfold wrap64; omega)
      gi_wp2
      refine hR.mono ?_
      rintro e W3 ⟨rfl, hJ3⟩
      gi_wp2
      go_roundw
      case rel => exact ⟨pre ++ [pre.length], congrArg _ (by first | exact hst.out | (have := hst.out; rw [← this]; unfold wrap64; omega)), hle'.out, hJ3⟩
      case measure => first | exact hms2.out | (simp only [intOf]; omega)
    · have lk0 : ¬ ((0 : Int) ≤ (xs.length : Int) - 1 - pre.length) := by omega
      have he := Aside0.mk (show pre.length = xs.length by omega)
      clear hlt hle
      gi_wp2
      go_end0
      exact ⟨⟨_, rfl⟩, pre, he.out, hj⟩
end Go.Proofs.Ytmacdhkfgoahcaa.De

/- slices.Reverse laid at this program (in lay-plain's form, by hand). -/
namespace Go.Proofs
open Go.Shelf
def Try.revI_ren : Go.Shelf.Ren := ⟨fun | 112 => 36 | n => n, fun | 28 => 22 | n => n, fun | n => n⟩
theorem Try.revI : Go.Proofs.Lays.n112 Try.prog Try.revI_ren := {
  mixed := by kernel_rfl
  f112 := Try.func36.trans (congrArg some (by kernel_rfl))
  t0 := Try.underlying0
  a0 := Try.isAgg0
  z0 := Try.sizeOf0
  v0 := Try.zeroValue0
  t3 := Try.underlying3
  a3 := Try.isAgg3
  z3 := Try.sizeOf3
  v3 := Try.zeroValue3
  t4 := Try.underlying4
  a4 := Try.isAgg4
  z4 := Try.sizeOf4
  v4 := Try.zeroValue4
  t28 := Try.underlying22
  a28 := Try.isAgg22
  z28 := Try.sizeOf22
  v28 := Try.zeroValue22
}
end Go.Proofs

/- Contract: slices.Reverse over an own row of ints. -/
set_option linter.unusedVariables false
namespace Go.Proofs.Ytmacdhkfgoahcaa.De
open Go Go.RowKit Go.Sort Go.Proofs.YtmacdhkfgoahcaaW.PrintWords
theorem rev_any (v : Value) (l : List Int) (n₀ : Nat) (w : World) (h : w.ownsRow n₀ 3 1 v l.length (l.map (Value.int .i64))) :
    Calls Try.prog 36 #[v] w fun e w' => e = .returned (.tuple #[]) ∧ w'.ownsRow n₀ 3 1 v l.reverse.length (l.reverse.map (Value.int .i64)) ∧ w.grownBy w' v.ownBlock := by
  rcases h.2 with ⟨rfl, h0⟩ | ⟨g, cap, cur, rfl, hb, hg, hcap, hmax, hsz, htake⟩
  · obtain rfl : l = [] := List.length_eq_zero_iff.1 h0
    refine (Any.slices_Reverse_int_empty Try.revI none 0 w).mono ?_
    rintro e w' ⟨rfl, rfl⟩
    exact ⟨rfl, h, ⟨rfl, rfl, rfl, Nat.le_refl _, fun _ _ _ => rfl⟩⟩
  · have hc : ∀ j, (hj : j < l.length) → w.cell? ⟨g, j, none⟩ = some (.int .i64 l[j]) := fun j hj => by
      rw [blk_cell hg, ← Array.getElem?_toList]
      have := congrArg (fun z => z[j]?) htake
      simp only [Nat.mul_one, List.getElem?_take, if_pos hj, List.getElem?_map, List.getElem?_eq_getElem hj, Option.map_some] at this
      exact this
    have hH : Holds (Value.int .i64) w g 0 l.toArray := fun j hj => by
      rw [List.size_toArray] at hj
      rw [Nat.zero_add]
      refine ⟨(hc j hj).trans ?_, blk_frozen hg j⟩
      simp [hj]
    refine (Any.slices_Reverse_int Try.revI g 0 cap l w hH (by unfold maxLen at hmax; omega)).mono ?_
    rintro e w' ⟨rfl, n, rfl⟩
    have hlt := blk_lt hg
    have hh : ∀ k, (putRow (Value.int .i64) (Sort.ahead w n) g 0 l.reverse.toArray).heap[k]? = if k = g then some (.cells (putCells (Value.int .i64) 0 l.reverse.toArray cur) 3 (0, 0)) else w.heap[k]? := fun k => by
      show (w.heap.modify g (onCells (putCells (Value.int .i64) 0 l.reverse.toArray)))[k]? = _
      rw [Array.getElem?_modify]
      by_cases hk : k = g
      · subst hk; rw [if_pos rfl, if_pos rfl, hg]; rfl
      · rw [if_neg hk, if_neg (fun e => hk e.symm)]
    refine ⟨rfl, ⟨by simp, .inr ⟨g, cap, putCells (Value.int .i64) 0 l.reverse.toArray cur, by rw [List.length_reverse], hb, by rw [hh, if_pos rfl], by rw [List.length_reverse]; exact hcap, hmax, by unfold putCells; rw [Array.size_mapIdx]; exact hsz, ?_⟩⟩, ⟨rfl, rfl, rfl, ?_, fun k _ hk => ?_⟩⟩
    · refine List.ext_getElem? fun j => ?_
      rw [List.getElem?_take, List.length_reverse, Nat.mul_one]
      split
      next hj =>
        have hjc : j < cur.size := by omega
        rw [Array.getElem?_toList]
        unfold putCells
        rw [Array.getElem?_mapIdx, Array.getElem?_eq_getElem hjc, List.getElem?_map, List.getElem?_eq_getElem (by rw [List.length_reverse]; exact hj)]
        simp [hj]
      next hj => rw [List.getElem?_eq_none (by rw [List.length_map, List.length_reverse]; omega)]
    · show w.heap.size ≤ (w.heap.modify g _).size
      rw [Array.size_modify]; exact Nat.le_refl _
    · rw [hh, if_neg (fun e => hk (by rw [e]; rfl))]
end Go.Proofs.Ytmacdhkfgoahcaa.De

/- Contract: the stores that need not be (deadstore.Dead). -/
set_option linter.unusedVariables false
set_option linter.unusedSimpArgs false
namespace Go.Proofs.Ytmacdhkfgoahcaa.De
open Go Go.RowKit Go.Shelf Go.Maps Go.Proofs.Ytmacdhkfgoahcaa.Q Go.Proofs.Ytmacdhkfgoahcaa.Fo Go.Proofs.YtmacdhkfgoahcaaW.PrintWords Go.Proofs.YtmacdhkfgoahcaaW.PrintLast Go.Proofs.YtmacdhkfgoahcaaW.PrintMore
attribute [local go_sem] Oper.semAt_some
def st0 : St := ⟨0, 0, false, fun _ => false⟩
/-- Backwards over the first n operations from the end: the state, the places found (the last first). -/
def goBack (xs : List S30) : Nat → St × List Int
  | 0 => (st0, [])
  | k + 1 => let r := goBack xs k; let x := xs.getD (xs.length - 1 - k) z30
    (stepP r.1 x, if deadP r.1 x = true then r.2 ++ [((xs.length - 1 - k : Nat) : Int)] else r.2)
def deadL (xs : List S30) : List Int := (goBack xs xs.length).2.reverse
/-- The loop's state, behind k rounds: the caller's world w; block +1 the answer's box, +2 next, +3 its pointer, +4 the iterator's box; +5 and +6 the loop's own. -/
structure DI (w : World) (A : Option Addr) (c : Nat) (xs : List S30) (k : Nat) (W : World) : Prop where
  be : Below w.heap.size w W
  sz : w.heap.size + 7 ≤ W.heap.size
  bp : W.heap[w.heap.size + 3]? = some (.cells #[.pointer (some ⟨w.heap.size + 2, 0, none⟩)] 54 (0, 0))
  bb : W.heap[w.heap.size + 4]? = some (.cells #[.slice A xs.length c] 26 (0, 0))
  nx : ∃ mb : Option Nat, (∀ b, mb = some b → w.heap.size + 7 ≤ b) ∧ IsNext W (w.heap.size + 2) k (goBack xs k).1.a (goBack xs k).1.imm (goBack xs k).1.is mb (goBack xs k).1.s
  ou : ∃ v, W.heap[w.heap.size + 1]? = some (.cells #[v] 22 (0, 0)) ∧ W.ownsRow (w.heap.size + 7) 3 1 v (goBack xs k).2.length ((goBack xs k).2.map (Value.int .i64))
theorem IsNext.keep {w w' : World} {g cnt : Nat} {a imm : Int} {is : Bool} {mb : Option Nat} {s : Sn} (h : IsNext w g cnt a imm is mb s) (hg : w'.heap[g]? = w.heap[g]?) (hb : ∀ b, mb = some b → w'.heap[b]? = w.heap[b]?) : IsNext w' g cnt a imm is mb s := by
  obtain ⟨k0, k1, k3, v5, e⟩ := h.ex
  exact ⟨⟨k0, k1, k3, v5, hg.trans e⟩, h.no, fun b e => (h.yes b e).keep (hb b e)⟩
theorem DI.put {w : World} {A : Option Addr} {c : Nat} {xs : List S30} {k : Nat} {W : World} (h : DI w A c xs k W) (l : Nat) (o : Obj) (hl : l = w.heap.size + 5 ∨ l = w.heap.size + 6) : DI w A c xs k (W.putObj l o) := by
  have ho : ∀ i, i ≠ l → (W.putObj l o).heap[i]? = W.heap[i]? := fun i hi => World.putObj_heap_other hi
  obtain ⟨mb, hmb, hn⟩ := h.nx
  obtain ⟨v, hv, hr⟩ := h.ou
  refine ⟨h.be.grown (grownBy_putObj' W l o) h.be.size (fun q e => by cases e; omega), ?_, (ho _ (by omega)).trans h.bp, (ho _ (by omega)).trans h.bb, ⟨mb, hmb, hn.keep (ho _ (by omega)) (fun b e => ho b (by have := hmb b e; omega))⟩, ⟨v, (ho _ (by omega)).trans hv, own_move hr (fun q e => ho q (by have := own_base hr q e; omega))⟩⟩
  have : (W.putObj l o).heap.size = W.heap.size := by simp [World.putObj]
  rw [this]; exact h.sz
theorem DI.below {w : World} {A : Option Addr} {c : Nat} {xs : List S30} {k : Nat} {W W' : World} (h : DI w A c xs k W) (hb : Below W.heap.size W W') : DI w A c xs k W' := by
  obtain ⟨mb, hmb, hn⟩ := h.nx
  obtain ⟨v, hv, hr⟩ := h.ou
  obtain ⟨_, _, _, _, hg⟩ := hn.ex
  exact ⟨h.be.trans (hb.mono h.be.size), Nat.le_trans h.sz hb.size, (hb.block _ (blk_lt h.bp)).trans h.bp, (hb.block _ (blk_lt h.bb)).trans h.bb, ⟨mb, hmb, hn.keep (hb.block _ (blk_lt hg)) (fun b e => hb.block b (hn.yes b e).lt)⟩, ⟨v, (hb.block _ (blk_lt hv)).trans hv, own_move hr (fun q e => hb.block q (own_lt hr q e))⟩⟩
/-- Behind a step: all but the answer. -/
theorem DI.stepped {w : World} {A : Option Addr} {c : Nat} {xs : List S30} {k : Nat} {W w1 : World} (h : DI w A c xs k W) {mb mb' : Option Nat} {a imm : Int} {is : Bool} {s : Sn} (hmb : ∀ b, mb = some b → w.heap.size + 7 ≤ b) (hn : IsNext W (w.heap.size + 2) k a imm is mb s)
    (hm' : mb' = mb ∨ ∃ b, mb' = some b ∧ W.heap.size ≤ b) (hF : Frame W w1 (w.heap.size + 2) mb) {v : Value} {n : Nat} {inner : List Value} (hv : W.heap[w.heap.size + 1]? = some (.cells #[v] 22 (0, 0))) (hr : W.ownsRow (w.heap.size + 7) 3 1 v n inner) :
    Below w.heap.size w w1 ∧ w.heap.size + 7 ≤ w1.heap.size ∧ w1.heap[w.heap.size + 3]? = some (.cells #[.pointer (some ⟨w.heap.size + 2, 0, none⟩)] 54 (0, 0)) ∧ w1.heap[w.heap.size + 4]? = some (.cells #[.slice A xs.length c] 26 (0, 0)) ∧
      (∀ b, mb' = some b → w.heap.size + 7 ≤ b) ∧ w1.heap[w.heap.size + 1]? = some (.cells #[v] 22 (0, 0)) ∧ w1.ownsRow (w.heap.size + 7) 3 1 v n inner ∧ Keep2 (w.heap.size + 5) W w1 := by
  have hsz := h.sz
  have hk : ∀ q, q < w.heap.size + 7 → q ≠ w.heap.size + 2 → w1.heap[q]? = W.heap[q]? := fun q h1 h2 => hF.block q (by omega) h2 (fun e => by have := hmb q e.symm; omega)
  have hbe : Below w.heap.size W w1 := ⟨hF.os, hF.tape, hF.output, hF.size, fun q hq => hk q (by omega) (by omega)⟩
  refine ⟨h.be.trans hbe, Nat.le_trans hsz hF.size, (hk _ (by omega) (by omega)).trans h.bp, (hk _ (by omega) (by omega)).trans h.bb, ?_, (hk _ (by omega) (by omega)).trans hv, own_move hr (fun q e => hF.block q (own_lt hr q e) (by have := own_base hr q e; omega) (fun e' => ?_)), hk _ (by omega) (by omega), hk _ (by omega) (by omega)⟩
  · intro b e
    rcases hm' with rfl | ⟨b', e', h'⟩
    · exact hmb b e
    · rw [e'] at e
      injection e with e
      omega
  · obtain ⟨cells, hc⟩ := own_typed hr q e
    exact (hn.yes q e'.symm).not_cells hc rfl
theorem bn {w : World} {n : Nat} (h : w.heap.size = n) (o : Obj) : (w.alloc o).heap[n]? = some o := h ▸ blk_new w o
/-- What a round's body finds: the operation in a box of its own. -/
def DA (w : World) (A : Option Addr) (c : Nat) (xs : List S30) (t : S25) (sl : Nat → Option Addr × Nat) (j : Nat) (a' : Act) (W : World) : Prop :=
  ∃ Bx, w.heap.size + 7 ≤ Bx ∧ W.heap[Bx]? = some (.cells #[.int .i64 (xs.getD (xs.length - 1 - j) z30).f0, .int .i64 (xs.getD (xs.length - 1 - j) z30).f1, .int .i64 (xs.getD (xs.length - 1 - j) z30).f2, .int .i64 (xs.getD (xs.length - 1 - j) z30).f3, .int .i64 (xs.getD (xs.length - 1 - j) z30).f4, .slice (sl (xs.length - 1 - j)).1 (xs.getD (xs.length - 1 - j) z30).f5.length (sl (xs.length - 1 - j)).2] 30 (0, 0)) ∧
    a' = { tmps := #[.agg #[.slice A xs.length c, .int .i64 t.f0, .int .i64 t.f1, .int .i64 t.f2, .int .i64 t.f3], .pointer (some ⟨w.heap.size, 0, none⟩), .slice none 0 0, .pointer (some ⟨w.heap.size + 1, 0, none⟩), .pointer (some ⟨w.heap.size + 1 + 1 + 1, 0, none⟩), .int .i64 ((xs.length - 1 - j : Nat) : Int), .pointer (some ⟨Bx, 0, none⟩), .agg #[.int .i64 0, .int .i64 0, .int .i64 0, .int .i64 0, .int .i64 0, .slice none 0 0, .bool false, .map none], .pointer (some ⟨w.heap.size + 1 + 1, 0, none⟩), .pointer (some ⟨w.heap.size, 0, none⟩), .slice A xs.length c, .func (.func 63) #[] #[.pointer (some ⟨w.heap.size + 1 + 1 + 1 + 1, 0, none⟩)],
      .int .i64 ((xs.length - 1 - j : Nat) : Int), opV (xs.getD (xs.length - 1 - j) z30) (.slice (sl (xs.length - 1 - j)).1 (xs.getD (xs.length - 1 - j) z30).f5.length (sl (xs.length - 1 - j)).2), undef, undef, undef, undef, undef, undef, undef, undef, undef, undef], defers := [] }
theorem app_end {w w1 w2 : World} {v v' : Value} {n m : Nat} {inner inner' : List Value} {tmp : Obj} (b1 : Below w.heap.size w w1) (b2 : w.heap.size + 7 ≤ w1.heap.size) (c3 : Boxed w1 (w.heap.size + 1) 22 v) (hr : w1.ownsRow (w.heap.size + 7) 3 1 v n inner) (hgrow : (w1.alloc tmp).grownBy w2 v.ownBlock) (hown' : w2.ownsRow (w.heap.size + 7) 3 1 v' m inner') :
    Boxed w2 (w.heap.size + 1) 22 v ∧ Below w.heap.size w (w2.setCell ⟨w.heap.size + 1, 0, none⟩ v') ∧ w.heap.size + 7 ≤ (w2.setCell ⟨w.heap.size + 1, 0, none⟩ v').heap.size ∧ (∀ q, q < w1.heap.size → q ≠ w.heap.size + 1 → some q ≠ v.ownBlock → (w2.setCell ⟨w.heap.size + 1, 0, none⟩ v').heap[q]? = w1.heap[q]?) ∧
      Boxed (w2.setCell ⟨w.heap.size + 1, 0, none⟩ v') (w.heap.size + 1) 22 v' ∧ (w2.setCell ⟨w.heap.size + 1, 0, none⟩ v').ownsRow (w.heap.size + 7) 3 1 v' m inner' := by
  have hv2 : Boxed w2 (w.heap.size + 1) 22 v := (c3.alloc tmp).kept hgrow (c3.not_row (by decide) hr)
  have hz : (w1.alloc tmp).heap.size = w1.heap.size + 1 := World.size_alloc _ _
  have hs := hgrow.size
  have hk : ∀ q, q < w1.heap.size → q ≠ w.heap.size + 1 → some q ≠ v.ownBlock → (w2.setCell ⟨w.heap.size + 1, 0, none⟩ v').heap[q]? = w1.heap[q]? := fun q h1 h2 h3 => (Below.heap_setCell w2 ⟨w.heap.size + 1, 0, none⟩ v' q h2).trans ((hgrow.block q (by omega) h3).trans (Below.heap_alloc w1 tmp q h1))
  refine ⟨hv2, ?_, ?_, hk, hv2.set v', hown'.kept (grownBy_setCell' w2 _ v') (.inr (hv2.not_row (by decide) hown').symm)⟩
  · refine (((b1.alloc b1.size tmp).grown hgrow (by have := b1.size; omega) fun j ej => ?_)).setCell (p := ⟨w.heap.size + 1, 0, none⟩) (by simp) v'
    have := own_base hr j ej; omega
  · have h2 : (w2.setCell ⟨w.heap.size + 1, 0, none⟩ v').heap.size = w2.heap.size := by simp
    omega
theorem info3 : (Try.prog.info? 3).map (fun i => (i.zero, i.size, i.bytes)) = some (some (.int .i64 0), 1, 8) := by kernel_rfl
theorem goBack_len (xs : List S30) (k : Nat) : (goBack xs k).2.length ≤ k := by
  induction k with
  | zero => exact Nat.le_refl _
  | succ k ih =>
    show (if deadP (goBack xs k).1 (xs.getD (xs.length - 1 - k) z30) = true then (goBack xs k).2 ++ [((xs.length - 1 - k : Nat) : Int)] else (goBack xs k).2).length ≤ k + 1
    split
    · rw [List.length_append, List.length_singleton]; omega
    · omega
set_option maxRecDepth 100000 in
set_option maxHeartbeats 8000000 in
theorem dead_in (A : Option Addr) (c : Nat) (xs : List S30) (t : S25) (w : World) (hr : Kd.C k30 w A xs.length xs) (hw : ∀ x ∈ xs, WfOp x) (hlen : xs.length < 1099511627776) :
    CallsIn Fence.wide 5 Try.prog 10 #[.agg #[.slice A xs.length c, .int .i64 t.f0, .int .i64 t.f1, .int .i64 t.f2, .int .i64 t.f3]] w fun e w' => ∃ v, e = .returned v ∧ Kd.R (Kd.int .i64) 3 w' w.heap.size (fun _ => True) v (deadL xs) ∧ Below w.heap.size w w' := by
  obtain ⟨ad, sl, hA, hO⟩ := ops_at hr
  refine callsIn_of_wp_marks Try.func10 rfl trivial ?_ rfl
  simp only [Try.ntmps10, List.size_toArray, List.length_cons, List.length_nil, Nat.reduceAdd, Nat.reduceSub, Array.replicate_succ, Array.replicate_zero, List.push_toArray, List.append_toArray, List.nil_append, List.cons_append]
  gi_wp2_with (refine ⟨trivial, ?_⟩; gi_at_call 34; refine (back_in _ _ _ _ _).mono ?_; rintro e w' ⟨rfl, rfl⟩)
  generalize hO1 : Obj.cells #[.slice A xs.length c, .int .i64 t.f0, .int .i64 t.f1, .int .i64 t.f2, .int .i64 t.f3] 28 = O1
  have hs5 : (((((w.alloc O1).alloc (.cells #[.slice none 0 0] 22)).alloc (.cells #[.int .i64 0, .int .i64 0, .int .i64 0, .int .i64 0, .int .i64 0, .slice none 0 0, .bool false, .map none] 57)).alloc (.cells #[.pointer (some ⟨w.heap.size + 1 + 1, 0, none⟩)] 54)).alloc (.cells #[.slice A xs.length c] 26)).heap.size = w.heap.size + 5 := by simp only [World.size_alloc]
  have g1 : (((((w.alloc O1).alloc (.cells #[.slice none 0 0] 22)).alloc (.cells #[.int .i64 0, .int .i64 0, .int .i64 0, .int .i64 0, .int .i64 0, .slice none 0 0, .bool false, .map none] 57)).alloc (.cells #[.pointer (some ⟨w.heap.size + 1 + 1, 0, none⟩)] 54)).alloc (.cells #[.slice A xs.length c] 26)).heap[w.heap.size + 1]? = some (.cells #[.slice none 0 0] 22 (0, 0)) := blk_alloc (blk_alloc (blk_alloc (bn (World.size_alloc w O1) _) _) _) _
  have g2 : (((((w.alloc O1).alloc (.cells #[.slice none 0 0] 22)).alloc (.cells #[.int .i64 0, .int .i64 0, .int .i64 0, .int .i64 0, .int .i64 0, .slice none 0 0, .bool false, .map none] 57)).alloc (.cells #[.pointer (some ⟨w.heap.size + 1 + 1, 0, none⟩)] 54)).alloc (.cells #[.slice A xs.length c] 26)).heap[w.heap.size + 2]? = some (.cells #[.int .i64 0, .int .i64 0, .int .i64 0, .int .i64 0, .int .i64 0, .slice none 0 0, .bool false, .map none] 57 (0, 0)) := blk_alloc (blk_alloc (bn (by simp only [World.size_alloc]) _) _) _
  have g3 : (((((w.alloc O1).alloc (.cells #[.slice none 0 0] 22)).alloc (.cells #[.int .i64 0, .int .i64 0, .int .i64 0, .int .i64 0, .int .i64 0, .slice none 0 0, .bool false, .map none] 57)).alloc (.cells #[.pointer (some ⟨w.heap.size + 1 + 1, 0, none⟩)] 54)).alloc (.cells #[.slice A xs.length c] 26)).heap[w.heap.size + 3]? = some (.cells #[.pointer (some ⟨w.heap.size + 1 + 1, 0, none⟩)] 54 (0, 0)) := blk_alloc (bn (by simp only [World.size_alloc]) _) _
  have g4 : (((((w.alloc O1).alloc (.cells #[.slice none 0 0] 22)).alloc (.cells #[.int .i64 0, .int .i64 0, .int .i64 0, .int .i64 0, .int .i64 0, .slice none 0 0, .bool false, .map none] 57)).alloc (.cells #[.pointer (some ⟨w.heap.size + 1 + 1, 0, none⟩)] 54)).alloc (.cells #[.slice A xs.length c] 26)).heap[w.heap.size + 4]? = some (.cells #[.slice A xs.length c] 26 (0, 0)) := bn (by simp only [World.size_alloc]) _
  have hB0 : Below w.heap.size w (((((w.alloc O1).alloc (.cells #[.slice none 0 0] 22)).alloc (.cells #[.int .i64 0, .int .i64 0, .int .i64 0, .int .i64 0, .int .i64 0, .slice none 0 0, .bool false, .map none] 57)).alloc (.cells #[.pointer (some ⟨w.heap.size + 1 + 1, 0, none⟩)] 54)).alloc (.cells #[.slice A xs.length c] 26)) := (((((Below.refl _ w).alloc (Nat.le_refl _) _).alloc (by simp) _).alloc (by simp; omega) _).alloc (by simp; omega) _).alloc (by simp; omega) _
  generalize (((((w.alloc O1).alloc (.cells #[.slice none 0 0] 22)).alloc (.cells #[.int .i64 0, .int .i64 0, .int .i64 0, .int .i64 0, .int .i64 0, .slice none 0 0, .bool false, .map none] 57)).alloc (.cells #[.pointer (some ⟨w.heap.size + 1 + 1, 0, none⟩)] 54)).alloc (.cells #[.slice A xs.length c] 26)) = W0 at *
  refine range_book (encs := encB xs sl) rfl (by decide) (gf := 63) (lb := #[.pointer (some ⟨w.heap.size + 1 + 1 + 1 + 1, 0, none⟩)]) rfl trivial (enters_of Try.func63 (by kernel_rfl) rfl) (fun _ => rfl)
    (fun pre W => DI w A c xs pre.length W) (DA w A c xs t sl) (fun ys => ys.length = xs.length) (fun pre j => pre.length < xs.length ∧ j = pre.length) ?hI ?hA ?h0 ?hiter ?hassign ?hbody ?hdone
  case hI => exact fun pre W l o hl h => h.put l o (by rw [hs5] at hl; omega)
  case hiter =>
    intro l J hJI hY W hJ
    exact back1_in _ (by decide) l (w.heap.size + 4) A c xs ad sl hlen hA J (fun pre W h => ⟨(blk_cell (hJI _ _ h).bb 0).trans rfl, hO.below (hJI _ _ h).be⟩) hY W hJ
  case hA =>
    rintro j a' W l o hl ⟨Bx, h1, h2, h3⟩
    exact ⟨Bx, h1, (World.putObj_heap_other (by omega)).trans h2, h3⟩
  case h0 =>
    intro o o'
    have hz : ((W0.alloc o).alloc o').heap.size = w.heap.size + 7 := by simp only [World.size_alloc, hs5]
    exact ⟨(hB0.alloc hB0.size _).alloc (by rw [World.size_alloc]; have := hB0.size; omega) _, by rw [hz]; exact Nat.le_refl _, blk_alloc (blk_alloc g3 _) _, blk_alloc (blk_alloc g4 _) _, ⟨none, fun b e => (by cases e), ⟨⟨_, _, _, _, blk_alloc (blk_alloc g2 _) _⟩, fun _ => rfl, fun b e => (by cases e)⟩⟩, ⟨.slice none 0 0, blk_alloc (blk_alloc g1 _) _, World.ownsRow_nil _ _ _ _⟩⟩
  case hassign =>
    rintro l pre j W hD ⟨hlt, rfl⟩
    unfold encB opV
    gi_wp2
    have hb := (Below.refl W.heap.size W).alloc (Nat.le_refl _) (.cells #[.int .i64 (xs.getD (xs.length - 1 - pre.length) z30).f0, .int .i64 (xs.getD (xs.length - 1 - pre.length) z30).f1, .int .i64 (xs.getD (xs.length - 1 - pre.length) z30).f2, .int .i64 (xs.getD (xs.length - 1 - pre.length) z30).f3, .int .i64 (xs.getD (xs.length - 1 - pre.length) z30).f4, .slice (sl (xs.length - 1 - pre.length)).1 (xs.getD (xs.length - 1 - pre.length) z30).f5.length (sl (xs.length - 1 - pre.length)).2] 30)
    have hsz := hD.sz
    exact ⟨⟨hb.block _ (by omega), hb.block _ (by omega)⟩, hD.below hb, W.heap.size, hsz, blk_new W _, rfl⟩
  case hbody =>
    rintro l pre j a' W hD ⟨Bx, hBx, hX, rfl⟩ ⟨hlt, rfl⟩
    obtain ⟨mb, hmb, hn⟩ := hD.nx
    obtain ⟨v, hv, hrow⟩ := hD.ou
    obtain ⟨i0, hi0⟩ : ∃ i0, i0 = xs.length - 1 - pre.length := ⟨_, rfl⟩
    have hil : i0 < xs.length := by omega
    have hgd : xs.getD i0 z30 = xs[i0] := by simp [List.getD, List.getElem?_eq_getElem hil]
    obtain ⟨_, _, _, _, _, _, hl5, hi5⟩ := (hO.below hD.be) i0 hil
    have hxw := hw xs[i0] (List.getElem_mem hil)
    have hg1 : goBack xs (pre.length + 1) = (stepP (goBack xs pre.length).1 xs[i0], if deadP (goBack xs pre.length).1 xs[i0] = true then (goBack xs pre.length).2 ++ [(i0 : Int)] else (goBack xs pre.length).2) := by
      show (stepP (goBack xs pre.length).1 (xs.getD (xs.length - 1 - pre.length) z30), if deadP (goBack xs pre.length).1 (xs.getD (xs.length - 1 - pre.length) z30) = true then (goBack xs pre.length).2 ++ [((xs.length - 1 - pre.length : Nat) : Int)] else (goBack xs pre.length).2) = _
      rw [← hi0, hgd]
    rw [← hi0, hgd] at hX
    rw [← hi0, hgd]
    obtain ⟨x, hx⟩ : ∃ x, x = xs[i0] := ⟨_, rfl⟩
    rw [← hx] at hX hl5 hi5 hxw hg1 ⊢
    have hS := step_any (w.heap.size + 2) pre.length (goBack xs pre.length).1 mb x (sl i0).1 (sl i0).2 hxw W hn hi5 hl5 (by unfold maxLen; omega)
    unfold opV at hS ⊢
    have p0 : W.cell? ⟨w.heap.size + 1 + 1 + 1, 0, none⟩ = some (.pointer (some ⟨w.heap.size + 2, 0, none⟩)) := (blk_cell hD.bp 0).trans rfl
    have x0 : W.cell? ⟨Bx, 0, none⟩ = some (.int .i64 x.f0) := (blk_cell hX 0).trans rfl
    have x1 : W.cell? ⟨Bx, 1, none⟩ = some (.int .i64 x.f1) := (blk_cell hX 1).trans rfl
    have x2 : W.cell? ⟨Bx, 2, none⟩ = some (.int .i64 x.f2) := (blk_cell hX 2).trans rfl
    have x3 : W.cell? ⟨Bx, 3, none⟩ = some (.int .i64 x.f3) := (blk_cell hX 3).trans rfl
    have x4 : W.cell? ⟨Bx, 4, none⟩ = some (.int .i64 x.f4) := (blk_cell hX 4).trans rfl
    have x5 : W.cell? ⟨Bx, 5, none⟩ = some (.slice (sl i0).1 x.f5.length (sl i0).2) := (blk_cell hX 5).trans rfl
    replace hs5 := Aside0.mk hs5
    replace hD := Aside0.mk hD
    replace hn := Aside0.mk hn
    replace hv := Aside0.mk hv
    replace hrow := Aside0.mk hrow
    replace hX := Aside0.mk hX
    replace hg1 := Aside0.mk hg1
    replace hmb := Aside0.mk hmb
    clear hgd hi0 hx hr hw hO hl5 hi5 hxw g1 g2 g3 g4 hB0
    rcases Bool.eq_false_or_eq_true (deadP (goBack xs pre.length).1 x) with hd | hd
    · rw [hd] at hS
      have hd' := Aside0.mk hd
      clear hd
      have hml := Aside0.mk (show (goBack xs pre.length).2.length + 1 ≤ 1099511627776 by have := goBack_len xs pre.length; omega)
      obtain ⟨i3, hi, hz0, hz1, hz2⟩ := info_parts info3
      gi_wp2
      refine ⟨trivial, ?_⟩
      gi_at_call 35
      refine (CallsIn.inRound l (callsIn_wide.2 hS)).mono ?_
      rintro e w1 ⟨rfl, mb', hm', hn', hF⟩
      have hST := Aside0.mk (hD.out.stepped hmb.out hn.out hm' hF hv.out hrow.out)
      have c3 : Boxed w1 (w.heap.size + 1) 22 v := hST.out.2.2.2.2.2.1
      have d3 := c3.cell
      gi_wp2_with (gi_at_builtin; refine wpListIn_append_own _ rfl _ _ 22 rfl (w.heap.size + 7) 3 i3 (.int .i64 0) 1 8 Try.underlying22 hi hz0 hz1 hz2 rfl (by decide) _ _ _ rfl (hST.out.2.2.2.2.2.2.1.alloc _) ⟨w1.heap.size, 0, none⟩ 1 1 [.int .i64 (i0 : Int)] rfl rfl (cell_one_new _ _ _) (by simp [Value.oneCell']) (by have := hml.out; unfold maxLen; omega) (by have := hml.out; omega) (by have := hST.out.2.1; simp; omega) ?_; intro v' w2 hown' hgrow _; obtain ⟨g', cap', rfl⟩ := ownsRow_succ hown'; have hAE := Aside0.mk (app_end hST.out.1 hST.out.2.1 c3 hST.out.2.2.2.2.2.2.1 hgrow hown'); have hc1 := hAE.out.1.cell; have hf1 := hAE.out.1.frozen)
      obtain ⟨b1, b2, b3, b4, b5, b6, b7, b8⟩ := hST.out
      obtain ⟨_, e1, e2, e3, e4, e5⟩ := hAE.out
      have hfar : ∀ q, q < w.heap.size + 7 → some q ≠ v.ownBlock := fun q hq e => by have := own_base b7 q e.symm; omega
      have hz1 := hs5.out
      refine ⟨⟨?_, ?_⟩, ⟨e1, e2, (e3 _ (by omega) (by omega) (hfar _ (by omega))).trans b3, (e3 _ (by omega) (by omega) (hfar _ (by omega))).trans b4, ⟨mb', b5, ?_⟩, ⟨_, e4, ?_⟩⟩⟩
      · rw [hz1]; exact (e3 _ (by omega) (by omega) (hfar _ (by omega))).trans b8.1
      · rw [hz1]; exact (e3 _ (by omega) (by omega) (hfar _ (by omega))).trans b8.2
      · rw [hg1.out]
        refine hn'.keep (e3 _ (by omega) (by omega) (hfar _ (by omega))) (fun b e => e3 b (hn'.yes b e).lt (by have := b5 b e; omega) (fun e' => ?_))
        obtain ⟨cells, hc⟩ := own_typed b7 b e'.symm
        exact (hn'.yes b e).not_cells hc rfl
      · rw [hg1.out]; dsimp only; rw [if_pos (by rw [hd'.out])]
        simpa using e5
    · rw [hd] at hS
      have hd' := Aside0.mk hd
      clear hd
      gi_wp2_with (refine ⟨trivial, ?_⟩; gi_at_call 35; refine (CallsIn.inRound l (callsIn_wide.2 hS)).mono ?_; rintro e w1 ⟨rfl, mb', hm', hn', hF⟩)
      obtain ⟨b1, b2, b3, b4, b5, b6, b7, b8⟩ := hD.out.stepped hmb.out hn.out hm' hF hv.out hrow.out
      refine ⟨by rw [hs5.out]; exact b8, ⟨b1, b2, b3, b4, ⟨mb', b5, ?_⟩, ⟨v, b6, ?_⟩⟩⟩
      · rw [hg1.out]; exact hn'
      · rw [hg1.out]; dsimp only; rw [if_neg (by rw [hd'.out]; decide)]; exact b7
  case hdone =>
    intro ys W hys hD hK
    obtain ⟨v, hv, hrow⟩ := hD.ou
    rw [hys] at hrow
    have c3 : Boxed W (w.heap.size + 1) 22 v := hv
    have d3 := c3.cell
    obtain ⟨vA, vc, rfl⟩ := own_slice hrow
    have hR := rev_any _ (goBack xs xs.length).2 (w.heap.size + 7) W hrow
    have hbe := Aside0.mk hD.be
    have hsz := Aside0.mk hD.sz
    have hrow' := Aside0.mk hrow
    have c3' := Aside0.mk c3
    have hK' := Aside0.mk hK
    replace hs5 := Aside0.mk hs5
    clear hD hrow hv c3 hK hr hw hO g1 g2 g3 g4 hB0
    gi_wp2_with (refine ⟨trivial, ?_⟩; gi_at_call 36; refine (callsIn_wide.2 hR).mono ?_; rintro e w9 ⟨rfl, hr9, hg9⟩; have c9 : Boxed w9 (w.heap.size + 1) 22 _ := c3'.out.kept hg9 (c3'.out.not_row (by decide) hrow'.out); have d9 := c9.cell)
    have hz5 := hs5.out
    have hz7 := hsz.out
    have hK9 : w9.heap[W0.heap.size]? = some (.deferred (some [])) := (hg9.block _ (by omega) (fun e => by have := own_base hrow'.out _ e.symm; omega)).trans hK'.out
    refine ⟨by simp, .inl ⟨_, _, rfl, run_takeDeferred hK9, ?_⟩⟩
    have hr10 := own_move (w1 := w9.putObj W0.heap.size (.deferred none)) hr9 (fun q e => World.putObj_heap_other (by have := own_base hr9 q e; omega))
    have hRR : Kd.R (Kd.int .i64) 3 (w9.putObj W0.heap.size (.deferred none)) w.heap.size (fun _ => True) (.slice vA (goBack xs xs.length).2.length vc) (deadL xs) := ⟨fun _ _ => trivial, _, own_weaken hr10 (by omega), reps_ints (fun x cs => cs = [.int .i64 x]) (fun _ => rfl) _⟩
    refine ⟨.slice vA (goBack xs xs.length).2.length vc, by simp [results, Try.results10, go_sem], _, rfl, hRR,
      (hbe.out.grown hg9 hbe.out.size (fun q e => by have := own_base hrow'.out q e; omega)).grown (grownBy_putObj' _ _ _) (Nat.le_trans hbe.out.size hg9.size) (fun q e => by cases e; omega)⟩
/-- Which stores need not be. -/
theorem dead_any (A : Option Addr) (c : Nat) (xs : List S30) (t : S25) (w : World) (hr : Kd.C k30 w A xs.length xs) (hw : ∀ x ∈ xs, WfOp x) (hlen : xs.length < 1099511627776) :
    Calls Try.prog 10 #[.agg #[.slice A xs.length c, .int .i64 t.f0, .int .i64 t.f1, .int .i64 t.f2, .int .i64 t.f3]] w fun e w' => ∃ v, e = .returned v ∧ Kd.R (Kd.int .i64) 3 w' w.heap.size (fun _ => True) v (deadL xs) ∧ Below w.heap.size w w' := callsIn_wide.1 (dead_in A c xs t w hr hw hlen)
end Go.Proofs.Ytmacdhkfgoahcaa.De

