-- Written by a program of this work (wip/tools/mp.py), not by print.sh.
import Derived.Test.YtpjoajoacakpgaaQx0
import Derived.Test.YtpjoajoacakpgaaQx2
import Derived.Test.YtpjoajoacakpgaaQx3
namespace Go.Proofs.Ytpjoajoacakpgaa.Q
open Go.RowKit Go.Proofs.YtpjoajoacakpgaaW.PrintWords Go.Proofs.YtpjoajoacakpgaaW.PrintLast Go.Proofs.YtpjoajoacakpgaaW.PrintMore
attribute [local go_sem] max2_int min2_int max_two min_two max_three min_three max_four min_four   -- for this text's walks alone
set_option linter.unusedVariables false
set_option linter.unusedSimpArgs false

/-! ### swageref09_Lex: function 11 -/
mutual
def swageref09_Lex.l0 : Nat → ByteArray → List (S30) → Int → Option ((List (S30)) × Int × Int)
  | 0, _, _, _ => none
  | k + 1, x0, x5, x6 => if x6 < (x0.size : Int) then (if 0 ≤ x6 then ((swageref09_blank.f (bt x0 x6)).bind fun t130 => (if t130 = true then (swageref09_Lex.l0 k x0 x5 (wrap64 (x6 + 1))) else (if (bt x0 x6) = 47 then (if (wrap64 (x6 + 1)) < (x0.size : Int) then (if 0 ≤ (wrap64 (x6 + 1)) then (swageref09_Lex.j1 k x0 x5 x6 ((bt x0 (wrap64 (x6 + 1))) == 47)) else (none)) else (swageref09_Lex.j1 k x0 x5 x6 false)) else (swageref09_Lex.j1 k x0 x5 x6 false)))) else (none)) else (some (x5, (x0.size : Int), 0))
def swageref09_Lex.j1 : Nat → ByteArray → List (S30) → Int → Bool → Option ((List (S30)) × Int × Int)
  | 0, _, _, _, _ => none
  | k + 1, x0, x5, x6, x41 => if x41 = true then (swageref09_Lex.l1 k x0 x5 x6) else (if 0 ≤ x6 then (if x6 < (x0.size : Int) then ((swageref09_letter.f (bt x0 x6)).bind fun t131 => (if t131 = true then (swageref09_Lex.l2 k x0 x5 x6 x6 1) else ((swageref09_digit.f (bt x0 x6)).bind fun t140 => (if t140 = true then (swageref09_Lex.l3 k x0 x5 x6 x6 2) else (if (wrap64 (x6 + 1)) < (x0.size : Int) then (if x6 ≤ (wrap64 (x6 + 2)) then (if (wrap64 (x6 + 2)) ≤ (x0.size : Int) then ((swageref09_Sign.f k (x0.extract (x6 : Int).toNat ((wrap64 (x6 + 2)) : Int).toNat)).bind fun t151 => (swageref09_Lex.j6 k x0 x5 x6 3 t151)) else (none)) else (none)) else (swageref09_Lex.j6 k x0 x5 x6 3 false)))))) else (none)) else (none))
def swageref09_Lex.l1 : Nat → ByteArray → List (S30) → Int → Option ((List (S30)) × Int × Int)
  | 0, _, _, _ => none
  | k + 1, x0, x5, x6 => if x6 < (x0.size : Int) then (if 0 ≤ x6 then (if (bt x0 x6) = 10 then (swageref09_Lex.l0 k x0 x5 x6) else (swageref09_Lex.l1 k x0 x5 (wrap64 (x6 + 1)))) else (none)) else (swageref09_Lex.l0 k x0 x5 x6)
def swageref09_Lex.l2 : Nat → ByteArray → List (S30) → Int → Int → Int → Option ((List (S30)) × Int × Int)
  | 0, _, _, _, _, _ => none
  | k + 1, x0, x5, x6, x7, x8 => if x7 < (x0.size : Int) then (if 0 ≤ x7 then ((swageref09_letter.f (bt x0 x7)).bind fun t132 => (if t132 = true then (swageref09_Lex.l2 k x0 x5 x6 (wrap64 (x7 + 1)) x8) else ((swageref09_digit.f (bt x0 x7)).bind fun t133 => (if t133 = true then (swageref09_Lex.l2 k x0 x5 x6 (wrap64 (x7 + 1)) x8) else (if 0 ≤ x6 then (if x6 ≤ x7 then (if x7 ≤ (x0.size : Int) then (if x5.length < 4398046511104 then (swageref09_Lex.l0 k x0 (x5 ++ [(⟨x8, x0.extract (x6 : Int).toNat (x7 : Int).toNat, x6⟩ : S30)]) x7) else (none)) else (none)) else (none)) else (none)))))) else (none)) else (if 0 ≤ x6 then (if x6 ≤ x7 then (if x7 ≤ (x0.size : Int) then (if x5.length < 4398046511104 then (swageref09_Lex.l0 k x0 (x5 ++ [(⟨x8, x0.extract (x6 : Int).toNat (x7 : Int).toNat, x6⟩ : S30)]) x7) else (none)) else (none)) else (none)) else (none))
def swageref09_Lex.j5 : Nat → ByteArray → List (S30) → Int → Int → Int → Option ((List (S30)) × Int × Int)
  | 0, _, _, _, _, _ => none
  | k + 1, x0, x5, x6, x7, x8 => if 0 ≤ x6 then (if x6 ≤ x7 then (if x7 ≤ (x0.size : Int) then ((swageref09_Number.f k (x0.extract (x6 : Int).toNat (x7 : Int).toNat)).bind fun bt142 => (if bt142.2 = true then (if x7 < (x0.size : Int) then (if 0 ≤ x7 then ((swageref09_letter.f (bt x0 x7)).bind fun t144 => (if t144 = true then (some (([] : List (S30)), x6, 2)) else (if x5.length < 4398046511104 then (swageref09_Lex.l0 k x0 (x5 ++ [(⟨x8, x0.extract (x6 : Int).toNat (x7 : Int).toNat, x6⟩ : S30)]) x7) else (none)))) else (none)) else (if x5.length < 4398046511104 then (swageref09_Lex.l0 k x0 (x5 ++ [(⟨x8, x0.extract (x6 : Int).toNat (x7 : Int).toNat, x6⟩ : S30)]) x7) else (none))) else (some (([] : List (S30)), x6, 2)))) else (none)) else (none)) else (none)
def swageref09_Lex.l3 : Nat → ByteArray → List (S30) → Int → Int → Int → Option ((List (S30)) × Int × Int)
  | 0, _, _, _, _, _ => none
  | k + 1, x0, x5, x6, x7, x8 => if x7 < (x0.size : Int) then (if 0 ≤ x7 then ((swageref09_digit.f (bt x0 x7)).bind fun t141 => (if t141 = true then (swageref09_Lex.l3 k x0 x5 x6 (wrap64 (x7 + 1)) x8) else (swageref09_Lex.j5 k x0 x5 x6 x7 x8))) else (none)) else (swageref09_Lex.j5 k x0 x5 x6 x7 x8)
def swageref09_Lex.j6 : Nat → ByteArray → List (S30) → Int → Int → Bool → Option ((List (S30)) × Int × Int)
  | 0, _, _, _, _, _ => none
  | k + 1, x0, x5, x6, x8, x128 => if x128 = true then (if 0 ≤ x6 then (if x6 ≤ (wrap64 (x6 + 2)) then (if (wrap64 (x6 + 2)) ≤ (x0.size : Int) then (if x5.length < 4398046511104 then (swageref09_Lex.l0 k x0 (x5 ++ [(⟨x8, x0.extract (x6 : Int).toNat ((wrap64 (x6 + 2)) : Int).toNat, x6⟩ : S30)]) (wrap64 (x6 + 2))) else (none)) else (none)) else (none)) else (none)) else (if 0 ≤ x6 then (if x6 ≤ (wrap64 (x6 + 1)) then (if (wrap64 (x6 + 1)) ≤ (x0.size : Int) then ((swageref09_Sign.f k (x0.extract (x6 : Int).toNat ((wrap64 (x6 + 1)) : Int).toNat)).bind fun t155 => (if t155 = true then (if x5.length < 4398046511104 then (swageref09_Lex.l0 k x0 (x5 ++ [(⟨x8, x0.extract (x6 : Int).toNat ((wrap64 (x6 + 1)) : Int).toNat, x6⟩ : S30)]) (wrap64 (x6 + 1))) else (none)) else (some (([] : List (S30)), x6, 2)))) else (none)) else (none)) else (none))
end
def swageref09_Lex.f (k : Nat) (a0 : ByteArray) : Option ((List (S30)) × Int × Int) := if (a0.size : Int) > 65536 then (some (([] : List (S30)), 65536, 5)) else (swageref09_Lex.l0 k a0 ([] : List (S30)) 0)
theorem swageref09_Lex.mono_l : ∀ k, (∀ y0 y1 y2, LeO (swageref09_Lex.l0 k y0 y1 y2) (swageref09_Lex.l0 (k + 1) y0 y1 y2)) ∧ (∀ y0 y1 y2 y3, LeO (swageref09_Lex.j1 k y0 y1 y2 y3) (swageref09_Lex.j1 (k + 1) y0 y1 y2 y3)) ∧ (∀ y0 y1 y2, LeO (swageref09_Lex.l1 k y0 y1 y2) (swageref09_Lex.l1 (k + 1) y0 y1 y2)) ∧ (∀ y0 y1 y2 y3 y4, LeO (swageref09_Lex.l2 k y0 y1 y2 y3 y4) (swageref09_Lex.l2 (k + 1) y0 y1 y2 y3 y4)) ∧ (∀ y0 y1 y2 y3 y4, LeO (swageref09_Lex.j5 k y0 y1 y2 y3 y4) (swageref09_Lex.j5 (k + 1) y0 y1 y2 y3 y4)) ∧ (∀ y0 y1 y2 y3 y4, LeO (swageref09_Lex.l3 k y0 y1 y2 y3 y4) (swageref09_Lex.l3 (k + 1) y0 y1 y2 y3 y4)) ∧ (∀ y0 y1 y2 y3 y4, LeO (swageref09_Lex.j6 k y0 y1 y2 y3 y4) (swageref09_Lex.j6 (k + 1) y0 y1 y2 y3 y4))
  | 0 => ⟨fun _ _ _ r h => by simp [swageref09_Lex.l0] at h, fun _ _ _ _ r h => by simp [swageref09_Lex.j1] at h, fun _ _ _ r h => by simp [swageref09_Lex.l1] at h, fun _ _ _ _ _ r h => by simp [swageref09_Lex.l2] at h, fun _ _ _ _ _ r h => by simp [swageref09_Lex.j5] at h, fun _ _ _ _ _ r h => by simp [swageref09_Lex.l3] at h, fun _ _ _ _ _ r h => by simp [swageref09_Lex.j6] at h⟩
  | k + 1 => by
    obtain ⟨ih0, ih1, ih2, ih3, ih4, ih5, ih6⟩ := swageref09_Lex.mono_l k
    refine ⟨?_, ?_, ?_, ?_, ?_, ?_, ?_⟩
    · intro y0 y1 y2
      unfold swageref09_Lex.l0
      repeat' first
      | (with_reducible exact ih0 _ _ _)
      | (with_reducible exact ih1 _ _ _ _)
      | (with_reducible exact ih2 _ _ _)
      | (with_reducible exact ih3 _ _ _ _ _)
      | (with_reducible exact ih4 _ _ _ _ _)
      | (with_reducible exact ih5 _ _ _ _ _)
      | (with_reducible exact ih6 _ _ _ _ _)
      | (with_reducible exact swageref09_Number.mono _ _)
      | (with_reducible exact swageref09_Sign.mono _ _)
      | (with_reducible exact LeO.refl _)
      | (with_reducible exact LeO.none _)
      | (with_reducible refine LeO.ite ?_ ?_)
      | (with_reducible refine LeO.bind ?_ (fun _ => ?_))
      | exact ih0 _ _ _
      | exact ih1 _ _ _ _
      | exact ih2 _ _ _
      | exact ih3 _ _ _ _ _
      | exact ih4 _ _ _ _ _
      | exact ih5 _ _ _ _ _
      | exact ih6 _ _ _ _ _
      | exact swageref09_Number.mono _ _
      | exact swageref09_Sign.mono _ _
      | exact LeO.none _
      | refine LeO.ite ?_ ?_
      | refine LeO.bind ?_ (fun _ => ?_)
    · intro y0 y1 y2 y3
      unfold swageref09_Lex.j1
      repeat' first
      | (with_reducible exact ih0 _ _ _)
      | (with_reducible exact ih1 _ _ _ _)
      | (with_reducible exact ih2 _ _ _)
      | (with_reducible exact ih3 _ _ _ _ _)
      | (with_reducible exact ih4 _ _ _ _ _)
      | (with_reducible exact ih5 _ _ _ _ _)
      | (with_reducible exact ih6 _ _ _ _ _)
      | (with_reducible exact swageref09_Number.mono _ _)
      | (with_reducible exact swageref09_Sign.mono _ _)
      | (with_reducible exact LeO.refl _)
      | (with_reducible exact LeO.none _)
      | (with_reducible refine LeO.ite ?_ ?_)
      | (with_reducible refine LeO.bind ?_ (fun _ => ?_))
      | exact ih0 _ _ _
      | exact ih1 _ _ _ _
      | exact ih2 _ _ _
      | exact ih3 _ _ _ _ _
      | exact ih4 _ _ _ _ _
      | exact ih5 _ _ _ _ _
      | exact ih6 _ _ _ _ _
      | exact swageref09_Number.mono _ _
      | exact swageref09_Sign.mono _ _
      | exact LeO.none _
      | refine LeO.ite ?_ ?_
      | refine LeO.bind ?_ (fun _ => ?_)
    · intro y0 y1 y2
      unfold swageref09_Lex.l1
      repeat' first
      | (with_reducible exact ih0 _ _ _)
      | (with_reducible exact ih1 _ _ _ _)
      | (with_reducible exact ih2 _ _ _)
      | (with_reducible exact ih3 _ _ _ _ _)
      | (with_reducible exact ih4 _ _ _ _ _)
      | (with_reducible exact ih5 _ _ _ _ _)
      | (with_reducible exact ih6 _ _ _ _ _)
      | (with_reducible exact swageref09_Number.mono _ _)
      | (with_reducible exact swageref09_Sign.mono _ _)
      | (with_reducible exact LeO.refl _)
      | (with_reducible exact LeO.none _)
      | (with_reducible refine LeO.ite ?_ ?_)
      | (with_reducible refine LeO.bind ?_ (fun _ => ?_))
      | exact ih0 _ _ _
      | exact ih1 _ _ _ _
      | exact ih2 _ _ _
      | exact ih3 _ _ _ _ _
      | exact ih4 _ _ _ _ _
      | exact ih5 _ _ _ _ _
      | exact ih6 _ _ _ _ _
      | exact swageref09_Number.mono _ _
      | exact swageref09_Sign.mono _ _
      | exact LeO.none _
      | refine LeO.ite ?_ ?_
      | refine LeO.bind ?_ (fun _ => ?_)
    · intro y0 y1 y2 y3 y4
      unfold swageref09_Lex.l2
      repeat' first
      | (with_reducible exact ih0 _ _ _)
      | (with_reducible exact ih1 _ _ _ _)
      | (with_reducible exact ih2 _ _ _)
      | (with_reducible exact ih3 _ _ _ _ _)
      | (with_reducible exact ih4 _ _ _ _ _)
      | (with_reducible exact ih5 _ _ _ _ _)
      | (with_reducible exact ih6 _ _ _ _ _)
      | (with_reducible exact swageref09_Number.mono _ _)
      | (with_reducible exact swageref09_Sign.mono _ _)
      | (with_reducible exact LeO.refl _)
      | (with_reducible exact LeO.none _)
      | (with_reducible refine LeO.ite ?_ ?_)
      | (with_reducible refine LeO.bind ?_ (fun _ => ?_))
      | exact ih0 _ _ _
      | exact ih1 _ _ _ _
      | exact ih2 _ _ _
      | exact ih3 _ _ _ _ _
      | exact ih4 _ _ _ _ _
      | exact ih5 _ _ _ _ _
      | exact ih6 _ _ _ _ _
      | exact swageref09_Number.mono _ _
      | exact swageref09_Sign.mono _ _
      | exact LeO.none _
      | refine LeO.ite ?_ ?_
      | refine LeO.bind ?_ (fun _ => ?_)
    · intro y0 y1 y2 y3 y4
      unfold swageref09_Lex.j5
      repeat' first
      | (with_reducible exact ih0 _ _ _)
      | (with_reducible exact ih1 _ _ _ _)
      | (with_reducible exact ih2 _ _ _)
      | (with_reducible exact ih3 _ _ _ _ _)
      | (with_reducible exact ih4 _ _ _ _ _)
      | (with_reducible exact ih5 _ _ _ _ _)
      | (with_reducible exact ih6 _ _ _ _ _)
      | (with_reducible exact swageref09_Number.mono _ _)
      | (with_reducible exact swageref09_Sign.mono _ _)
      | (with_reducible exact LeO.refl _)
      | (with_reducible exact LeO.none _)
      | (with_reducible refine LeO.ite ?_ ?_)
      | (with_reducible refine LeO.bind ?_ (fun _ => ?_))
      | exact ih0 _ _ _
      | exact ih1 _ _ _ _
      | exact ih2 _ _ _
      | exact ih3 _ _ _ _ _
      | exact ih4 _ _ _ _ _
      | exact ih5 _ _ _ _ _
      | exact ih6 _ _ _ _ _
      | exact swageref09_Number.mono _ _
      | exact swageref09_Sign.mono _ _
      | exact LeO.none _
      | refine LeO.ite ?_ ?_
      | refine LeO.bind ?_ (fun _ => ?_)
    · intro y0 y1 y2 y3 y4
      unfold swageref09_Lex.l3
      repeat' first
      | (with_reducible exact ih0 _ _ _)
      | (with_reducible exact ih1 _ _ _ _)
      | (with_reducible exact ih2 _ _ _)
      | (with_reducible exact ih3 _ _ _ _ _)
      | (with_reducible exact ih4 _ _ _ _ _)
      | (with_reducible exact ih5 _ _ _ _ _)
      | (with_reducible exact ih6 _ _ _ _ _)
      | (with_reducible exact swageref09_Number.mono _ _)
      | (with_reducible exact swageref09_Sign.mono _ _)
      | (with_reducible exact LeO.refl _)
      | (with_reducible exact LeO.none _)
      | (with_reducible refine LeO.ite ?_ ?_)
      | (with_reducible refine LeO.bind ?_ (fun _ => ?_))
      | exact ih0 _ _ _
      | exact ih1 _ _ _ _
      | exact ih2 _ _ _
      | exact ih3 _ _ _ _ _
      | exact ih4 _ _ _ _ _
      | exact ih5 _ _ _ _ _
      | exact ih6 _ _ _ _ _
      | exact swageref09_Number.mono _ _
      | exact swageref09_Sign.mono _ _
      | exact LeO.none _
      | refine LeO.ite ?_ ?_
      | refine LeO.bind ?_ (fun _ => ?_)
    · intro y0 y1 y2 y3 y4
      unfold swageref09_Lex.j6
      repeat' first
      | (with_reducible exact ih0 _ _ _)
      | (with_reducible exact ih1 _ _ _ _)
      | (with_reducible exact ih2 _ _ _)
      | (with_reducible exact ih3 _ _ _ _ _)
      | (with_reducible exact ih4 _ _ _ _ _)
      | (with_reducible exact ih5 _ _ _ _ _)
      | (with_reducible exact ih6 _ _ _ _ _)
      | (with_reducible exact swageref09_Number.mono _ _)
      | (with_reducible exact swageref09_Sign.mono _ _)
      | (with_reducible exact LeO.refl _)
      | (with_reducible exact LeO.none _)
      | (with_reducible refine LeO.ite ?_ ?_)
      | (with_reducible refine LeO.bind ?_ (fun _ => ?_))
      | exact ih0 _ _ _
      | exact ih1 _ _ _ _
      | exact ih2 _ _ _
      | exact ih3 _ _ _ _ _
      | exact ih4 _ _ _ _ _
      | exact ih5 _ _ _ _ _
      | exact ih6 _ _ _ _ _
      | exact swageref09_Number.mono _ _
      | exact swageref09_Sign.mono _ _
      | exact LeO.none _
      | refine LeO.ite ?_ ?_
      | refine LeO.bind ?_ (fun _ => ?_)
theorem swageref09_Lex.mono : ∀ a0 k, LeO (swageref09_Lex.f k a0) (swageref09_Lex.f (k + 1) a0) := by
  intro a0 k
  obtain ⟨ih0, ih1, ih2, ih3, ih4, ih5, ih6⟩ := swageref09_Lex.mono_l k
  unfold swageref09_Lex.f
  repeat' first
      | (with_reducible exact ih0 _ _ _)
      | (with_reducible exact ih1 _ _ _ _)
      | (with_reducible exact ih2 _ _ _)
      | (with_reducible exact ih3 _ _ _ _ _)
      | (with_reducible exact ih4 _ _ _ _ _)
      | (with_reducible exact ih5 _ _ _ _ _)
      | (with_reducible exact ih6 _ _ _ _ _)
      | (with_reducible exact swageref09_Number.mono _ _)
      | (with_reducible exact swageref09_Sign.mono _ _)
      | (with_reducible exact LeO.refl _)
      | (with_reducible exact LeO.none _)
      | (with_reducible refine LeO.ite ?_ ?_)
      | (with_reducible refine LeO.bind ?_ (fun _ => ?_))
      | exact ih0 _ _ _
      | exact ih1 _ _ _ _
      | exact ih2 _ _ _
      | exact ih3 _ _ _ _ _
      | exact ih4 _ _ _ _ _
      | exact ih5 _ _ _ _ _
      | exact ih6 _ _ _ _ _
      | exact swageref09_Number.mono _ _
      | exact swageref09_Sign.mono _ _
      | exact LeO.none _
      | refine LeO.ite ?_ ?_
      | refine LeO.bind ?_ (fun _ => ?_)
set_option maxHeartbeats 8000000 in
set_option maxRecDepth 100000 in
theorem swageref09_Lex.calls (k : Nat) (a0 : ByteArray) (r1 : List (S30)) (r2 : Int) (r3 : Int) (w : World) (h : swageref09_Lex.f k a0 = some (r1, r2, r3)) :
    Calls Try.prog 11 #[.string a0] w fun e w' => ∃ v0_ : Value, e = .returned (.tuple #[v0_, .int .i64 r2, .int .i64 r3]) ∧ Kd.R k30 30 w' w.heap.size (fun _ => True) v0_ r1 ∧ Below w.heap.size w w' := by
  have hu30 := Try.underlying30
  have HB := Aside0.mk (Below.refl w.heap.size w)
  have H : (if (a0.size : Int) > 65536 then (some (([] : List (S30)), 65536, 5)) else (swageref09_Lex.l0 k a0 ([] : List (S30)) 0)) = some (r1, r2, r3) := h
  clear h
  by_cases c2 : (a0.size : Int) > 65536
  · rw [if_pos c2] at H
    have c2b0 : decide (65536 < (a0.size : Int)) = true := decide_eq_true c2
    have c2b1 : decide (65536 < a0.size) = true := decide_eq_true (by omega)
    clear c2
    simp only [Option.some.injEq, Prod.mk.injEq] at H
    obtain ⟨rfl, rfl, rfl⟩ := H
    go_enter Try.func11, Try.ntmps11
    go_wp2
    go_ret3
    exact ⟨_, by first | rfl | (simp [errW_none, errW_some] <;> rfl) | (simp [*, errW_none, errW_some] <;> rfl), by first | exact Kd.R_nil _ _ _ _ _ | exact Kd.N_nil _ _ _ _ _ | exact Kd.V_nil _ _ _ _ _ | exact Kd.Q_nil _ _ _ _ _ | exact Kd.S_nil _ _ _ _ _, by repeat (first | (with_reducible first | exact HB.out | apply below_alloc | apply pw_below_drewN | apply below_drew1) | exact HB.out)⟩
  · rw [if_neg c2] at H
    have c2b0 : decide (65536 < (a0.size : Int)) = false := decide_eq_false c2
    have c2b1 : decide (65536 < a0.size) = false := decide_eq_false (by omega)
    clear c2
    have H' := Aside0.mk H
    clear H
    go_enter Try.func11, Try.ntmps11
    go_wp2
    go_loopg [5, 6] k (fun kq v5 v6 w' => ∃ (x5_1 : List (S30)) (x6_1 : Int), v6 = .int .i64 x6_1 ∧ Aside0 (swageref09_Lex.l0 kq a0 x5_1 x6_1 = some (r1, r2, r3)) ∧ Aside0 (kq ≤ k) ∧ Aside0 (Kd.R k30 30 w' w.heap.size (fun _ => True) v5 x5_1) ∧ Aside0 (Below w.heap.size w w'))
    case atStart => exact ⟨(([] : List (S30))), (0), (by first | rfl | (simp; done) | (simp [*]; done)), H', ⟨Nat.le_refl _⟩, ⟨by first | exact Kd.R_nil _ _ _ _ _ | exact Kd.N_nil _ _ _ _ _ | exact Kd.V_nil _ _ _ _ _ | exact Kd.Q_nil _ _ _ _ _ | exact Kd.S_nil _ _ _ _ _⟩, ⟨by repeat (first | (with_reducible first | exact HB.out | apply below_alloc | apply pw_below_drewN | apply below_drew1) | exact HB.out)⟩⟩
    case round =>
      clear H'
      try clear c1
      try clear c2
      try clear c2b0
      try clear c2b1
      try clear p2
      obtain ⟨x5_1, x6_1, rfl, HA, HK1, HO_5, HB⟩ := hrel
      cases gk with
      | zero => exact absurd HA.out (by simp [swageref09_Lex.l0])
      | succ k1 =>
        have H := HA.out
        clear HA
        simp only [swageref09_Lex.l0] at H
        by_cases c3 : x6_1 < (a0.size : Int)
        · rw [if_pos c3] at H
          have c3b0 : decide (x6_1 < (a0.size : Int)) = true := decide_eq_true c3
          clear c3
          by_cases c4 : 0 ≤ x6_1
          · rw [if_pos c4] at H
            have c4b0 : decide (0 ≤ x6_1) = true := decide_eq_true c4
            clear c4
            replace H := Option.bind_eq_some_iff.mp H
            obtain ⟨t130, A60, H⟩ := H
            replace H : (if t130 = true then (swageref09_Lex.l0 k1 a0 x5_1 (wrap64 (x6_1 + 1))) else (if (bt a0 x6_1) = 47 then (if (wrap64 (x6_1 + 1)) < (a0.size : Int) then (if 0 ≤ (wrap64 (x6_1 + 1)) then (swageref09_Lex.j1 k1 a0 x5_1 x6_1 ((bt a0 (wrap64 (x6_1 + 1))) == 47)) else (none)) else (swageref09_Lex.j1 k1 a0 x5_1 x6_1 false)) else (swageref09_Lex.j1 k1 a0 x5_1 x6_1 false))) = some (r1, r2, r3) := H
            have A6 := Aside0.mk A60
            clear A60
            by_cases c7 : t130 = true
            · subst c7
              have H1 : (swageref09_Lex.l0 k1 a0 x5_1 (wrap64 (x6_1 + 1))) = some (r1, r2, r3) := by rw [if_pos rfl] at H; exact H
              clear H
              have H := H1
              clear H1
              have H' := Aside0.mk H
              clear H
              have p5 : 0 ≤ (x6_1 : Int) := of_decide_eq_true (by first | (with_reducible assumption) | assumption)
              have q5 : x6_1 < (a0.size : Int) := of_decide_eq_true (by first | (with_reducible assumption) | assumption)
              have hx5 := bt_at a0 x6_1
              replace p5 := eq_true p5
              replace q5 := eq_true q5
              go_wp2_with (first | ((with_reducible refine gate_callee (f := 23) rfl ?_); refine goesL_ (some 21) rfl rfl Try.func23 (by kernel_rfl) rfl #[.int .u8 (bt a0 x6_1)] rfl (by (try simp only [List.map_toArray, List.map_cons, List.map_nil]); first | done | rfl | (simp only [List.length_drop, List.length_take]; rfl)) ?_; (with_reducible refine (swageref09_blank.calls (bt a0 x6_1) true _ A6.out).mono ?_); rintro e w' ⟨rfl, ⟨nd, rfl⟩⟩; refine ⟨_, rfl, ?_⟩))
              go_roundg k1
              case measure => have := HK1.out; omega
              case rel => exact ⟨(x5_1), (wrap64 (x6_1 + 1)), (by first | rfl | (simp; done) | (simp [*]; done)), H', ⟨by have := HK1.out; omega⟩, ⟨by (with_reducible repeat (first | apply Kd.R_alloc | apply Kd.R_drewN | apply Kd.R_drew)); exact HO_5.out⟩, ⟨by repeat (first | (with_reducible first | exact HB.out | apply below_alloc | apply pw_below_drewN | apply below_drew1) | exact HB.out)⟩⟩
            · replace c7 := Bool.eq_false_iff.mpr c7
              subst c7
              have H1 : (if (bt a0 x6_1) = 47 then (if (wrap64 (x6_1 + 1)) < (a0.size : Int) then (if 0 ≤ (wrap64 (x6_1 + 1)) then (swageref09_Lex.j1 k1 a0 x5_1 x6_1 ((bt a0 (wrap64 (x6_1 + 1))) == 47)) else (none)) else (swageref09_Lex.j1 k1 a0 x5_1 x6_1 false)) else (swageref09_Lex.j1 k1 a0 x5_1 x6_1 false)) = some (r1, r2, r3) := by rw [if_neg (show ¬ (false = true) by decide)] at H; exact H
              clear H
              have H := H1
              clear H1
              have HC8 := Aside0.mk H
              clear H
              have p5 : 0 ≤ (x6_1 : Int) := of_decide_eq_true (by first | (with_reducible assumption) | assumption)
              have q5 : x6_1 < (a0.size : Int) := of_decide_eq_true (by first | (with_reducible assumption) | assumption)
              have hx5 := bt_at a0 x6_1
              replace p5 := eq_true p5
              replace q5 := eq_true q5
              go_upto_region 8 with (first | ((with_reducible refine gate_callee (f := 23) rfl ?_); refine goesL_ (some 21) rfl rfl Try.func23 (by kernel_rfl) rfl #[.int .u8 (bt a0 x6_1)] rfl (by (try simp only [List.map_toArray, List.map_cons, List.map_nil]); first | done | rfl | (simp only [List.length_drop, List.length_take]; rfl)) ?_; (with_reducible refine (swageref09_blank.calls (bt a0 x6_1) false _ A6.out).mono ?_); rintro e w' ⟨rfl, ⟨nd, rfl⟩⟩; refine ⟨_, rfl, ?_⟩))
              (try simp only [Act.put, List.setIfInBounds_toArray, List.set_cons_zero, List.set_cons_succ])
              go_cut [41] (fun v41 wc => ∃ (kq : Nat) (x41_7 : Bool), v41 = .bool x41_7 ∧ Aside0 (swageref09_Lex.j1 kq a0 x5_1 x6_1 x41_7 = some (r1, r2, r3)) ∧ Aside0 (kq ≤ k1) ∧ Aside0 (Kd.R k30 30 wc w.heap.size (fun _ => True) u5 x5_1) ∧ Aside0 (Below w.heap.size w wc))
              case first =>
                have H := HC8.out
                clear HC8
                by_cases c10 : (bt a0 x6_1) = 47
                · rw [if_pos c10] at H
                  have c10b0 : ((bt a0 x6_1) == 47) = true := beq_iff_eq.mpr c10
                  have c10b1 : ((bt a0 x6_1) != 47) = false := bne_eq_false_iff_eq.mpr c10
                  clear c10
                  (first | rw [c10b0] | (simp only [i64_w, i32_w]; rw [c10b0]) | skip)
                  by_cases c11 : (wrap64 (x6_1 + 1)) < (a0.size : Int)
                  · rw [if_pos c11] at H
                    have c11b0 : decide ((wrap64 (x6_1 + 1)) < (a0.size : Int)) = true := decide_eq_true c11
                    clear c11
                    obtain ⟨ji12, hji12⟩ : ∃ j_ : Int, (wrap64 (x6_1 + 1)) = j_ := ⟨_, rfl⟩
                    replace H : (if 0 ≤ (ji12) then (swageref09_Lex.j1 k1 a0 x5_1 x6_1 ((bt a0 (ji12)) == 47)) else (none)) = some (r1, r2, r3) := by first | (rw [hji12] at H; exact H) | (simp only [hji12] at H ⊢; exact H)
                    (try rw [hji12] at c11b0)
                    have hji12w : (IntKind.i64.wrap (x6_1 + 1)) = ji12 := (i64_w _).trans hji12
                    by_cases c13 : 0 ≤ (ji12)
                    · rw [if_pos c13] at H
                      have c13b0 : decide (0 ≤ (ji12)) = true := decide_eq_true c13
                      clear c13
                      have H' := Aside0.mk H
                      clear H
                      have p9 : 0 ≤ (x6_1 : Int) := of_decide_eq_true (by first | (with_reducible assumption) | assumption)
                      have q9 : x6_1 < (a0.size : Int) := of_decide_eq_true (by first | (with_reducible assumption) | assumption)
                      have hx9 := bt_at a0 x6_1
                      replace p9 := eq_true p9
                      replace q9 := eq_true q9
                      have p14 : 0 ≤ ((ji12) : Int) := of_decide_eq_true (by first | (with_reducible assumption) | assumption)
                      have q14 : (ji12) < (a0.size : Int) := of_decide_eq_true (by first | (with_reducible assumption) | assumption)
                      have hx14 := bt_at a0 (ji12)
                      replace p14 := eq_true p14
                      replace q14 := eq_true q14
                      go_wp2
                      go_meet
                      case rel => exact ⟨_, (((bt a0 (ji12)) == 47)), (by first | rfl | (simp; done) | (simp only [← hji12] <;> (first | rfl | simp)) | (simp [*]; done)), H', ⟨by have := HK1.out; first | omega | exact Nat.le_refl _⟩, ⟨by (with_reducible repeat (first | apply Kd.R_alloc | apply Kd.R_drewN | apply Kd.R_drew)); exact HO_5.out⟩, ⟨by repeat (first | (with_reducible first | exact HB.out | apply below_alloc | apply pw_below_drewN | apply below_drew1) | exact HB.out)⟩⟩
                    · rw [if_neg c13] at H
                      exact absurd H (by simp)
                  · rw [if_neg c11] at H
                    have c11b0 : decide ((wrap64 (x6_1 + 1)) < (a0.size : Int)) = false := decide_eq_false c11
                    clear c11
                    have H' := Aside0.mk H
                    clear H
                    have p9 : 0 ≤ (x6_1 : Int) := of_decide_eq_true (by first | (with_reducible assumption) | assumption)
                    have q9 : x6_1 < (a0.size : Int) := of_decide_eq_true (by first | (with_reducible assumption) | assumption)
                    have hx9 := bt_at a0 x6_1
                    replace p9 := eq_true p9
                    replace q9 := eq_true q9
                    go_wp2
                    go_meet
                    case rel => exact ⟨_, (false), (by first | rfl | (simp; done) | (simp [*]; done)), H', ⟨by have := HK1.out; first | omega | exact Nat.le_refl _⟩, ⟨by (with_reducible repeat (first | apply Kd.R_alloc | apply Kd.R_drewN | apply Kd.R_drew)); exact HO_5.out⟩, ⟨by repeat (first | (with_reducible first | exact HB.out | apply below_alloc | apply pw_below_drewN | apply below_drew1) | exact HB.out)⟩⟩
                · rw [if_neg c10] at H
                  have c10b0 : ((bt a0 x6_1) == 47) = false := beq_eq_false_iff_ne.mpr c10
                  have c10b1 : ((bt a0 x6_1) != 47) = true := bne_iff_ne.mpr c10
                  (first | rw [c10b0] | (simp only [i64_w, i32_w]; rw [c10b0]) | skip)
                  have H' := Aside0.mk H
                  clear H
                  have p9 : 0 ≤ (x6_1 : Int) := of_decide_eq_true (by first | (with_reducible assumption) | assumption)
                  have q9 : x6_1 < (a0.size : Int) := of_decide_eq_true (by first | (with_reducible assumption) | assumption)
                  have hx9 := bt_at a0 x6_1
                  replace p9 := eq_true p9
                  replace q9 := eq_true q9
                  go_wp2
                  go_meet
                  case rel => exact ⟨_, (false), (by first | rfl | (simp; done) | (simp [*]; done)), H', ⟨by have := HK1.out; first | omega | exact Nat.le_refl _⟩, ⟨by (with_reducible repeat (first | apply Kd.R_alloc | apply Kd.R_drewN | apply Kd.R_drew)); exact HO_5.out⟩, ⟨by repeat (first | (with_reducible first | exact HB.out | apply below_alloc | apply pw_below_drewN | apply below_drew1) | exact HB.out)⟩⟩
              case rest =>
                clear HC8
                try clear c1
                try clear p1
                try clear q1
                try clear hx1
                try clear c2
                try clear c2b0
                try clear c2b1
                try clear p2
                try clear c3
                try clear c3b0
                try clear c4
                try clear c4b0
                try clear p5
                try clear q5
                try clear hx5
                try clear p6
                try clear c7
                try clear p9
                try clear q9
                try clear hx9
                try clear c10
                try clear c10b0
                try clear c10b1
                try clear c11
                try clear c11b0
                try clear c13
                try clear c13b0
                try clear p14
                try clear q14
                try clear hx14
                try clear p14
                try clear p2
                try clear p5
                try clear p9
                try clear q14
                try clear q5
                try clear q9
                obtain ⟨kq, x41_7, rfl, HA, HJ7, HO_5, HB⟩ := hcut
                cases kq with
                | zero => exact absurd HA.out (by simp [swageref09_Lex.j1])
                | succ kj7 =>
                  have H := HA.out
                  clear HA
                  simp only [swageref09_Lex.j1] at H
                  by_cases c15 : x41_7 = true
                  · subst c15
                    have H1 : (swageref09_Lex.l1 kj7 a0 x5_1 x6_1) = some (r1, r2, r3) := by rw [if_pos rfl] at H; exact H
                    clear H
                    have H := H1
                    clear H1
                    have H' := Aside0.mk H
                    clear H
                    go_wp2
                    go_loopg [6] kj7 (fun kq v6 w' => ∃ (x6_3 : Int), v6 = .int .i64 x6_3 ∧ Aside0 (swageref09_Lex.l1 kq a0 x5_1 x6_3 = some (r1, r2, r3)) ∧ Aside0 (kq ≤ kj7) ∧ Aside0 (Kd.R k30 30 w' w.heap.size (fun _ => True) u5 x5_1) ∧ Aside0 (Below w.heap.size w w'))
                    case atStart => exact ⟨(x6_1), (by first | rfl | (simp; done) | (simp [*]; done)), H', ⟨Nat.le_refl _⟩, ⟨by (with_reducible repeat (first | apply Kd.R_alloc | apply Kd.R_drewN | apply Kd.R_drew)); exact HO_5.out⟩, ⟨by repeat (first | (with_reducible first | exact HB.out | apply below_alloc | apply pw_below_drewN | apply below_drew1) | exact HB.out)⟩⟩
                    case round =>
                      clear H'
                      try clear c1
                      try clear p1
                      try clear q1
                      try clear hx1
                      try clear c2
                      try clear c2b0
                      try clear c2b1
                      try clear p2
                      try clear c3
                      try clear c3b0
                      try clear c4
                      try clear c4b0
                      try clear p5
                      try clear q5
                      try clear hx5
                      try clear p6
                      try clear c7
                      try clear p9
                      try clear q9
                      try clear hx9
                      try clear c10
                      try clear c10b0
                      try clear c10b1
                      try clear c11
                      try clear c11b0
                      try clear c13
                      try clear c13b0
                      try clear p14
                      try clear q14
                      try clear hx14
                      try clear c15
                      try clear p1
                      try clear p14
                      try clear p2
                      try clear p5
                      try clear p6
                      try clear p9
                      try clear q1
                      try clear q14
                      try clear q5
                      try clear q9
                      obtain ⟨x6_3, rfl, HA, HK3, HO_5, HB⟩ := hrel
                      cases gk with
                      | zero => exact absurd HA.out (by simp [swageref09_Lex.l1])
                      | succ k3 =>
                        have H := HA.out
                        clear HA
                        simp only [swageref09_Lex.l1] at H
                        by_cases c16 : x6_3 < (a0.size : Int)
                        · rw [if_pos c16] at H
                          have c16b0 : decide (x6_3 < (a0.size : Int)) = true := decide_eq_true c16
                          clear c16
                          by_cases c17 : 0 ≤ x6_3
                          · rw [if_pos c17] at H
                            have c17b0 : decide (0 ≤ x6_3) = true := decide_eq_true c17
                            clear c17
                            by_cases c19 : (bt a0 x6_3) = 10
                            · rw [if_pos c19] at H
                              have c19b0 : ((bt a0 x6_3) == 10) = true := beq_iff_eq.mpr c19
                              have c19b1 : ((bt a0 x6_3) != 10) = false := bne_eq_false_iff_eq.mpr c19
                              clear c19
                              have H' := Aside0.mk H
                              clear H
                              have p18 : 0 ≤ (x6_3 : Int) := of_decide_eq_true (by first | (with_reducible assumption) | assumption)
                              have q18 : x6_3 < (a0.size : Int) := of_decide_eq_true (by first | (with_reducible assumption) | assumption)
                              have hx18 := bt_at a0 x6_3
                              replace p18 := eq_true p18
                              replace q18 := eq_true q18
                              go_wp2
                              go_roundg k3
                              case measure => have := HK1.out; have := HJ7.out; have := HK3.out; omega
                              case rel => exact ⟨(x5_1), (x6_3), (by first | rfl | (simp; done) | (simp [*]; done)), H', ⟨by have := HK1.out; have := HJ7.out; have := HK3.out; omega⟩, ⟨by (with_reducible repeat (first | apply Kd.R_alloc | apply Kd.R_drewN | apply Kd.R_drew)); exact HO_5.out⟩, ⟨by repeat (first | (with_reducible first | exact HB.out | apply below_alloc | apply pw_below_drewN | apply below_drew1) | exact HB.out)⟩⟩
                            · rw [if_neg c19] at H
                              have c19b0 : ((bt a0 x6_3) == 10) = false := beq_eq_false_iff_ne.mpr c19
                              have c19b1 : ((bt a0 x6_3) != 10) = true := bne_iff_ne.mpr c19
                              have H' := Aside0.mk H
                              clear H
                              have p18 : 0 ≤ (x6_3 : Int) := of_decide_eq_true (by first | (with_reducible assumption) | assumption)
                              have q18 : x6_3 < (a0.size : Int) := of_decide_eq_true (by first | (with_reducible assumption) | assumption)
                              have hx18 := bt_at a0 x6_3
                              replace p18 := eq_true p18
                              replace q18 := eq_true q18
                              go_wp2
                              go_roundg k3
                              case measure => have := HK1.out; have := HJ7.out; have := HK3.out; omega
                              case rel => exact ⟨(wrap64 (x6_3 + 1)), (by first | rfl | (simp; done) | (simp [*]; done)), H', ⟨by have := HK1.out; have := HJ7.out; have := HK3.out; omega⟩, ⟨by (with_reducible repeat (first | apply Kd.R_alloc | apply Kd.R_drewN | apply Kd.R_drew)); exact HO_5.out⟩, ⟨by repeat (first | (with_reducible first | exact HB.out | apply below_alloc | apply pw_below_drewN | apply below_drew1) | exact HB.out)⟩⟩
                          · rw [if_neg c17] at H
                            exact absurd H (by simp)
                        · rw [if_neg c16] at H
                          have c16b0 : decide (x6_3 < (a0.size : Int)) = false := decide_eq_false c16
                          clear c16
                          have H' := Aside0.mk H
                          clear H
                          go_wp2
                          go_roundg k3
                          case measure => have := HK1.out; have := HJ7.out; have := HK3.out; omega
                          case rel => exact ⟨(x5_1), (x6_3), (by first | rfl | (simp; done) | (simp [*]; done)), H', ⟨by have := HK1.out; have := HJ7.out; have := HK3.out; omega⟩, ⟨by (with_reducible repeat (first | apply Kd.R_alloc | apply Kd.R_drewN | apply Kd.R_drew)); exact HO_5.out⟩, ⟨by repeat (first | (with_reducible first | exact HB.out | apply below_alloc | apply pw_below_drewN | apply below_drew1) | exact HB.out)⟩⟩
                  · replace c15 := Bool.eq_false_iff.mpr c15
                    subst c15
                    have H1 : (if 0 ≤ x6_1 then (if x6_1 < (a0.size : Int) then ((swageref09_letter.f (bt a0 x6_1)).bind fun t131 => (if t131 = true then (swageref09_Lex.l2 kj7 a0 x5_1 x6_1 x6_1 1) else ((swageref09_digit.f (bt a0 x6_1)).bind fun t140 => (if t140 = true then (swageref09_Lex.l3 kj7 a0 x5_1 x6_1 x6_1 2) else (if (wrap64 (x6_1 + 1)) < (a0.size : Int) then (if x6_1 ≤ (wrap64 (x6_1 + 2)) then (if (wrap64 (x6_1 + 2)) ≤ (a0.size : Int) then ((swageref09_Sign.f kj7 (a0.extract (x6_1 : Int).toNat ((wrap64 (x6_1 + 2)) : Int).toNat)).bind fun t151 => (swageref09_Lex.j6 kj7 a0 x5_1 x6_1 3 t151)) else (none)) else (none)) else (swageref09_Lex.j6 kj7 a0 x5_1 x6_1 3 false)))))) else (none)) else (none)) = some (r1, r2, r3) := by rw [if_neg (show ¬ (false = true) by decide)] at H; exact H
                    clear H
                    have H := H1
                    clear H1
                    by_cases c20 : 0 ≤ x6_1
                    · rw [if_pos c20] at H
                      have c20b0 : decide (0 ≤ x6_1) = true := decide_eq_true c20
                      clear c20
                      by_cases c21 : x6_1 < (a0.size : Int)
                      · rw [if_pos c21] at H
                        have c21b0 : decide (x6_1 < (a0.size : Int)) = true := decide_eq_true c21
                        clear c21
                        replace H := Option.bind_eq_some_iff.mp H
                        obtain ⟨t131, A230, H⟩ := H
                        replace H : (if t131 = true then (swageref09_Lex.l2 kj7 a0 x5_1 x6_1 x6_1 1) else ((swageref09_digit.f (bt a0 x6_1)).bind fun t140 => (if t140 = true then (swageref09_Lex.l3 kj7 a0 x5_1 x6_1 x6_1 2) else (if (wrap64 (x6_1 + 1)) < (a0.size : Int) then (if x6_1 ≤ (wrap64 (x6_1 + 2)) then (if (wrap64 (x6_1 + 2)) ≤ (a0.size : Int) then ((swageref09_Sign.f kj7 (a0.extract (x6_1 : Int).toNat ((wrap64 (x6_1 + 2)) : Int).toNat)).bind fun t151 => (swageref09_Lex.j6 kj7 a0 x5_1 x6_1 3 t151)) else (none)) else (none)) else (swageref09_Lex.j6 kj7 a0 x5_1 x6_1 3 false))))) = some (r1, r2, r3) := H
                        have A23 := Aside0.mk A230
                        clear A230
                        by_cases c24 : t131 = true
                        · subst c24
                          have H1 : (swageref09_Lex.l2 kj7 a0 x5_1 x6_1 x6_1 1) = some (r1, r2, r3) := by rw [if_pos rfl] at H; exact H
                          clear H
                          have H := H1
                          clear H1
                          have H' := Aside0.mk H
                          clear H
                          have p22 : 0 ≤ (x6_1 : Int) := of_decide_eq_true (by first | (with_reducible assumption) | assumption)
                          have q22 : x6_1 < (a0.size : Int) := of_decide_eq_true (by first | (with_reducible assumption) | assumption)
                          have hx22 := bt_at a0 x6_1
                          replace p22 := eq_true p22
                          replace q22 := eq_true q22
                          go_wp2_with (first | ((with_reducible refine gate_callee (f := 24) rfl ?_); refine goesL_ (some 58) rfl rfl Try.func24 (by kernel_rfl) rfl #[.int .u8 (bt a0 x6_1)] rfl (by (try simp only [List.map_toArray, List.map_cons, List.map_nil]); first | done | rfl | (simp only [List.length_drop, List.length_take]; rfl)) ?_; (with_reducible refine (swageref09_letter.calls (bt a0 x6_1) true _ A23.out).mono ?_); rintro e w' ⟨rfl, ⟨nd, rfl⟩⟩; refine ⟨_, rfl, ?_⟩))
                          go_loopg [7] kj7 (fun kq v7 w' => ∃ (x7_3 : Int), v7 = .int .i64 x7_3 ∧ Aside0 (swageref09_Lex.l2 kq a0 x5_1 x6_1 x7_3 1 = some (r1, r2, r3)) ∧ Aside0 (kq ≤ kj7) ∧ Aside0 (Kd.R k30 30 w' w.heap.size (fun _ => True) u5 x5_1) ∧ Aside0 (Below w.heap.size w w'))
                          case atStart => exact ⟨(x6_1), (by first | rfl | (simp; done) | (simp [*]; done)), H', ⟨Nat.le_refl _⟩, ⟨by (with_reducible repeat (first | apply Kd.R_alloc | apply Kd.R_drewN | apply Kd.R_drew)); exact HO_5.out⟩, ⟨by repeat (first | (with_reducible first | exact HB.out | apply below_alloc | apply pw_below_drewN | apply below_drew1) | exact HB.out)⟩⟩
                          case round =>
                            clear H'
                            try clear c1
                            try clear p1
                            try clear q1
                            try clear hx1
                            try clear c2
                            try clear c2b0
                            try clear c2b1
                            try clear p2
                            try clear q2
                            try clear hx2
                            try clear c3
                            try clear c3b0
                            try clear c4
                            try clear c4b0
                            try clear p5
                            try clear q5
                            try clear hx5
                            try clear p6
                            try clear c7
                            try clear p9
                            try clear q9
                            try clear hx9
                            try clear c10
                            try clear c10b0
                            try clear c10b1
                            try clear c11
                            try clear c11b0
                            try clear c13
                            try clear c13b0
                            try clear p14
                            try clear q14
                            try clear hx14
                            try clear c15
                            try clear c16
                            try clear c16b0
                            try clear c17
                            try clear c17b0
                            try clear p18
                            try clear q18
                            try clear hx18
                            try clear c19
                            try clear c19b0
                            try clear c19b1
                            try clear c20
                            try clear c20b0
                            try clear c21
                            try clear c21b0
                            try clear p22
                            try clear q22
                            try clear hx22
                            try clear c23
                            try clear c24
                            try clear p1
                            try clear p14
                            try clear p18
                            try clear p2
                            try clear p22
                            try clear p5
                            try clear p6
                            try clear p9
                            try clear q1
                            try clear q14
                            try clear q18
                            try clear q22
                            try clear q5
                            try clear q9
                            obtain ⟨x7_3, rfl, HA, HK3, HO_5, HB⟩ := hrel
                            cases gk with
                            | zero => exact absurd HA.out (by simp [swageref09_Lex.l2])
                            | succ k3 =>
                              have H := HA.out
                              clear HA
                              simp only [swageref09_Lex.l2] at H
                              by_cases c25 : x7_3 < (a0.size : Int)
                              · rw [if_pos c25] at H
                                have c25b0 : decide (x7_3 < (a0.size : Int)) = true := decide_eq_true c25
                                clear c25
                                by_cases c26 : 0 ≤ x7_3
                                · rw [if_pos c26] at H
                                  have c26b0 : decide (0 ≤ x7_3) = true := decide_eq_true c26
                                  clear c26
                                  replace H := Option.bind_eq_some_iff.mp H
                                  obtain ⟨t132, A280, H⟩ := H
                                  replace H : (if t132 = true then (swageref09_Lex.l2 k3 a0 x5_1 x6_1 (wrap64 (x7_3 + 1)) 1) else ((swageref09_digit.f (bt a0 x7_3)).bind fun t133 => (if t133 = true then (swageref09_Lex.l2 k3 a0 x5_1 x6_1 (wrap64 (x7_3 + 1)) 1) else (if 0 ≤ x6_1 then (if x6_1 ≤ x7_3 then (if x7_3 ≤ (a0.size : Int) then (if x5_1.length < 4398046511104 then (swageref09_Lex.l0 k3 a0 (x5_1 ++ [(⟨1, a0.extract (x6_1 : Int).toNat (x7_3 : Int).toNat, x6_1⟩ : S30)]) x7_3) else (none)) else (none)) else (none)) else (none))))) = some (r1, r2, r3) := H
                                  have A28 := Aside0.mk A280
                                  clear A280
                                  by_cases c29 : t132 = true
                                  · subst c29
                                    have H1 : (swageref09_Lex.l2 k3 a0 x5_1 x6_1 (wrap64 (x7_3 + 1)) 1) = some (r1, r2, r3) := by rw [if_pos rfl] at H; exact H
                                    clear H
                                    have H := H1
                                    clear H1
                                    have H' := Aside0.mk H
                                    clear H
                                    have p27 : 0 ≤ (x7_3 : Int) := of_decide_eq_true (by first | (with_reducible assumption) | assumption)
                                    have q27 : x7_3 < (a0.size : Int) := of_decide_eq_true (by first | (with_reducible assumption) | assumption)
                                    have hx27 := bt_at a0 x7_3
                                    replace p27 := eq_true p27
                                    replace q27 := eq_true q27
                                    go_wp2_with (first | (go_at_call 24; (with_reducible refine (swageref09_letter.calls (bt a0 x7_3) true _ A28.out).mono ?_); rintro e w' ⟨rfl, ⟨nd, rfl⟩⟩))
                                    go_roundg k3
                                    case measure => have := HK1.out; have := HJ7.out; have := HK3.out; omega
                                    case rel => exact ⟨(wrap64 (x7_3 + 1)), (by first | rfl | (simp; done) | (simp [*]; done)), H', ⟨by have := HK1.out; have := HJ7.out; have := HK3.out; omega⟩, ⟨by (with_reducible repeat (first | apply Kd.R_alloc | apply Kd.R_drewN | apply Kd.R_drew)); exact HO_5.out⟩, ⟨by repeat (first | (with_reducible first | exact HB.out | apply below_alloc | apply pw_below_drewN | apply below_drew1) | exact HB.out)⟩⟩
                                  · replace c29 := Bool.eq_false_iff.mpr c29
                                    subst c29
                                    have H1 : ((swageref09_digit.f (bt a0 x7_3)).bind fun t133 => (if t133 = true then (swageref09_Lex.l2 k3 a0 x5_1 x6_1 (wrap64 (x7_3 + 1)) 1) else (if 0 ≤ x6_1 then (if x6_1 ≤ x7_3 then (if x7_3 ≤ (a0.size : Int) then (if x5_1.length < 4398046511104 then (swageref09_Lex.l0 k3 a0 (x5_1 ++ [(⟨1, a0.extract (x6_1 : Int).toNat (x7_3 : Int).toNat, x6_1⟩ : S30)]) x7_3) else (none)) else (none)) else (none)) else (none)))) = some (r1, r2, r3) := by rw [if_neg (show ¬ (false = true) by decide)] at H; exact H
                                    clear H
                                    have H := H1
                                    clear H1
                                    replace H := Option.bind_eq_some_iff.mp H
                                    obtain ⟨t133, A310, H⟩ := H
                                    replace H : (if t133 = true then (swageref09_Lex.l2 k3 a0 x5_1 x6_1 (wrap64 (x7_3 + 1)) 1) else (if 0 ≤ x6_1 then (if x6_1 ≤ x7_3 then (if x7_3 ≤ (a0.size : Int) then (if x5_1.length < 4398046511104 then (swageref09_Lex.l0 k3 a0 (x5_1 ++ [(⟨1, a0.extract (x6_1 : Int).toNat (x7_3 : Int).toNat, x6_1⟩ : S30)]) x7_3) else (none)) else (none)) else (none)) else (none))) = some (r1, r2, r3) := H
                                    have A31 := Aside0.mk A310
                                    clear A310
                                    by_cases c32 : t133 = true
                                    · subst c32
                                      have H1 : (swageref09_Lex.l2 k3 a0 x5_1 x6_1 (wrap64 (x7_3 + 1)) 1) = some (r1, r2, r3) := by rw [if_pos rfl] at H; exact H
                                      clear H
                                      have H := H1
                                      clear H1
                                      have H' := Aside0.mk H
                                      clear H
                                      have p27 : 0 ≤ (x7_3 : Int) := of_decide_eq_true (by first | (with_reducible assumption) | assumption)
                                      have q27 : x7_3 < (a0.size : Int) := of_decide_eq_true (by first | (with_reducible assumption) | assumption)
                                      have hx27 := bt_at a0 x7_3
                                      replace p27 := eq_true p27
                                      replace q27 := eq_true q27
                                      go_wp2_with (first | (go_at_call 24; (with_reducible refine (swageref09_letter.calls (bt a0 x7_3) false _ A28.out).mono ?_); rintro e w' ⟨rfl, ⟨nd, rfl⟩⟩; have p30 : 0 ≤ (x7_3 : Int) := of_decide_eq_true (by first | (with_reducible assumption) | assumption); have q30 : x7_3 < (a0.size : Int) := of_decide_eq_true (by first | (with_reducible assumption) | assumption); have hx30 := bt_at a0 x7_3; replace p30 := eq_true p30; replace q30 := eq_true q30) | (go_at_call 25; (with_reducible refine (swageref09_digit.calls (bt a0 x7_3) true _ A31.out).mono ?_); rintro e w' ⟨rfl, ⟨nd, rfl⟩⟩))
                                      go_roundg k3
                                      case measure => have := HK1.out; have := HJ7.out; have := HK3.out; omega
                                      case rel => exact ⟨(wrap64 (x7_3 + 1)), (by first | rfl | (simp; done) | (simp [*]; done)), H', ⟨by have := HK1.out; have := HJ7.out; have := HK3.out; omega⟩, ⟨by (with_reducible repeat (first | apply Kd.R_alloc | apply Kd.R_drewN | apply Kd.R_drew)); exact HO_5.out⟩, ⟨by repeat (first | (with_reducible first | exact HB.out | apply below_alloc | apply pw_below_drewN | apply below_drew1) | exact HB.out)⟩⟩
                                    · replace c32 := Bool.eq_false_iff.mpr c32
                                      subst c32
                                      have H1 : (if 0 ≤ x6_1 then (if x6_1 ≤ x7_3 then (if x7_3 ≤ (a0.size : Int) then (if x5_1.length < 4398046511104 then (swageref09_Lex.l0 k3 a0 (x5_1 ++ [(⟨1, a0.extract (x6_1 : Int).toNat (x7_3 : Int).toNat, x6_1⟩ : S30)]) x7_3) else (none)) else (none)) else (none)) else (none)) = some (r1, r2, r3) := by rw [if_neg (show ¬ (false = true) by decide)] at H; exact H
                                      clear H
                                      have H := H1
                                      clear H1
                                      by_cases c33 : 0 ≤ x6_1
                                      · rw [if_pos c33] at H
                                        have c33b0 := eq_true c33
                                        have c33b1 : decide (0 ≤ x6_1) = true := decide_eq_true c33
                                        clear c33
                                        by_cases c34 : x6_1 ≤ x7_3
                                        · rw [if_pos c34] at H
                                          have c34b0 := eq_true c34
                                          have c34b1 : decide (x6_1 ≤ x7_3) = true := decide_eq_true c34
                                          clear c34
                                          by_cases c35 : x7_3 ≤ (a0.size : Int)
                                          · rw [if_pos c35] at H
                                            have c35b0 := eq_true c35
                                            have c35b1 : decide (x7_3 ≤ (a0.size : Int)) = true := decide_eq_true c35
                                            clear c35
                                            by_cases c36 : x5_1.length < 4398046511104
                                            · rw [if_pos c36] at H
                                              have LMc36 := Aside0.mk c36
                                              clear c36
                                              obtain ⟨y134, hy134⟩ : ∃ y_ : List (S30), y_ = (x5_1 ++ [(⟨1, a0.extract (x6_1 : Int).toNat (x7_3 : Int).toNat, x6_1⟩ : S30)]) := ⟨_, rfl⟩
                                              replace H : (swageref09_Lex.l0 k3 a0 y134 x7_3) = some (r1, r2, r3) := by first | (rw [hy134]; with_reducible exact H) | (have H2_ := (Option.bind_some _ _).symm.trans H; rw [hy134]; with_reducible exact H2_) | (have H2_ := (Option.bind_some _ _).symm.trans H; with_reducible exact H2_) | with_reducible exact H | (rw [hy134]; exact H) | exact H
                                              have Ny134 := Aside0.mk hy134
                                              clear hy134
                                              have H' := Aside0.mk H
                                              clear H
                                              have p27 : 0 ≤ (x7_3 : Int) := of_decide_eq_true (by first | (with_reducible assumption) | assumption)
                                              have q27 : x7_3 < (a0.size : Int) := of_decide_eq_true (by first | (with_reducible assumption) | assumption)
                                              have hx27 := bt_at a0 x7_3
                                              replace p27 := eq_true p27
                                              replace q27 := eq_true q27
                                              go_wp2_with (first | (go_at_call 24; (with_reducible refine (swageref09_letter.calls (bt a0 x7_3) false _ A28.out).mono ?_); rintro e w' ⟨rfl, ⟨nd, rfl⟩⟩; have p30 : 0 ≤ (x7_3 : Int) := of_decide_eq_true (by first | (with_reducible assumption) | assumption); have q30 : x7_3 < (a0.size : Int) := of_decide_eq_true (by first | (with_reducible assumption) | assumption); have hx30 := bt_at a0 x7_3; replace p30 := eq_true p30; replace q30 := eq_true q30) | (go_at_call 25; (with_reducible refine (swageref09_digit.calls (bt a0 x7_3) false _ A31.out).mono ?_); rintro e w' ⟨rfl, ⟨nd, rfl⟩⟩) | ((with_reducible refine gate_builtin (b := .append) (xs := #[.tmp 140, .tmp 148]) rfl ?_); (try (refine gate_guard (by rfl) ?_; dsimp only)); at_builtin; refine Kd.R_append k30 (w0 := w) w.heap.size rfl (.tmp 140) (.tmp 148) 23 30 (.agg #[(.int .i64 0), (.string ⟨#[]⟩), (.int .i64 0)]) 32 rfl Try.underlying23 info30 rfl (by decide) (by omega) u5 x5_1 (⟨1, a0.extract (x6_1 : Int).toNat (x7_3 : Int).toNat, x6_1⟩ : S30) [.int .i64 1, .string (a0.extract (x6_1 : Int).toNat (x7_3 : Int).toNat), .int .i64 x6_1] (fun _ => True) (fun _ => False) rfl rfl ?aP (fun _ hk => hk.elim) ?aF ?aO ?aB ?aS ?aL ?_; (case aP => exact k30_mkM _ _ _ (⟨1, a0.extract (x6_1 : Int).toNat (x7_3 : Int).toNat, x6_1⟩ : S30)); (case aB => exact (by repeat (first | (with_reducible first | exact HB.out | apply below_alloc | apply pw_below_drewN | apply below_drew1) | exact HB.out))); (case aF => exact (fun _ _ => trivial)); (case aO => exact (by (with_reducible repeat (first | apply Kd.R_alloc | apply Kd.R_drewN | apply Kd.R_drew)); exact HO_5.out)); (case aS => exact (below_size (by repeat (first | (with_reducible first | exact HB.out | apply below_alloc | apply pw_below_drewN | apply below_drew1) | exact HB.out)))); (case aL => have := LMc36.out; omega); intro v135 w37 ho hb hg hat; rw [← Ny134.out] at ho; have n0_ := Aside0.mk (hb); have n1_ := Aside0.mk (ho); clear HB; clear HO_5; have HB := n0_; have HO136 := n1_; clear n0_ n1_; clear ho hb hg hat))
                                              go_roundg k3
                                              case measure => have := HK1.out; have := HJ7.out; have := HK3.out; omega
                                              case rel => exact ⟨(y134), (x7_3), (by first | rfl | (simp; done) | (simp [*]; done)), H', ⟨by have := HK1.out; have := HJ7.out; have := HK3.out; omega⟩, ⟨by (with_reducible repeat (first | apply Kd.R_alloc | apply Kd.R_drewN | apply Kd.R_drew)); exact HO136.out⟩, ⟨by repeat (first | (with_reducible first | exact HB.out | apply below_alloc | apply pw_below_drewN | apply below_drew1) | exact HB.out)⟩⟩
                                            · rw [if_neg c36] at H
                                              exact absurd H (by simp)
                                          · rw [if_neg c35] at H
                                            exact absurd H (by simp)
                                        · rw [if_neg c34] at H
                                          exact absurd H (by simp)
                                      · rw [if_neg c33] at H
                                        exact absurd H (by simp)
                                · rw [if_neg c26] at H
                                  exact absurd H (by simp)
                              · rw [if_neg c25] at H
                                have c25b0 : decide (x7_3 < (a0.size : Int)) = false := decide_eq_false c25
                                clear c25
                                by_cases c38 : 0 ≤ x6_1
                                · rw [if_pos c38] at H
                                  have c38b0 := eq_true c38
                                  have c38b1 : decide (0 ≤ x6_1) = true := decide_eq_true c38
                                  clear c38
                                  by_cases c39 : x6_1 ≤ x7_3
                                  · rw [if_pos c39] at H
                                    have c39b0 := eq_true c39
                                    have c39b1 : decide (x6_1 ≤ x7_3) = true := decide_eq_true c39
                                    clear c39
                                    by_cases c40 : x7_3 ≤ (a0.size : Int)
                                    · rw [if_pos c40] at H
                                      have c40b0 := eq_true c40
                                      have c40b1 : decide (x7_3 ≤ (a0.size : Int)) = true := decide_eq_true c40
                                      clear c40
                                      by_cases c41 : x5_1.length < 4398046511104
                                      · rw [if_pos c41] at H
                                        have LMc41 := Aside0.mk c41
                                        clear c41
                                        obtain ⟨y137, hy137⟩ : ∃ y_ : List (S30), y_ = (x5_1 ++ [(⟨1, a0.extract (x6_1 : Int).toNat (x7_3 : Int).toNat, x6_1⟩ : S30)]) := ⟨_, rfl⟩
                                        replace H : (swageref09_Lex.l0 k3 a0 y137 x7_3) = some (r1, r2, r3) := by first | (rw [hy137]; with_reducible exact H) | (have H2_ := (Option.bind_some _ _).symm.trans H; rw [hy137]; with_reducible exact H2_) | (have H2_ := (Option.bind_some _ _).symm.trans H; with_reducible exact H2_) | with_reducible exact H | (rw [hy137]; exact H) | exact H
                                        have Ny137 := Aside0.mk hy137
                                        clear hy137
                                        have H' := Aside0.mk H
                                        clear H
                                        go_wp2_with (first | ((with_reducible refine gate_builtin (b := .append) (xs := #[.tmp 140, .tmp 148]) rfl ?_); (try (refine gate_guard (by rfl) ?_; dsimp only)); at_builtin; refine Kd.R_append k30 (w0 := w) w.heap.size rfl (.tmp 140) (.tmp 148) 23 30 (.agg #[(.int .i64 0), (.string ⟨#[]⟩), (.int .i64 0)]) 32 rfl Try.underlying23 info30 rfl (by decide) (by omega) u5 x5_1 (⟨1, a0.extract (x6_1 : Int).toNat (x7_3 : Int).toNat, x6_1⟩ : S30) [.int .i64 1, .string (a0.extract (x6_1 : Int).toNat (x7_3 : Int).toNat), .int .i64 x6_1] (fun _ => True) (fun _ => False) rfl rfl ?aP (fun _ hk => hk.elim) ?aF ?aO ?aB ?aS ?aL ?_; (case aP => exact k30_mkM _ _ _ (⟨1, a0.extract (x6_1 : Int).toNat (x7_3 : Int).toNat, x6_1⟩ : S30)); (case aB => exact (by repeat (first | (with_reducible first | exact HB.out | apply below_alloc | apply pw_below_drewN | apply below_drew1) | exact HB.out))); (case aF => exact (fun _ _ => trivial)); (case aO => exact (by (with_reducible repeat (first | apply Kd.R_alloc | apply Kd.R_drewN | apply Kd.R_drew)); exact HO_5.out)); (case aS => exact (below_size (by repeat (first | (with_reducible first | exact HB.out | apply below_alloc | apply pw_below_drewN | apply below_drew1) | exact HB.out)))); (case aL => have := LMc41.out; omega); intro v138 w42 ho hb hg hat; rw [← Ny137.out] at ho; have n0_ := Aside0.mk (hb); have n1_ := Aside0.mk (ho); clear HB; clear HO_5; have HB := n0_; have HO139 := n1_; clear n0_ n1_; clear ho hb hg hat))
                                        go_roundg k3
                                        case measure => have := HK1.out; have := HJ7.out; have := HK3.out; omega
                                        case rel => exact ⟨(y137), (x7_3), (by first | rfl | (simp; done) | (simp [*]; done)), H', ⟨by have := HK1.out; have := HJ7.out; have := HK3.out; omega⟩, ⟨by (with_reducible repeat (first | apply Kd.R_alloc | apply Kd.R_drewN | apply Kd.R_drew)); exact HO139.out⟩, ⟨by repeat (first | (with_reducible first | exact HB.out | apply below_alloc | apply pw_below_drewN | apply below_drew1) | exact HB.out)⟩⟩
                                      · rw [if_neg c41] at H
                                        exact absurd H (by simp)
                                    · rw [if_neg c40] at H
                                      exact absurd H (by simp)
                                  · rw [if_neg c39] at H
                                    exact absurd H (by simp)
                                · rw [if_neg c38] at H
                                  exact absurd H (by simp)
                        · replace c24 := Bool.eq_false_iff.mpr c24
                          subst c24
                          have H1 : ((swageref09_digit.f (bt a0 x6_1)).bind fun t140 => (if t140 = true then (swageref09_Lex.l3 kj7 a0 x5_1 x6_1 x6_1 2) else (if (wrap64 (x6_1 + 1)) < (a0.size : Int) then (if x6_1 ≤ (wrap64 (x6_1 + 2)) then (if (wrap64 (x6_1 + 2)) ≤ (a0.size : Int) then ((swageref09_Sign.f kj7 (a0.extract (x6_1 : Int).toNat ((wrap64 (x6_1 + 2)) : Int).toNat)).bind fun t151 => (swageref09_Lex.j6 kj7 a0 x5_1 x6_1 3 t151)) else (none)) else (none)) else (swageref09_Lex.j6 kj7 a0 x5_1 x6_1 3 false)))) = some (r1, r2, r3) := by rw [if_neg (show ¬ (false = true) by decide)] at H; exact H
                          clear H
                          have H := H1
                          clear H1
                          replace H := Option.bind_eq_some_iff.mp H
                          obtain ⟨t140, A440, H⟩ := H
                          replace H : (if t140 = true then (swageref09_Lex.l3 kj7 a0 x5_1 x6_1 x6_1 2) else (if (wrap64 (x6_1 + 1)) < (a0.size : Int) then (if x6_1 ≤ (wrap64 (x6_1 + 2)) then (if (wrap64 (x6_1 + 2)) ≤ (a0.size : Int) then ((swageref09_Sign.f kj7 (a0.extract (x6_1 : Int).toNat ((wrap64 (x6_1 + 2)) : Int).toNat)).bind fun t151 => (swageref09_Lex.j6 kj7 a0 x5_1 x6_1 3 t151)) else (none)) else (none)) else (swageref09_Lex.j6 kj7 a0 x5_1 x6_1 3 false))) = some (r1, r2, r3) := H
                          have A44 := Aside0.mk A440
                          clear A440
                          by_cases c45 : t140 = true
                          · subst c45
                            have H1 : (swageref09_Lex.l3 kj7 a0 x5_1 x6_1 x6_1 2) = some (r1, r2, r3) := by rw [if_pos rfl] at H; exact H
                            clear H
                            have H := H1
                            clear H1
                            have HC46 := Aside0.mk H
                            clear H
                            have p22 : 0 ≤ (x6_1 : Int) := of_decide_eq_true (by first | (with_reducible assumption) | assumption)
                            have q22 : x6_1 < (a0.size : Int) := of_decide_eq_true (by first | (with_reducible assumption) | assumption)
                            have hx22 := bt_at a0 x6_1
                            replace p22 := eq_true p22
                            replace q22 := eq_true q22
                            go_upto_block 6 with (first | ((with_reducible refine gate_callee (f := 24) rfl ?_); refine goesL_ (some 58) rfl rfl Try.func24 (by kernel_rfl) rfl #[.int .u8 (bt a0 x6_1)] rfl (by (try simp only [List.map_toArray, List.map_cons, List.map_nil]); first | done | rfl | (simp only [List.length_drop, List.length_take]; rfl)) ?_; (with_reducible refine (swageref09_letter.calls (bt a0 x6_1) false _ A23.out).mono ?_); rintro e w' ⟨rfl, ⟨nd, rfl⟩⟩; refine ⟨_, rfl, ?_⟩; have p43 : 0 ≤ (x6_1 : Int) := of_decide_eq_true (by first | (with_reducible assumption) | assumption); have q43 : x6_1 < (a0.size : Int) := of_decide_eq_true (by first | (with_reducible assumption) | assumption); have hx43 := bt_at a0 x6_1; replace p43 := eq_true p43; replace q43 := eq_true q43) | ((with_reducible refine gate_callee (f := 25) rfl ?_); refine goesL_ (some 80) rfl rfl Try.func25 (by kernel_rfl) rfl #[.int .u8 (bt a0 x6_1)] rfl (by (try simp only [List.map_toArray, List.map_cons, List.map_nil]); first | done | rfl | (simp only [List.length_drop, List.length_take]; rfl)) ?_; (with_reducible refine (swageref09_digit.calls (bt a0 x6_1) true _ A44.out).mono ?_); rintro e w' ⟨rfl, ⟨nd, rfl⟩⟩; refine ⟨_, rfl, ?_⟩))
                            (try simp only [Act.put, List.setIfInBounds_toArray, List.set_cons_zero, List.set_cons_succ])
                            go_cut [7] (fun v7 wc => ∃ (kq : Nat) (x7_45 : Int), v7 = .int .i64 x7_45 ∧ Aside0 (swageref09_Lex.j5 kq a0 x5_1 x6_1 x7_45 2 = some (r1, r2, r3)) ∧ Aside0 (kq ≤ kj7) ∧ Aside0 (Kd.R k30 30 wc w.heap.size (fun _ => True) u5 x5_1) ∧ Aside0 (Below w.heap.size w wc))
                            case first =>
                              have H := HC46.out
                              clear HC46
                              have H' := Aside0.mk H
                              clear H
                              go_wp2
                              go_loopg [7] kj7 (fun kq v7 w' => ∃ (x7_3 : Int), v7 = .int .i64 x7_3 ∧ Aside0 (swageref09_Lex.l3 kq a0 x5_1 x6_1 x7_3 2 = some (r1, r2, r3)) ∧ Aside0 (kq ≤ kj7) ∧ Aside0 (Kd.R k30 30 w' w.heap.size (fun _ => True) u5 x5_1) ∧ Aside0 (Below w.heap.size w w'))
                              case atStart => exact ⟨(x6_1), (by first | rfl | (simp; done) | (simp [*]; done)), H', ⟨Nat.le_refl _⟩, ⟨by (with_reducible repeat (first | apply Kd.R_alloc | apply Kd.R_drewN | apply Kd.R_drew)); exact HO_5.out⟩, ⟨by repeat (first | (with_reducible first | exact HB.out | apply below_alloc | apply pw_below_drewN | apply below_drew1) | exact HB.out)⟩⟩
                              case round =>
                                clear H'
                                try clear c1
                                try clear p1
                                try clear q1
                                try clear hx1
                                try clear c2
                                try clear c2b0
                                try clear c2b1
                                try clear p2
                                try clear q2
                                try clear hx2
                                try clear c3
                                try clear c3b0
                                try clear p3
                                try clear q3
                                try clear hx3
                                try clear c4
                                try clear c4b0
                                try clear p4
                                try clear q4
                                try clear hx4
                                try clear p5
                                try clear q5
                                try clear hx5
                                try clear p6
                                try clear c7
                                try clear p9
                                try clear q9
                                try clear hx9
                                try clear c10
                                try clear c10b0
                                try clear c10b1
                                try clear c11
                                try clear c11b0
                                try clear c13
                                try clear c13b0
                                try clear p14
                                try clear q14
                                try clear hx14
                                try clear c15
                                try clear c16
                                try clear c16b0
                                try clear c17
                                try clear c17b0
                                try clear p18
                                try clear q18
                                try clear hx18
                                try clear c19
                                try clear c19b0
                                try clear c19b1
                                try clear c20
                                try clear c20b0
                                try clear c21
                                try clear c21b0
                                try clear p22
                                try clear q22
                                try clear hx22
                                try clear c23
                                try clear c24
                                try clear c25
                                try clear c25b0
                                try clear c26
                                try clear c26b0
                                try clear p27
                                try clear q27
                                try clear hx27
                                try clear c29
                                try clear p30
                                try clear q30
                                try clear hx30
                                try clear c32
                                try clear c33
                                try clear c33b0
                                try clear c33b1
                                try clear c34
                                try clear c34b0
                                try clear c34b1
                                try clear c35
                                try clear c35b0
                                try clear c35b1
                                try clear c36
                                try clear c38
                                try clear c38b0
                                try clear c38b1
                                try clear c39
                                try clear c39b0
                                try clear c39b1
                                try clear c40
                                try clear c40b0
                                try clear c40b1
                                try clear c41
                                try clear p43
                                try clear q43
                                try clear hx43
                                try clear c45
                                try clear p1
                                try clear p14
                                try clear p18
                                try clear p2
                                try clear p22
                                try clear p27
                                try clear p30
                                try clear p43
                                try clear p5
                                try clear p6
                                try clear p9
                                try clear q1
                                try clear q14
                                try clear q18
                                try clear q2
                                try clear q22
                                try clear q27
                                try clear q30
                                try clear q43
                                try clear q5
                                try clear q9
                                obtain ⟨x7_3, rfl, HA, HK3, HO_5, HB⟩ := hrel
                                cases gk with
                                | zero => exact absurd HA.out (by simp [swageref09_Lex.l3])
                                | succ k3 =>
                                  have H := HA.out
                                  clear HA
                                  simp only [swageref09_Lex.l3] at H
                                  by_cases c47 : x7_3 < (a0.size : Int)
                                  · rw [if_pos c47] at H
                                    have c47b0 : decide (x7_3 < (a0.size : Int)) = true := decide_eq_true c47
                                    clear c47
                                    (first | rw [c47b0] | (simp only [i64_w, i32_w]; rw [c47b0]) | skip)
                                    by_cases c48 : 0 ≤ x7_3
                                    · rw [if_pos c48] at H
                                      have c48b0 : decide (0 ≤ x7_3) = true := decide_eq_true c48
                                      clear c48
                                      replace H := Option.bind_eq_some_iff.mp H
                                      obtain ⟨t141, A500, H⟩ := H
                                      replace H : (if t141 = true then (swageref09_Lex.l3 k3 a0 x5_1 x6_1 (wrap64 (x7_3 + 1)) 2) else (swageref09_Lex.j5 k3 a0 x5_1 x6_1 x7_3 2)) = some (r1, r2, r3) := H
                                      have A50 := Aside0.mk A500
                                      clear A500
                                      by_cases c51 : t141 = true
                                      · subst c51
                                        have H1 : (swageref09_Lex.l3 k3 a0 x5_1 x6_1 (wrap64 (x7_3 + 1)) 2) = some (r1, r2, r3) := by rw [if_pos rfl] at H; exact H
                                        clear H
                                        have H := H1
                                        clear H1
                                        have H' := Aside0.mk H
                                        clear H
                                        have p49 : 0 ≤ (x7_3 : Int) := of_decide_eq_true (by first | (with_reducible assumption) | assumption)
                                        have q49 : x7_3 < (a0.size : Int) := of_decide_eq_true (by first | (with_reducible assumption) | assumption)
                                        have hx49 := bt_at a0 x7_3
                                        replace p49 := eq_true p49
                                        replace q49 := eq_true q49
                                        go_wp2_with (first | (go_at_call 25; (with_reducible refine (swageref09_digit.calls (bt a0 x7_3) true _ A50.out).mono ?_); rintro e w' ⟨rfl, ⟨nd, rfl⟩⟩))
                                        go_roundg k3
                                        case measure => have := HK1.out; have := HJ7.out; have := HK3.out; omega
                                        case rel => exact ⟨(wrap64 (x7_3 + 1)), (by first | rfl | (simp; done) | (simp [*]; done)), H', ⟨by have := HK1.out; have := HJ7.out; have := HK3.out; omega⟩, ⟨by (with_reducible repeat (first | apply Kd.R_alloc | apply Kd.R_drewN | apply Kd.R_drew)); exact HO_5.out⟩, ⟨by repeat (first | (with_reducible first | exact HB.out | apply below_alloc | apply pw_below_drewN | apply below_drew1) | exact HB.out)⟩⟩
                                      · replace c51 := Bool.eq_false_iff.mpr c51
                                        subst c51
                                        have H1 : (swageref09_Lex.j5 k3 a0 x5_1 x6_1 x7_3 2) = some (r1, r2, r3) := by rw [if_neg (show ¬ (false = true) by decide)] at H; exact H
                                        clear H
                                        have H := H1
                                        clear H1
                                        have H' := Aside0.mk H
                                        clear H
                                        have p49 : 0 ≤ (x7_3 : Int) := of_decide_eq_true (by first | (with_reducible assumption) | assumption)
                                        have q49 : x7_3 < (a0.size : Int) := of_decide_eq_true (by first | (with_reducible assumption) | assumption)
                                        have hx49 := bt_at a0 x7_3
                                        replace p49 := eq_true p49
                                        replace q49 := eq_true q49
                                        go_wp2_with (first | (go_at_call 25; (with_reducible refine (swageref09_digit.calls (bt a0 x7_3) false _ A50.out).mono ?_); rintro e w' ⟨rfl, ⟨nd, rfl⟩⟩))
                                        go_meet
                                        case rel => exact ⟨_, (x7_3), (by first | rfl | (simp; done) | (simp [*]; done)), H', ⟨by have := HK1.out; have := HJ7.out; have := HK3.out; first | omega | exact Nat.le_refl _⟩, ⟨by (with_reducible repeat (first | apply Kd.R_alloc | apply Kd.R_drewN | apply Kd.R_drew)); exact HO_5.out⟩, ⟨by repeat (first | (with_reducible first | exact HB.out | apply below_alloc | apply pw_below_drewN | apply below_drew1) | exact HB.out)⟩⟩
                                    · rw [if_neg c48] at H
                                      exact absurd H (by simp)
                                  · rw [if_neg c47] at H
                                    have c47b0 : decide (x7_3 < (a0.size : Int)) = false := decide_eq_false c47
                                    clear c47
                                    (first | rw [c47b0] | (simp only [i64_w, i32_w]; rw [c47b0]) | skip)
                                    have H' := Aside0.mk H
                                    clear H
                                    go_wp2
                                    go_meet
                                    case rel => exact ⟨_, (x7_3), (by first | rfl | (simp; done) | (simp [*]; done)), H', ⟨by have := HK1.out; have := HJ7.out; have := HK3.out; first | omega | exact Nat.le_refl _⟩, ⟨by (with_reducible repeat (first | apply Kd.R_alloc | apply Kd.R_drewN | apply Kd.R_drew)); exact HO_5.out⟩, ⟨by repeat (first | (with_reducible first | exact HB.out | apply below_alloc | apply pw_below_drewN | apply below_drew1) | exact HB.out)⟩⟩
                            case rest =>
                              clear HC46
                              try clear c1
                              try clear p1
                              try clear q1
                              try clear hx1
                              try clear c2
                              try clear c2b0
                              try clear c2b1
                              try clear p2
                              try clear q2
                              try clear hx2
                              try clear c3
                              try clear c3b0
                              try clear p3
                              try clear q3
                              try clear hx3
                              try clear c4
                              try clear c4b0
                              try clear p4
                              try clear q4
                              try clear hx4
                              try clear c5
                              try clear p5
                              try clear q5
                              try clear hx5
                              try clear p6
                              try clear c7
                              try clear p9
                              try clear q9
                              try clear hx9
                              try clear c10
                              try clear c10b0
                              try clear c10b1
                              try clear c11
                              try clear c11b0
                              try clear c13
                              try clear c13b0
                              try clear p14
                              try clear q14
                              try clear hx14
                              try clear c15
                              try clear c16
                              try clear c16b0
                              try clear c17
                              try clear c17b0
                              try clear p18
                              try clear q18
                              try clear hx18
                              try clear c19
                              try clear c19b0
                              try clear c19b1
                              try clear c20
                              try clear c20b0
                              try clear c21
                              try clear c21b0
                              try clear p22
                              try clear q22
                              try clear hx22
                              try clear c23
                              try clear c24
                              try clear c25
                              try clear c25b0
                              try clear c26
                              try clear c26b0
                              try clear p27
                              try clear q27
                              try clear hx27
                              try clear c29
                              try clear p30
                              try clear q30
                              try clear hx30
                              try clear c32
                              try clear c33
                              try clear c33b0
                              try clear c33b1
                              try clear c34
                              try clear c34b0
                              try clear c34b1
                              try clear c35
                              try clear c35b0
                              try clear c35b1
                              try clear c36
                              try clear c38
                              try clear c38b0
                              try clear c38b1
                              try clear c39
                              try clear c39b0
                              try clear c39b1
                              try clear c40
                              try clear c40b0
                              try clear c40b1
                              try clear c41
                              try clear p43
                              try clear q43
                              try clear hx43
                              try clear c45
                              try clear c47
                              try clear c47b0
                              try clear c48
                              try clear c48b0
                              try clear p49
                              try clear q49
                              try clear hx49
                              try clear c51
                              try clear p1
                              try clear p14
                              try clear p18
                              try clear p2
                              try clear p22
                              try clear p27
                              try clear p3
                              try clear p30
                              try clear p4
                              try clear p43
                              try clear p49
                              try clear p5
                              try clear p6
                              try clear p9
                              try clear q1
                              try clear q14
                              try clear q18
                              try clear q2
                              try clear q22
                              try clear q27
                              try clear q3
                              try clear q30
                              try clear q4
                              try clear q43
                              try clear q49
                              try clear q5
                              try clear q9
                              obtain ⟨kq, x7_45, rfl, HA, HJ45, HO_5, HB⟩ := hcut
                              cases kq with
                              | zero => exact absurd HA.out (by simp [swageref09_Lex.j5])
                              | succ kj45 =>
                                have H := HA.out
                                clear HA
                                simp only [swageref09_Lex.j5] at H
                                by_cases c52 : 0 ≤ x6_1
                                · rw [if_pos c52] at H
                                  have c52b0 := eq_true c52
                                  have c52b1 : decide (0 ≤ x6_1) = true := decide_eq_true c52
                                  clear c52
                                  by_cases c53 : x6_1 ≤ x7_45
                                  · rw [if_pos c53] at H
                                    have c53b0 := eq_true c53
                                    have c53b1 : decide (x6_1 ≤ x7_45) = true := decide_eq_true c53
                                    clear c53
                                    by_cases c54 : x7_45 ≤ (a0.size : Int)
                                    · rw [if_pos c54] at H
                                      have c54b0 := eq_true c54
                                      have c54b1 : decide (x7_45 ≤ (a0.size : Int)) = true := decide_eq_true c54
                                      clear c54
                                      replace H := Option.bind_eq_some_iff.mp H
                                      obtain ⟨⟨t142, t143⟩, A550, H⟩ := H
                                      replace H : (if t143 = true then (if x7_45 < (a0.size : Int) then (if 0 ≤ x7_45 then ((swageref09_letter.f (bt a0 x7_45)).bind fun t144 => (if t144 = true then (some (([] : List (S30)), x6_1, 2)) else (if x5_1.length < 4398046511104 then (swageref09_Lex.l0 kj45 a0 (x5_1 ++ [(⟨2, a0.extract (x6_1 : Int).toNat (x7_45 : Int).toNat, x6_1⟩ : S30)]) x7_45) else (none)))) else (none)) else (if x5_1.length < 4398046511104 then (swageref09_Lex.l0 kj45 a0 (x5_1 ++ [(⟨2, a0.extract (x6_1 : Int).toNat (x7_45 : Int).toNat, x6_1⟩ : S30)]) x7_45) else (none))) else (some (([] : List (S30)), x6_1, 2))) = some (r1, r2, r3) := H
                                      have A55 := Aside0.mk A550
                                      clear A550
                                      by_cases c56 : t143 = true
                                      · subst c56
                                        have H1 : (if x7_45 < (a0.size : Int) then (if 0 ≤ x7_45 then ((swageref09_letter.f (bt a0 x7_45)).bind fun t144 => (if t144 = true then (some (([] : List (S30)), x6_1, 2)) else (if x5_1.length < 4398046511104 then (swageref09_Lex.l0 kj45 a0 (x5_1 ++ [(⟨2, a0.extract (x6_1 : Int).toNat (x7_45 : Int).toNat, x6_1⟩ : S30)]) x7_45) else (none)))) else (none)) else (if x5_1.length < 4398046511104 then (swageref09_Lex.l0 kj45 a0 (x5_1 ++ [(⟨2, a0.extract (x6_1 : Int).toNat (x7_45 : Int).toNat, x6_1⟩ : S30)]) x7_45) else (none))) = some (r1, r2, r3) := by rw [if_pos rfl] at H; exact H
                                        clear H
                                        have H := H1
                                        clear H1
                                        by_cases c57 : x7_45 < (a0.size : Int)
                                        · rw [if_pos c57] at H
                                          have c57b0 : decide (x7_45 < (a0.size : Int)) = true := decide_eq_true c57
                                          clear c57
                                          by_cases c58 : 0 ≤ x7_45
                                          · rw [if_pos c58] at H
                                            have c58b0 : decide (0 ≤ x7_45) = true := decide_eq_true c58
                                            clear c58
                                            replace H := Option.bind_eq_some_iff.mp H
                                            obtain ⟨t144, A600, H⟩ := H
                                            replace H : (if t144 = true then (some (([] : List (S30)), x6_1, 2)) else (if x5_1.length < 4398046511104 then (swageref09_Lex.l0 kj45 a0 (x5_1 ++ [(⟨2, a0.extract (x6_1 : Int).toNat (x7_45 : Int).toNat, x6_1⟩ : S30)]) x7_45) else (none))) = some (r1, r2, r3) := H
                                            have A60 := Aside0.mk A600
                                            clear A600
                                            by_cases c61 : t144 = true
                                            · subst c61
                                              have H1 : (some (([] : List (S30)), x6_1, 2)) = some (r1, r2, r3) := by rw [if_pos rfl] at H; exact H
                                              clear H
                                              have H := H1
                                              clear H1
                                              simp only [Option.some.injEq, Prod.mk.injEq] at H
                                              obtain ⟨rfl, rfl, rfl⟩ := H
                                              go_wp2_with (first | ((with_reducible refine gate_callee (f := 14) rfl ?_); refine goesL_ (some 98) rfl rfl Try.func14 (by kernel_rfl) rfl #[.string (a0.extract (x6_1 : Int).toNat (x7_45 : Int).toNat)] rfl (by (try simp only [List.map_toArray, List.map_cons, List.map_nil]); first | done | rfl | (simp only [List.length_drop, List.length_take]; rfl)) ?_; (with_reducible refine (swageref09_Number.calls kj45 (a0.extract (x6_1 : Int).toNat (x7_45 : Int).toNat) t142 true _ A55.out).mono ?_); rintro e w' ⟨rfl, ⟨nd, rfl⟩⟩; refine ⟨_, rfl, ?_⟩; have p59 : 0 ≤ (x7_45 : Int) := of_decide_eq_true (by first | (with_reducible assumption) | assumption); have q59 : x7_45 < (a0.size : Int) := of_decide_eq_true (by first | (with_reducible assumption) | assumption); have hx59 := bt_at a0 x7_45; replace p59 := eq_true p59; replace q59 := eq_true q59) | (go_at_call 24; (with_reducible refine (swageref09_letter.calls (bt a0 x7_45) true _ A60.out).mono ?_); rintro e w' ⟨rfl, ⟨nd, rfl⟩⟩))
                                              go_ret3
                                              exact ⟨_, by first | rfl | (simp [errW_none, errW_some] <;> rfl) | (simp [*, errW_none, errW_some] <;> rfl), by first | exact Kd.R_nil _ _ _ _ _ | exact Kd.N_nil _ _ _ _ _ | exact Kd.V_nil _ _ _ _ _ | exact Kd.Q_nil _ _ _ _ _ | exact Kd.S_nil _ _ _ _ _, by repeat (first | (with_reducible first | exact HB.out | apply below_alloc | apply pw_below_drewN | apply below_drew1) | exact HB.out)⟩
                                            · replace c61 := Bool.eq_false_iff.mpr c61
                                              subst c61
                                              have H1 : (if x5_1.length < 4398046511104 then (swageref09_Lex.l0 kj45 a0 (x5_1 ++ [(⟨2, a0.extract (x6_1 : Int).toNat (x7_45 : Int).toNat, x6_1⟩ : S30)]) x7_45) else (none)) = some (r1, r2, r3) := by rw [if_neg (show ¬ (false = true) by decide)] at H; exact H
                                              clear H
                                              have H := H1
                                              clear H1
                                              have c62b0 := eq_true (of_decide_eq_true (by first | (with_reducible assumption) | assumption) : 0 ≤ x6_1)
                                              have c63b0 := eq_true (of_decide_eq_true (by first | (with_reducible assumption) | assumption) : x6_1 ≤ x7_45)
                                              have c64b0 := eq_true (of_decide_eq_true (by first | (with_reducible assumption) | assumption) : x7_45 ≤ (a0.size : Int))
                                              by_cases c65 : x5_1.length < 4398046511104
                                              · rw [if_pos c65] at H
                                                have LMc65 := Aside0.mk c65
                                                clear c65
                                                obtain ⟨y145, hy145⟩ : ∃ y_ : List (S30), y_ = (x5_1 ++ [(⟨2, a0.extract (x6_1 : Int).toNat (x7_45 : Int).toNat, x6_1⟩ : S30)]) := ⟨_, rfl⟩
                                                replace H : (swageref09_Lex.l0 kj45 a0 y145 x7_45) = some (r1, r2, r3) := by first | (rw [hy145]; with_reducible exact H) | (have H2_ := (Option.bind_some _ _).symm.trans H; rw [hy145]; with_reducible exact H2_) | (have H2_ := (Option.bind_some _ _).symm.trans H; with_reducible exact H2_) | with_reducible exact H | (rw [hy145]; exact H) | exact H
                                                have Ny145 := Aside0.mk hy145
                                                clear hy145
                                                have H' := Aside0.mk H
                                                clear H
                                                go_wp2_with (first | ((with_reducible refine gate_callee (f := 14) rfl ?_); refine goesL_ (some 98) rfl rfl Try.func14 (by kernel_rfl) rfl #[.string (a0.extract (x6_1 : Int).toNat (x7_45 : Int).toNat)] rfl (by (try simp only [List.map_toArray, List.map_cons, List.map_nil]); first | done | rfl | (simp only [List.length_drop, List.length_take]; rfl)) ?_; (with_reducible refine (swageref09_Number.calls kj45 (a0.extract (x6_1 : Int).toNat (x7_45 : Int).toNat) t142 true _ A55.out).mono ?_); rintro e w' ⟨rfl, ⟨nd, rfl⟩⟩; refine ⟨_, rfl, ?_⟩; have p59 : 0 ≤ (x7_45 : Int) := of_decide_eq_true (by first | (with_reducible assumption) | assumption); have q59 : x7_45 < (a0.size : Int) := of_decide_eq_true (by first | (with_reducible assumption) | assumption); have hx59 := bt_at a0 x7_45; replace p59 := eq_true p59; replace q59 := eq_true q59) | (go_at_call 24; (with_reducible refine (swageref09_letter.calls (bt a0 x7_45) false _ A60.out).mono ?_); rintro e w' ⟨rfl, ⟨nd, rfl⟩⟩) | ((with_reducible refine gate_builtin (b := .append) (xs := #[.tmp 140, .tmp 148]) rfl ?_); (try (refine gate_guard (by rfl) ?_; dsimp only)); at_builtin; refine Kd.R_append k30 (w0 := w) w.heap.size rfl (.tmp 140) (.tmp 148) 23 30 (.agg #[(.int .i64 0), (.string ⟨#[]⟩), (.int .i64 0)]) 32 rfl Try.underlying23 info30 rfl (by decide) (by omega) u5 x5_1 (⟨2, a0.extract (x6_1 : Int).toNat (x7_45 : Int).toNat, x6_1⟩ : S30) [.int .i64 2, .string (a0.extract (x6_1 : Int).toNat (x7_45 : Int).toNat), .int .i64 x6_1] (fun _ => True) (fun _ => False) rfl rfl ?aP (fun _ hk => hk.elim) ?aF ?aO ?aB ?aS ?aL ?_; (case aP => exact k30_mkM _ _ _ (⟨2, a0.extract (x6_1 : Int).toNat (x7_45 : Int).toNat, x6_1⟩ : S30)); (case aB => exact (by repeat (first | (with_reducible first | exact HB.out | apply below_alloc | apply pw_below_drewN | apply below_drew1) | exact HB.out))); (case aF => exact (fun _ _ => trivial)); (case aO => exact (by (with_reducible repeat (first | apply Kd.R_alloc | apply Kd.R_drewN | apply Kd.R_drew)); exact HO_5.out)); (case aS => exact (below_size (by repeat (first | (with_reducible first | exact HB.out | apply below_alloc | apply pw_below_drewN | apply below_drew1) | exact HB.out)))); (case aL => have := LMc65.out; omega); intro v146 w66 ho hb hg hat; rw [← Ny145.out] at ho; have n0_ := Aside0.mk (hb); have n1_ := Aside0.mk (ho); clear HB; clear HO_5; have HB := n0_; have HO147 := n1_; clear n0_ n1_; clear ho hb hg hat))
                                                go_roundg kj45
                                                case measure => have := HK1.out; have := HJ7.out; have := HJ45.out; omega
                                                case rel => exact ⟨(y145), (x7_45), (by first | rfl | (simp; done) | (simp [*]; done)), H', ⟨by have := HK1.out; have := HJ7.out; have := HJ45.out; omega⟩, ⟨by (with_reducible repeat (first | apply Kd.R_alloc | apply Kd.R_drewN | apply Kd.R_drew)); exact HO147.out⟩, ⟨by repeat (first | (with_reducible first | exact HB.out | apply below_alloc | apply pw_below_drewN | apply below_drew1) | exact HB.out)⟩⟩
                                              · rw [if_neg c65] at H
                                                exact absurd H (by simp)
                                          · rw [if_neg c58] at H
                                            exact absurd H (by simp)
                                        · rw [if_neg c57] at H
                                          have c57b0 : decide (x7_45 < (a0.size : Int)) = false := decide_eq_false c57
                                          clear c57
                                          have c67b0 := eq_true (of_decide_eq_true (by first | (with_reducible assumption) | assumption) : 0 ≤ x6_1)
                                          have c68b0 := eq_true (of_decide_eq_true (by first | (with_reducible assumption) | assumption) : x6_1 ≤ x7_45)
                                          have c69b0 := eq_true (of_decide_eq_true (by first | (with_reducible assumption) | assumption) : x7_45 ≤ (a0.size : Int))
                                          by_cases c70 : x5_1.length < 4398046511104
                                          · rw [if_pos c70] at H
                                            have LMc70 := Aside0.mk c70
                                            clear c70
                                            obtain ⟨y148, hy148⟩ : ∃ y_ : List (S30), y_ = (x5_1 ++ [(⟨2, a0.extract (x6_1 : Int).toNat (x7_45 : Int).toNat, x6_1⟩ : S30)]) := ⟨_, rfl⟩
                                            replace H : (swageref09_Lex.l0 kj45 a0 y148 x7_45) = some (r1, r2, r3) := by first | (rw [hy148]; with_reducible exact H) | (have H2_ := (Option.bind_some _ _).symm.trans H; rw [hy148]; with_reducible exact H2_) | (have H2_ := (Option.bind_some _ _).symm.trans H; with_reducible exact H2_) | with_reducible exact H | (rw [hy148]; exact H) | exact H
                                            have Ny148 := Aside0.mk hy148
                                            clear hy148
                                            have H' := Aside0.mk H
                                            clear H
                                            go_wp2_with (first | ((with_reducible refine gate_callee (f := 14) rfl ?_); refine goesL_ (some 98) rfl rfl Try.func14 (by kernel_rfl) rfl #[.string (a0.extract (x6_1 : Int).toNat (x7_45 : Int).toNat)] rfl (by (try simp only [List.map_toArray, List.map_cons, List.map_nil]); first | done | rfl | (simp only [List.length_drop, List.length_take]; rfl)) ?_; (with_reducible refine (swageref09_Number.calls kj45 (a0.extract (x6_1 : Int).toNat (x7_45 : Int).toNat) t142 true _ A55.out).mono ?_); rintro e w' ⟨rfl, ⟨nd, rfl⟩⟩; refine ⟨_, rfl, ?_⟩) | ((with_reducible refine gate_builtin (b := .append) (xs := #[.tmp 140, .tmp 148]) rfl ?_); (try (refine gate_guard (by rfl) ?_; dsimp only)); at_builtin; refine Kd.R_append k30 (w0 := w) w.heap.size rfl (.tmp 140) (.tmp 148) 23 30 (.agg #[(.int .i64 0), (.string ⟨#[]⟩), (.int .i64 0)]) 32 rfl Try.underlying23 info30 rfl (by decide) (by omega) u5 x5_1 (⟨2, a0.extract (x6_1 : Int).toNat (x7_45 : Int).toNat, x6_1⟩ : S30) [.int .i64 2, .string (a0.extract (x6_1 : Int).toNat (x7_45 : Int).toNat), .int .i64 x6_1] (fun _ => True) (fun _ => False) rfl rfl ?aP (fun _ hk => hk.elim) ?aF ?aO ?aB ?aS ?aL ?_; (case aP => exact k30_mkM _ _ _ (⟨2, a0.extract (x6_1 : Int).toNat (x7_45 : Int).toNat, x6_1⟩ : S30)); (case aB => exact (by repeat (first | (with_reducible first | exact HB.out | apply below_alloc | apply pw_below_drewN | apply below_drew1) | exact HB.out))); (case aF => exact (fun _ _ => trivial)); (case aO => exact (by (with_reducible repeat (first | apply Kd.R_alloc | apply Kd.R_drewN | apply Kd.R_drew)); exact HO_5.out)); (case aS => exact (below_size (by repeat (first | (with_reducible first | exact HB.out | apply below_alloc | apply pw_below_drewN | apply below_drew1) | exact HB.out)))); (case aL => have := LMc70.out; omega); intro v149 w71 ho hb hg hat; rw [← Ny148.out] at ho; have n0_ := Aside0.mk (hb); have n1_ := Aside0.mk (ho); clear HB; clear HO_5; have HB := n0_; have HO150 := n1_; clear n0_ n1_; clear ho hb hg hat))
                                            go_roundg kj45
                                            case measure => have := HK1.out; have := HJ7.out; have := HJ45.out; omega
                                            case rel => exact ⟨(y148), (x7_45), (by first | rfl | (simp; done) | (simp [*]; done)), H', ⟨by have := HK1.out; have := HJ7.out; have := HJ45.out; omega⟩, ⟨by (with_reducible repeat (first | apply Kd.R_alloc | apply Kd.R_drewN | apply Kd.R_drew)); exact HO150.out⟩, ⟨by repeat (first | (with_reducible first | exact HB.out | apply below_alloc | apply pw_below_drewN | apply below_drew1) | exact HB.out)⟩⟩
                                          · rw [if_neg c70] at H
                                            exact absurd H (by simp)
                                      · replace c56 := Bool.eq_false_iff.mpr c56
                                        subst c56
                                        have H1 : (some (([] : List (S30)), x6_1, 2)) = some (r1, r2, r3) := by rw [if_neg (show ¬ (false = true) by decide)] at H; exact H
                                        clear H
                                        have H := H1
                                        clear H1
                                        simp only [Option.some.injEq, Prod.mk.injEq] at H
                                        obtain ⟨rfl, rfl, rfl⟩ := H
                                        go_wp2_with (first | ((with_reducible refine gate_callee (f := 14) rfl ?_); refine goesL_ (some 98) rfl rfl Try.func14 (by kernel_rfl) rfl #[.string (a0.extract (x6_1 : Int).toNat (x7_45 : Int).toNat)] rfl (by (try simp only [List.map_toArray, List.map_cons, List.map_nil]); first | done | rfl | (simp only [List.length_drop, List.length_take]; rfl)) ?_; (with_reducible refine (swageref09_Number.calls kj45 (a0.extract (x6_1 : Int).toNat (x7_45 : Int).toNat) t142 false _ A55.out).mono ?_); rintro e w' ⟨rfl, ⟨nd, rfl⟩⟩; refine ⟨_, rfl, ?_⟩))
                                        go_ret3
                                        exact ⟨_, by first | rfl | (simp [errW_none, errW_some] <;> rfl) | (simp [*, errW_none, errW_some] <;> rfl), by first | exact Kd.R_nil _ _ _ _ _ | exact Kd.N_nil _ _ _ _ _ | exact Kd.V_nil _ _ _ _ _ | exact Kd.Q_nil _ _ _ _ _ | exact Kd.S_nil _ _ _ _ _, by repeat (first | (with_reducible first | exact HB.out | apply below_alloc | apply pw_below_drewN | apply below_drew1) | exact HB.out)⟩
                                    · rw [if_neg c54] at H
                                      exact absurd H (by simp)
                                  · rw [if_neg c53] at H
                                    exact absurd H (by simp)
                                · rw [if_neg c52] at H
                                  exact absurd H (by simp)
                          · replace c45 := Bool.eq_false_iff.mpr c45
                            subst c45
                            have H1 : (if (wrap64 (x6_1 + 1)) < (a0.size : Int) then (if x6_1 ≤ (wrap64 (x6_1 + 2)) then (if (wrap64 (x6_1 + 2)) ≤ (a0.size : Int) then ((swageref09_Sign.f kj7 (a0.extract (x6_1 : Int).toNat ((wrap64 (x6_1 + 2)) : Int).toNat)).bind fun t151 => (swageref09_Lex.j6 kj7 a0 x5_1 x6_1 3 t151)) else (none)) else (none)) else (swageref09_Lex.j6 kj7 a0 x5_1 x6_1 3 false)) = some (r1, r2, r3) := by rw [if_neg (show ¬ (false = true) by decide)] at H; exact H
                            clear H
                            have H := H1
                            clear H1
                            have HC72 := Aside0.mk H
                            clear H
                            have p22 : 0 ≤ (x6_1 : Int) := of_decide_eq_true (by first | (with_reducible assumption) | assumption)
                            have q22 : x6_1 < (a0.size : Int) := of_decide_eq_true (by first | (with_reducible assumption) | assumption)
                            have hx22 := bt_at a0 x6_1
                            replace p22 := eq_true p22
                            replace q22 := eq_true q22
                            go_upto_region 24 with (first | ((with_reducible refine gate_callee (f := 24) rfl ?_); refine goesL_ (some 58) rfl rfl Try.func24 (by kernel_rfl) rfl #[.int .u8 (bt a0 x6_1)] rfl (by (try simp only [List.map_toArray, List.map_cons, List.map_nil]); first | done | rfl | (simp only [List.length_drop, List.length_take]; rfl)) ?_; (with_reducible refine (swageref09_letter.calls (bt a0 x6_1) false _ A23.out).mono ?_); rintro e w' ⟨rfl, ⟨nd, rfl⟩⟩; refine ⟨_, rfl, ?_⟩; have p43 : 0 ≤ (x6_1 : Int) := of_decide_eq_true (by first | (with_reducible assumption) | assumption); have q43 : x6_1 < (a0.size : Int) := of_decide_eq_true (by first | (with_reducible assumption) | assumption); have hx43 := bt_at a0 x6_1; replace p43 := eq_true p43; replace q43 := eq_true q43) | ((with_reducible refine gate_callee (f := 25) rfl ?_); refine goesL_ (some 80) rfl rfl Try.func25 (by kernel_rfl) rfl #[.int .u8 (bt a0 x6_1)] rfl (by (try simp only [List.map_toArray, List.map_cons, List.map_nil]); first | done | rfl | (simp only [List.length_drop, List.length_take]; rfl)) ?_; (with_reducible refine (swageref09_digit.calls (bt a0 x6_1) false _ A44.out).mono ?_); rintro e w' ⟨rfl, ⟨nd, rfl⟩⟩; refine ⟨_, rfl, ?_⟩))
                            (try simp only [Act.put, List.setIfInBounds_toArray, List.set_cons_zero, List.set_cons_succ])
                            go_cut [128] (fun v128 wc => ∃ (kq : Nat) (x128_71 : Bool), v128 = .bool x128_71 ∧ Aside0 (swageref09_Lex.j6 kq a0 x5_1 x6_1 3 x128_71 = some (r1, r2, r3)) ∧ Aside0 (kq ≤ kj7) ∧ Aside0 (Kd.R k30 30 wc w.heap.size (fun _ => True) u5 x5_1) ∧ Aside0 (Below w.heap.size w wc))
                            case first =>
                              have H := HC72.out
                              clear HC72
                              by_cases c73 : (wrap64 (x6_1 + 1)) < (a0.size : Int)
                              · rw [if_pos c73] at H
                                have c73b0 : decide ((wrap64 (x6_1 + 1)) < (a0.size : Int)) = true := decide_eq_true c73
                                clear c73
                                (first | rw [c73b0] | (simp only [i64_w, i32_w]; rw [c73b0]) | skip)
                                have c74b0 := eq_true (of_decide_eq_true (by first | (with_reducible assumption) | assumption) : 0 ≤ x6_1)
                                by_cases c75 : x6_1 ≤ (wrap64 (x6_1 + 2))
                                · rw [if_pos c75] at H
                                  have c75b0 := eq_true c75
                                  have c75b1 : decide (x6_1 ≤ (wrap64 (x6_1 + 2))) = true := decide_eq_true c75
                                  by_cases c76 : (wrap64 (x6_1 + 2)) ≤ (a0.size : Int)
                                  · rw [if_pos c76] at H
                                    have c76b0 := eq_true c76
                                    have c76b1 : decide ((wrap64 (x6_1 + 2)) ≤ (a0.size : Int)) = true := decide_eq_true c76
                                    replace H := Option.bind_eq_some_iff.mp H
                                    obtain ⟨t151, A770, H⟩ := H
                                    replace H : (swageref09_Lex.j6 kj7 a0 x5_1 x6_1 3 t151) = some (r1, r2, r3) := H
                                    have A77 := Aside0.mk A770
                                    clear A770
                                    have H' := Aside0.mk H
                                    clear H
                                    go_wp2_with (first | (go_at_call 18; (with_reducible refine (swageref09_Sign.calls kj7 (a0.extract (x6_1 : Int).toNat ((wrap64 (x6_1 + 2)) : Int).toNat) t151 _ A77.out).mono ?_); rintro e w78 ⟨rfl, hb⟩; have n0_ := Aside0.mk (Kd.R_below (by (with_reducible repeat (first | apply Kd.R_alloc | apply Kd.R_drewN | apply Kd.R_drew)); exact HO_5.out) hb); have n1_ := Aside0.mk (below_step (by repeat (first | (with_reducible first | exact HB.out | apply below_alloc | apply pw_below_drewN | apply below_drew1) | exact HB.out)) hb); clear HO_5; clear HB; have HO_5 := n0_; have HB := n1_; clear n0_ n1_; (try clear hb); (try clear hb2); (try clear hk); (try clear hi)))
                                    go_meet
                                    case rel => exact ⟨_, (t151), (by first | rfl | (simp; done) | (simp [*]; done)), H', ⟨by have := HK1.out; have := HJ7.out; first | omega | exact Nat.le_refl _⟩, ⟨by (with_reducible repeat (first | apply Kd.R_alloc | apply Kd.R_drewN | apply Kd.R_drew)); exact HO_5.out⟩, ⟨by repeat (first | (with_reducible first | exact HB.out | apply below_alloc | apply pw_below_drewN | apply below_drew1) | exact HB.out)⟩⟩
                                  · rw [if_neg c76] at H
                                    exact absurd H (by simp)
                                · rw [if_neg c75] at H
                                  exact absurd H (by simp)
                              · rw [if_neg c73] at H
                                have c73b0 : decide ((wrap64 (x6_1 + 1)) < (a0.size : Int)) = false := decide_eq_false c73
                                clear c73
                                (first | rw [c73b0] | (simp only [i64_w, i32_w]; rw [c73b0]) | skip)
                                have H' := Aside0.mk H
                                clear H
                                go_wp2
                                go_meet
                                case rel => exact ⟨_, (false), (by first | rfl | (simp; done) | (simp [*]; done)), H', ⟨by have := HK1.out; have := HJ7.out; first | omega | exact Nat.le_refl _⟩, ⟨by (with_reducible repeat (first | apply Kd.R_alloc | apply Kd.R_drewN | apply Kd.R_drew)); exact HO_5.out⟩, ⟨by repeat (first | (with_reducible first | exact HB.out | apply below_alloc | apply pw_below_drewN | apply below_drew1) | exact HB.out)⟩⟩
                            case rest =>
                              clear HC72
                              try clear c1
                              try clear p1
                              try clear q1
                              try clear hx1
                              try clear c2
                              try clear c2b0
                              try clear c2b1
                              try clear p2
                              try clear q2
                              try clear hx2
                              try clear c3
                              try clear c3b0
                              try clear p3
                              try clear q3
                              try clear hx3
                              try clear c4
                              try clear c4b0
                              try clear p4
                              try clear q4
                              try clear hx4
                              try clear c5
                              try clear p5
                              try clear q5
                              try clear hx5
                              try clear c6
                              try clear p6
                              try clear c7
                              try clear p9
                              try clear q9
                              try clear hx9
                              try clear c10
                              try clear c10b0
                              try clear c10b1
                              try clear c11
                              try clear c11b0
                              try clear c13
                              try clear c13b0
                              try clear c14
                              try clear p14
                              try clear q14
                              try clear hx14
                              try clear c15
                              try clear c16
                              try clear c16b0
                              try clear c17
                              try clear c17b0
                              try clear p18
                              try clear q18
                              try clear hx18
                              try clear c19
                              try clear c19b0
                              try clear c19b1
                              try clear c20
                              try clear c20b0
                              try clear c21
                              try clear c21b0
                              try clear p22
                              try clear q22
                              try clear hx22
                              try clear c23
                              try clear c24
                              try clear c25
                              try clear c25b0
                              try clear c26
                              try clear c26b0
                              try clear p27
                              try clear q27
                              try clear hx27
                              try clear c29
                              try clear p30
                              try clear q30
                              try clear hx30
                              try clear c32
                              try clear c33
                              try clear c33b0
                              try clear c33b1
                              try clear c34
                              try clear c34b0
                              try clear c34b1
                              try clear c35
                              try clear c35b0
                              try clear c35b1
                              try clear c36
                              try clear c38
                              try clear c38b0
                              try clear c38b1
                              try clear c39
                              try clear c39b0
                              try clear c39b1
                              try clear c40
                              try clear c40b0
                              try clear c40b1
                              try clear c41
                              try clear p43
                              try clear q43
                              try clear hx43
                              try clear c45
                              try clear c47
                              try clear c47b0
                              try clear c48
                              try clear c48b0
                              try clear p49
                              try clear q49
                              try clear hx49
                              try clear c51
                              try clear c52
                              try clear c52b0
                              try clear c52b1
                              try clear c53
                              try clear c53b0
                              try clear c53b1
                              try clear c54
                              try clear c54b0
                              try clear c54b1
                              try clear c56
                              try clear c57
                              try clear c57b0
                              try clear c58
                              try clear c58b0
                              try clear p59
                              try clear q59
                              try clear hx59
                              try clear c61
                              try clear c62
                              try clear c62b0
                              try clear c63
                              try clear c63b0
                              try clear c64
                              try clear c64b0
                              try clear p64
                              try clear c65
                              try clear c67
                              try clear c67b0
                              try clear c68
                              try clear c68b0
                              try clear c69
                              try clear c69b0
                              try clear c70
                              try clear c73
                              try clear c73b0
                              try clear c74
                              try clear c74b0
                              try clear c75
                              try clear c75b0
                              try clear c75b1
                              try clear c76
                              try clear c76b0
                              try clear c76b1
                              try clear p1
                              try clear p14
                              try clear p18
                              try clear p2
                              try clear p22
                              try clear p27
                              try clear p3
                              try clear p30
                              try clear p4
                              try clear p43
                              try clear p49
                              try clear p5
                              try clear p59
                              try clear p6
                              try clear p9
                              try clear q1
                              try clear q14
                              try clear q18
                              try clear q2
                              try clear q22
                              try clear q27
                              try clear q3
                              try clear q30
                              try clear q4
                              try clear q43
                              try clear q49
                              try clear q5
                              try clear q59
                              try clear q9
                              obtain ⟨kq, x128_71, rfl, HA, HJ71, HO_5, HB⟩ := hcut
                              cases kq with
                              | zero => exact absurd HA.out (by simp [swageref09_Lex.j6])
                              | succ kj71 =>
                                have H := HA.out
                                clear HA
                                simp only [swageref09_Lex.j6] at H
                                by_cases c79 : x128_71 = true
                                · subst c79
                                  have H1 : (if 0 ≤ x6_1 then (if x6_1 ≤ (wrap64 (x6_1 + 2)) then (if (wrap64 (x6_1 + 2)) ≤ (a0.size : Int) then (if x5_1.length < 4398046511104 then (swageref09_Lex.l0 kj71 a0 (x5_1 ++ [(⟨3, a0.extract (x6_1 : Int).toNat ((wrap64 (x6_1 + 2)) : Int).toNat, x6_1⟩ : S30)]) (wrap64 (x6_1 + 2))) else (none)) else (none)) else (none)) else (none)) = some (r1, r2, r3) := by rw [if_pos rfl] at H; exact H
                                  clear H
                                  have H := H1
                                  clear H1
                                  by_cases c80 : 0 ≤ x6_1
                                  · rw [if_pos c80] at H
                                    have c80b0 := eq_true c80
                                    have c80b1 : decide (0 ≤ x6_1) = true := decide_eq_true c80
                                    clear c80
                                    by_cases c81 : x6_1 ≤ (wrap64 (x6_1 + 2))
                                    · rw [if_pos c81] at H
                                      have c81b0 := eq_true c81
                                      have c81b1 : decide (x6_1 ≤ (wrap64 (x6_1 + 2))) = true := decide_eq_true c81
                                      by_cases c82 : (wrap64 (x6_1 + 2)) ≤ (a0.size : Int)
                                      · rw [if_pos c82] at H
                                        have c82b0 := eq_true c82
                                        have c82b1 : decide ((wrap64 (x6_1 + 2)) ≤ (a0.size : Int)) = true := decide_eq_true c82
                                        by_cases c83 : x5_1.length < 4398046511104
                                        · rw [if_pos c83] at H
                                          have LMc83 := Aside0.mk c83
                                          clear c83
                                          obtain ⟨y152, hy152⟩ : ∃ y_ : List (S30), y_ = (x5_1 ++ [(⟨3, a0.extract (x6_1 : Int).toNat ((wrap64 (x6_1 + 2)) : Int).toNat, x6_1⟩ : S30)]) := ⟨_, rfl⟩
                                          replace H : (swageref09_Lex.l0 kj71 a0 y152 (wrap64 (x6_1 + 2))) = some (r1, r2, r3) := by first | (rw [hy152]; with_reducible exact H) | (have H2_ := (Option.bind_some _ _).symm.trans H; rw [hy152]; with_reducible exact H2_) | (have H2_ := (Option.bind_some _ _).symm.trans H; with_reducible exact H2_) | with_reducible exact H | (rw [hy152]; exact H) | exact H
                                          have Ny152 := Aside0.mk hy152
                                          clear hy152
                                          have H' := Aside0.mk H
                                          clear H
                                          go_wp2_with (first | ((with_reducible refine gate_builtin (b := .append) (xs := #[.tmp 140, .tmp 148]) rfl ?_); (try (refine gate_guard (by rfl) ?_; dsimp only)); at_builtin; refine Kd.R_append k30 (w0 := w) w.heap.size rfl (.tmp 140) (.tmp 148) 23 30 (.agg #[(.int .i64 0), (.string ⟨#[]⟩), (.int .i64 0)]) 32 rfl Try.underlying23 info30 rfl (by decide) (by omega) u5 x5_1 (⟨3, a0.extract (x6_1 : Int).toNat ((wrap64 (x6_1 + 2)) : Int).toNat, x6_1⟩ : S30) [.int .i64 3, .string (a0.extract (x6_1 : Int).toNat ((wrap64 (x6_1 + 2)) : Int).toNat), .int .i64 x6_1] (fun _ => True) (fun _ => False) rfl rfl ?aP (fun _ hk => hk.elim) ?aF ?aO ?aB ?aS ?aL ?_; (case aP => exact k30_mkM _ _ _ (⟨3, a0.extract (x6_1 : Int).toNat ((wrap64 (x6_1 + 2)) : Int).toNat, x6_1⟩ : S30)); (case aB => exact (by repeat (first | (with_reducible first | exact HB.out | apply below_alloc | apply pw_below_drewN | apply below_drew1) | exact HB.out))); (case aF => exact (fun _ _ => trivial)); (case aO => exact (by (with_reducible repeat (first | apply Kd.R_alloc | apply Kd.R_drewN | apply Kd.R_drew)); exact HO_5.out)); (case aS => exact (below_size (by repeat (first | (with_reducible first | exact HB.out | apply below_alloc | apply pw_below_drewN | apply below_drew1) | exact HB.out)))); (case aL => have := LMc83.out; omega); intro v153 w84 ho hb hg hat; rw [← Ny152.out] at ho; have n0_ := Aside0.mk (hb); have n1_ := Aside0.mk (ho); clear HB; clear HO_5; have HB := n0_; have HO154 := n1_; clear n0_ n1_; clear ho hb hg hat))
                                          go_roundg kj71
                                          case measure => have := HK1.out; have := HJ7.out; have := HJ71.out; omega
                                          case rel => exact ⟨(y152), (wrap64 (x6_1 + 2)), (by first | rfl | (simp; done) | (simp [*]; done)), H', ⟨by have := HK1.out; have := HJ7.out; have := HJ71.out; omega⟩, ⟨by (with_reducible repeat (first | apply Kd.R_alloc | apply Kd.R_drewN | apply Kd.R_drew)); exact HO154.out⟩, ⟨by repeat (first | (with_reducible first | exact HB.out | apply below_alloc | apply pw_below_drewN | apply below_drew1) | exact HB.out)⟩⟩
                                        · rw [if_neg c83] at H
                                          exact absurd H (by simp)
                                      · rw [if_neg c82] at H
                                        exact absurd H (by simp)
                                    · rw [if_neg c81] at H
                                      exact absurd H (by simp)
                                  · rw [if_neg c80] at H
                                    exact absurd H (by simp)
                                · replace c79 := Bool.eq_false_iff.mpr c79
                                  subst c79
                                  have H1 : (if 0 ≤ x6_1 then (if x6_1 ≤ (wrap64 (x6_1 + 1)) then (if (wrap64 (x6_1 + 1)) ≤ (a0.size : Int) then ((swageref09_Sign.f kj71 (a0.extract (x6_1 : Int).toNat ((wrap64 (x6_1 + 1)) : Int).toNat)).bind fun t155 => (if t155 = true then (if x5_1.length < 4398046511104 then (swageref09_Lex.l0 kj71 a0 (x5_1 ++ [(⟨3, a0.extract (x6_1 : Int).toNat ((wrap64 (x6_1 + 1)) : Int).toNat, x6_1⟩ : S30)]) (wrap64 (x6_1 + 1))) else (none)) else (some (([] : List (S30)), x6_1, 2)))) else (none)) else (none)) else (none)) = some (r1, r2, r3) := by rw [if_neg (show ¬ (false = true) by decide)] at H; exact H
                                  clear H
                                  have H := H1
                                  clear H1
                                  by_cases c85 : 0 ≤ x6_1
                                  · rw [if_pos c85] at H
                                    have c85b0 := eq_true c85
                                    have c85b1 : decide (0 ≤ x6_1) = true := decide_eq_true c85
                                    clear c85
                                    by_cases c86 : x6_1 ≤ (wrap64 (x6_1 + 1))
                                    · rw [if_pos c86] at H
                                      have c86b0 := eq_true c86
                                      have c86b1 : decide (x6_1 ≤ (wrap64 (x6_1 + 1))) = true := decide_eq_true c86
                                      by_cases c87 : (wrap64 (x6_1 + 1)) ≤ (a0.size : Int)
                                      · rw [if_pos c87] at H
                                        have c87b0 := eq_true c87
                                        have c87b1 : decide ((wrap64 (x6_1 + 1)) ≤ (a0.size : Int)) = true := decide_eq_true c87
                                        replace H := Option.bind_eq_some_iff.mp H
                                        obtain ⟨t155, A880, H⟩ := H
                                        replace H : (if t155 = true then (if x5_1.length < 4398046511104 then (swageref09_Lex.l0 kj71 a0 (x5_1 ++ [(⟨3, a0.extract (x6_1 : Int).toNat ((wrap64 (x6_1 + 1)) : Int).toNat, x6_1⟩ : S30)]) (wrap64 (x6_1 + 1))) else (none)) else (some (([] : List (S30)), x6_1, 2))) = some (r1, r2, r3) := H
                                        have A88 := Aside0.mk A880
                                        clear A880
                                        by_cases c89 : t155 = true
                                        · subst c89
                                          have H1 : (if x5_1.length < 4398046511104 then (swageref09_Lex.l0 kj71 a0 (x5_1 ++ [(⟨3, a0.extract (x6_1 : Int).toNat ((wrap64 (x6_1 + 1)) : Int).toNat, x6_1⟩ : S30)]) (wrap64 (x6_1 + 1))) else (none)) = some (r1, r2, r3) := by rw [if_pos rfl] at H; exact H
                                          clear H
                                          have H := H1
                                          clear H1
                                          have c90b0 := eq_true (of_decide_eq_true (by first | (with_reducible assumption) | assumption) : 0 ≤ x6_1)
                                          have c91b0 := eq_true (of_decide_eq_true (by first | (with_reducible assumption) | assumption) : x6_1 ≤ (wrap64 (x6_1 + 1)))
                                          have c92b0 := eq_true (of_decide_eq_true (by first | (with_reducible assumption) | assumption) : (wrap64 (x6_1 + 1)) ≤ (a0.size : Int))
                                          by_cases c93 : x5_1.length < 4398046511104
                                          · rw [if_pos c93] at H
                                            have LMc93 := Aside0.mk c93
                                            clear c93
                                            obtain ⟨y156, hy156⟩ : ∃ y_ : List (S30), y_ = (x5_1 ++ [(⟨3, a0.extract (x6_1 : Int).toNat ((wrap64 (x6_1 + 1)) : Int).toNat, x6_1⟩ : S30)]) := ⟨_, rfl⟩
                                            replace H : (swageref09_Lex.l0 kj71 a0 y156 (wrap64 (x6_1 + 1))) = some (r1, r2, r3) := by first | (rw [hy156]; with_reducible exact H) | (have H2_ := (Option.bind_some _ _).symm.trans H; rw [hy156]; with_reducible exact H2_) | (have H2_ := (Option.bind_some _ _).symm.trans H; with_reducible exact H2_) | with_reducible exact H | (rw [hy156]; exact H) | exact H
                                            have Ny156 := Aside0.mk hy156
                                            clear hy156
                                            have H' := Aside0.mk H
                                            clear H
                                            go_wp2_with (first | ((with_reducible refine gate_callee (f := 18) rfl ?_); refine goesL_ (some 136) rfl rfl Try.func18 (by kernel_rfl) rfl #[.string (a0.extract (x6_1 : Int).toNat ((wrap64 (x6_1 + 1)) : Int).toNat)] rfl (by (try simp only [List.map_toArray, List.map_cons, List.map_nil]); first | done | rfl | (simp only [List.length_drop, List.length_take]; rfl)) ?_; (with_reducible refine (swageref09_Sign.calls kj71 (a0.extract (x6_1 : Int).toNat ((wrap64 (x6_1 + 1)) : Int).toNat) true _ A88.out).mono ?_); rintro e w94 ⟨rfl, hb⟩; refine ⟨_, rfl, ?_⟩; have n0_ := Aside0.mk (Kd.R_below (by (with_reducible repeat (first | apply Kd.R_alloc | apply Kd.R_drewN | apply Kd.R_drew)); exact HO_5.out) hb); have n1_ := Aside0.mk (below_step (by repeat (first | (with_reducible first | exact HB.out | apply below_alloc | apply pw_below_drewN | apply below_drew1) | exact HB.out)) hb); clear HO_5; clear HB; have HO_5 := n0_; have HB := n1_; clear n0_ n1_; (try clear hb); (try clear hb2); (try clear hk); (try clear hi)) | ((with_reducible refine gate_builtin (b := .append) (xs := #[.tmp 140, .tmp 148]) rfl ?_); (try (refine gate_guard (by rfl) ?_; dsimp only)); at_builtin; refine Kd.R_append k30 (w0 := w) w.heap.size rfl (.tmp 140) (.tmp 148) 23 30 (.agg #[(.int .i64 0), (.string ⟨#[]⟩), (.int .i64 0)]) 32 rfl Try.underlying23 info30 rfl (by decide) (by omega) u5 x5_1 (⟨3, a0.extract (x6_1 : Int).toNat ((wrap64 (x6_1 + 1)) : Int).toNat, x6_1⟩ : S30) [.int .i64 3, .string (a0.extract (x6_1 : Int).toNat ((wrap64 (x6_1 + 1)) : Int).toNat), .int .i64 x6_1] (fun _ => True) (fun _ => False) rfl rfl ?aP (fun _ hk => hk.elim) ?aF ?aO ?aB ?aS ?aL ?_; (case aP => exact k30_mkM _ _ _ (⟨3, a0.extract (x6_1 : Int).toNat ((wrap64 (x6_1 + 1)) : Int).toNat, x6_1⟩ : S30)); (case aB => exact (by repeat (first | (with_reducible first | exact HB.out | apply below_alloc | apply pw_below_drewN | apply below_drew1) | exact HB.out))); (case aF => exact (fun _ _ => trivial)); (case aO => exact (by (with_reducible repeat (first | apply Kd.R_alloc | apply Kd.R_drewN | apply Kd.R_drew)); exact HO_5.out)); (case aS => exact (below_size (by repeat (first | (with_reducible first | exact HB.out | apply below_alloc | apply pw_below_drewN | apply below_drew1) | exact HB.out)))); (case aL => have := LMc93.out; omega); intro v157 w95 ho hb hg hat; rw [← Ny156.out] at ho; have n0_ := Aside0.mk (hb); have n1_ := Aside0.mk (ho); clear HB; clear HO_5; have HB := n0_; have HO158 := n1_; clear n0_ n1_; clear ho hb hg hat))
                                            go_roundg kj71
                                            case measure => have := HK1.out; have := HJ7.out; have := HJ71.out; omega
                                            case rel => exact ⟨(y156), (wrap64 (x6_1 + 1)), (by first | rfl | (simp; done) | (simp [*]; done)), H', ⟨by have := HK1.out; have := HJ7.out; have := HJ71.out; omega⟩, ⟨by (with_reducible repeat (first | apply Kd.R_alloc | apply Kd.R_drewN | apply Kd.R_drew)); exact HO158.out⟩, ⟨by repeat (first | (with_reducible first | exact HB.out | apply below_alloc | apply pw_below_drewN | apply below_drew1) | exact HB.out)⟩⟩
                                          · rw [if_neg c93] at H
                                            exact absurd H (by simp)
                                        · replace c89 := Bool.eq_false_iff.mpr c89
                                          subst c89
                                          have H1 : (some (([] : List (S30)), x6_1, 2)) = some (r1, r2, r3) := by rw [if_neg (show ¬ (false = true) by decide)] at H; exact H
                                          clear H
                                          have H := H1
                                          clear H1
                                          simp only [Option.some.injEq, Prod.mk.injEq] at H
                                          obtain ⟨rfl, rfl, rfl⟩ := H
                                          go_wp2_with (first | ((with_reducible refine gate_callee (f := 18) rfl ?_); refine goesL_ (some 136) rfl rfl Try.func18 (by kernel_rfl) rfl #[.string (a0.extract (x6_1 : Int).toNat ((wrap64 (x6_1 + 1)) : Int).toNat)] rfl (by (try simp only [List.map_toArray, List.map_cons, List.map_nil]); first | done | rfl | (simp only [List.length_drop, List.length_take]; rfl)) ?_; (with_reducible refine (swageref09_Sign.calls kj71 (a0.extract (x6_1 : Int).toNat ((wrap64 (x6_1 + 1)) : Int).toNat) false _ A88.out).mono ?_); rintro e w96 ⟨rfl, hb⟩; refine ⟨_, rfl, ?_⟩; have n0_ := Aside0.mk (Kd.R_below (by (with_reducible repeat (first | apply Kd.R_alloc | apply Kd.R_drewN | apply Kd.R_drew)); exact HO_5.out) hb); have n1_ := Aside0.mk (below_step (by repeat (first | (with_reducible first | exact HB.out | apply below_alloc | apply pw_below_drewN | apply below_drew1) | exact HB.out)) hb); clear HO_5; clear HB; have HO_5 := n0_; have HB := n1_; clear n0_ n1_; (try clear hb); (try clear hb2); (try clear hk); (try clear hi)))
                                          go_ret3
                                          exact ⟨_, by first | rfl | (simp [errW_none, errW_some] <;> rfl) | (simp [*, errW_none, errW_some] <;> rfl), by first | exact Kd.R_nil _ _ _ _ _ | exact Kd.N_nil _ _ _ _ _ | exact Kd.V_nil _ _ _ _ _ | exact Kd.Q_nil _ _ _ _ _ | exact Kd.S_nil _ _ _ _ _, by repeat (first | (with_reducible first | exact HB.out | apply below_alloc | apply pw_below_drewN | apply below_drew1) | exact HB.out)⟩
                                      · rw [if_neg c87] at H
                                        exact absurd H (by simp)
                                    · rw [if_neg c86] at H
                                      exact absurd H (by simp)
                                  · rw [if_neg c85] at H
                                    exact absurd H (by simp)
                      · rw [if_neg c21] at H
                        exact absurd H (by simp)
                    · rw [if_neg c20] at H
                      exact absurd H (by simp)
          · rw [if_neg c4] at H
            exact absurd H (by simp)
        · rw [if_neg c3] at H
          have c3b0 : decide (x6_1 < (a0.size : Int)) = false := decide_eq_false c3
          clear c3
          simp only [Option.some.injEq, Prod.mk.injEq] at H
          obtain ⟨rfl, rfl, rfl⟩ := H
          go_wp2
          go_ret3
          exact ⟨_, by first | rfl | (simp [errW_none, errW_some] <;> rfl) | (simp [*, errW_none, errW_some] <;> rfl), by (with_reducible repeat (first | apply Kd.R_alloc | apply Kd.R_drewN | apply Kd.R_drew)); exact HO_5.out, by repeat (first | (with_reducible first | exact HB.out | apply below_alloc | apply pw_below_drewN | apply below_drew1) | exact HB.out)⟩

end Go.Proofs.Ytpjoajoacakpgaa.Q
