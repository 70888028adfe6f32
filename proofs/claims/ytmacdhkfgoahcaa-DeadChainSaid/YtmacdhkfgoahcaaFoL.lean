/- Contract: an operation, by what is known (numbers.op), all ways; what stays well formed. -/
import Derived.Test.YtmacdhkfgoahcaaFoJ
set_option linter.unusedVariables false
set_option linter.unusedSimpArgs false
namespace Go.Proofs.Ytmacdhkfgoahcaa.Fo
open Go Go.RowKit Go.Maps Go.Proofs.Ytmacdhkfgoahcaa.Q Go.Proofs.YtmacdhkfgoahcaaW.PrintWords Go.Proofs.YtmacdhkfgoahcaaW.PrintLast Go.Proofs.YtmacdhkfgoahcaaW.PrintMore
theorem op_any (nb cnt : Nat) (m : Fn) (x : S30) (A : Option Addr) (c : Nat) (h2 : wf x.f2) (h3 : wf x.f3) (w : World) (hm : MapI w nb cnt m) (hr : Kd.C (Kd.int .i64) w A x.f5.length x.f5) (hl : x.f5.length ≤ 17592186044416) :
    Calls Try.prog 54 #[.map (some nb), opV x (.slice A x.f5.length c)] w (OpPost (opP m x) w) := by
  rcases Bool.eq_false_or_eq_true (x.f0 == 3) with hq3 | hq3
  · have hq2 : (x.f0 == 2) = false := by
      have : x.f0 = 3 := by simpa using hq3
      rw [this]; rfl
    cases hs : m x.f2 with
    | some n =>
      have e : opP m x = constS x n := by unfold opP; simp [hq3, hs]
      rw [e]; exact op1 nb cnt m x A c h2 w hm n hq3 hs
    | none =>
      have e : opP m x = x := by unfold opP; simp [hq3, hs, hq2]
      rw [e]; exact op4 nb cnt m x A c h2 w hm hr hl hq3 hs hq2
  · rcases Bool.eq_false_or_eq_true (x.f0 == 2) with hq2 | hq2
    · rcases Bool.eq_false_or_eq_true (knownB x.f4) with hk | hk
      · have e : opP m x = reckonP m x := by unfold opP; simp [hq3, hq2, hk]
        rw [e]; exact op2 nb cnt m x A c h2 h3 w hm hr hl hq3 hq2 hk
      · have e : opP m x = x := by unfold opP; simp [hq3, hq2, hk]
        rw [e]; exact op5 nb cnt m x A c h2 w hm hr hl hq3 hq2 hk
    · have e : opP m x = x := by unfold opP; simp [hq3, hq2]
      rw [e]; exact op3 nb cnt m x A c h2 w hm hr hl hq3 hq2
/-- All numbers of an operation are of their kind. -/
structure WfOp (x : S30) : Prop where
  h1 : wf x.f1
  h2 : wf x.f2
  h3 : wf x.f3
  h4 : wf x.f4
  h5 : ∀ r ∈ x.f5, wf r
def OkFn (m : Fn) : Prop := ∀ a n, m a = some n → wf n
theorem wf_held {c : Fn} (hc : OkFn c) {r : Int} (hr : wf r) : wf (match c r with | some v => v | none => r) := by
  cases e : c r with
  | none => exact hr
  | some v => exact hc r v e
theorem constS_wf {x : S30} (h : WfOp x) {n : Int} (hn : wf n) : WfOp (constS x n) := ⟨h.h1, wf_zero, wf_zero, hn, fun r hr => by cases hr⟩
theorem moveS_wf {x : S30} (h : WfOp x) {n : Int} (hn : wf n) : WfOp (moveS x n) := ⟨h.h1, hn, wf_zero, wf_zero, fun r hr => by cases hr⟩
theorem bothR_wf {m : Fn} (hm : OkFn m) (x : S30) : wf (bothR m x).1 := by
  unfold bothR
  cases e2 : m x.f2 with
  | none => exact wf_zero
  | some a =>
    cases e3 : m x.f3 with
    | none => exact wf_zero
    | some b => exact wf_do _ _ _ (hm _ _ e2) (hm _ _ e3)
theorem opP_wf {m : Fn} (hm : OkFn m) {x : S30} (h : WfOp x) : WfOp (opP m x) := by
  unfold opP
  split
  · refine constS_wf h ?_
    cases e : m x.f2 with
    | none => exact wf_zero
    | some n => exact hm _ _ e
  · split
    · unfold reckonP
      repeat' split
      all_goals first | exact constS_wf h (bothR_wf hm x) | exact moveS_wf h h.h2 | exact moveS_wf h h.h3 | exact constS_wf h wf_zero | exact constS_wf h (wf_fold _) | exact h
    · exact h
theorem opP_len (m : Fn) (x : S30) : (opP m x).f5.length ≤ x.f5.length := by
  unfold opP
  split
  · exact Nat.zero_le _
  · split
    · unfold reckonP
      repeat' split
      all_goals first | exact Nat.zero_le _ | exact Nat.le_refl _
    · exact Nat.le_refl _
end Go.Proofs.Ytmacdhkfgoahcaa.Fo
