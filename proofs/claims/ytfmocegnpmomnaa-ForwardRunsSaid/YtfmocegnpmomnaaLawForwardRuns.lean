/- The statement ForwardRuns, for every input: the law's function comes back with true, and leaves what it was handed as it was. After the pattern of the printed rows; the arguments are opened by this work's own SyOp. -/
import Derived.Test.YtfmocegnpmomnaaRows
import Derived.Test.YtfmocegnpmomnaaSyNForwardRunsf
import Derived.WalkKit
import Derived.ProofKit
import Derived.OpenShut
import Derived.ShutString
import Derived.ChangeOld
import Derived.Below
import Derived.SizedLaws
import Derived.Carry
import Derived.LaidMore
import Derived.LaidHandle
import Derived.Stop.LaidErr
import Derived.Lib.LaidTab
import Derived.Stop.Joined
namespace Go.Proofs.Ytfmocegnpmomnaa.forwardRuns
open Go Go.ChangeShapes Go.WideShapes Go.ChangeAt Go.RowKit
open Go.ChangeMaps (open_string shut_string)
open Go.Proofs.YtfmocegnpmomnaaW.PrintWords Go.Proofs.Ytfmocegnpmomnaa.Sy Go.Proofs.Ytfmocegnpmomnaa.SyO 
set_option linter.unusedVariables false
theorem laidOut : laidOutB Try.prog = true := by kernel_rfl
theorem own : ownKnob Try.prog.godebug = none := by kernel_rfl
set_option maxRecDepth 100000 in
theorem lifted (os : Os) (started : os.Started) (H : Type) (enc : TypeId × Value → H) :
    ReturnsInHanded {} Try.checked os 7 .any (Rows.forwardRunsSpec.pre6 enc Try.prog Try.f7 Rows.forwardRunsRow.domain false) (Rows.forwardRunsSpec.post enc Try.prog Try.f7 false true false false) := by
  refine returnsInHanded_of_change_sized (C := Try.checked) own started (by kernel_rfl) Try.func7
    (ChangeSpec.witness6 (enc := enc) (C := Try.checked) false ⟨#[], #[.slice none 0 0, .int .i64 0, .slice none 0 0, .int .i64 0], []⟩ 8 (by kernel_rfl) (by kernel_rfl) (by kernel_rfl) (by kernel_rfl)) ?_
  intro W base args ds gs before hval0 hW hcnd hsz0 _
  have hsz : (DataW.weightsEach Try.prog (Try.f7.params.toList ++ Rows.forwardRunsSpec.plain.varTypes Try.prog) (ds ++ gs)).all (· ≤ reachBytes) = true := hsz0
  have hval : ∀ (j : Nat) t v, Try.f7.params[j]? = some t → args[j]? = some v → Value.okWide Try.prog W .any base t v := hval0
  have hW' := hW
  obtain ⟨p, q, hA0, hV, rfl, hfz, hnd⟩ := hW
  have hA : DataW.TrodAll enc Try.prog W 0 (fun _ => true) true Try.f7.params.toList args.toList ds p := hA0
  rw [Try.params7] at hA hval hsz
  obtain ⟨v0, vs0, d0, ds0, p0, q0, hargs, rfl, rfl, h0, r0⟩ := trodAll_cons hA
  obtain ⟨v1, vs1, d1, ds1, p1, q1, rfl, rfl, rfl, h1, r1⟩ := trodAll_cons r0
  obtain ⟨v2, vs2, d2, ds2, p2, q2, rfl, rfl, rfl, h2, r2⟩ := trodAll_cons r1
  obtain ⟨v3, vs3, d3, ds3, p3, q3, rfl, rfl, rfl, h3, r3⟩ := trodAll_cons r2
  obtain ⟨rfl, rfl, rfl⟩ := trodAll_nil r3
  obtain rfl : args = #[v0, v1, v2, v3] := by cases args; simp_all
  obtain ⟨rfl, rfl⟩ := trodVars_none hV
  obtain ⟨a0, len0, cap0, rfl⟩ := okWide_slice Try.underlying22 (hval 0 22 v0 rfl rfl)
  have k0 := h0
  have lt0 : ∀ x ∈ p0, x.block < W.heap.size := by obtain ⟨m, hm⟩ := k0; exact DataW.trod_lt m _ _ _ hm
  have z0 : ∀ n ∈ d0.weights Try.prog 22, n ≤ reachBytes := fun n hn => by simpa using (List.all_eq_true.1 hsz) n (DataW.weights_mem_each (j := 0) (t := 22) rfl rfl n hn)
  obtain ⟨m0, hm0⟩ := h0
  obtain ⟨l0, ⟨A0, c0, he0, hc0, hr0⟩, hw0⟩ := (show Opens (SizeOf.sizeOf d0 + 1) Try.prog 22 (Kd.slice 45 k45) (fun x => (x.length * 32 ≤ 140737488351232 ∧ ∀ y ∈ x, ok45 y)) from (((Opens.slice Try.underlying22 (by kernel_rfl) (opens45 _)).le (Nat.le_succ _)).mono (fun l h => ⟨by have h2 := h.2.1; rw [bytes22] at h2; exact h2, h.2.2⟩))).2 H enc W 0 true m0 _ _ hm0 (Nat.lt_succ_self _) z0
  simp [Value.cells] at he0
  obtain ⟨rfl, rfl, rfl⟩ := he0
  obtain ⟨a1, rfl, rfl, rfl, w1⟩ := open_int Try.underlying3 (hval 1 3 v1 rfl rfl) h1
  obtain ⟨a2, len2, cap2, rfl⟩ := okWide_slice Try.underlying23 (hval 2 23 v2 rfl rfl)
  have k2 := h2
  have lt2 : ∀ x ∈ p2, x.block < W.heap.size := by obtain ⟨m, hm⟩ := k2; exact DataW.trod_lt m _ _ _ hm
  have z2 : ∀ n ∈ d2.weights Try.prog 23, n ≤ reachBytes := fun n hn => by simpa using (List.all_eq_true.1 hsz) n (DataW.weights_mem_each (j := 2) (t := 23) rfl rfl n hn)
  obtain ⟨m2, hm2⟩ := h2
  obtain ⟨l2, ⟨A2, c2, he2, hc2, hr2⟩, hw2⟩ := (show Opens (SizeOf.sizeOf d2 + 1) Try.prog 23 (Kd.slice 3 (Kd.int .i64)) (fun x => (x.length * 8 ≤ 140737488351232 ∧ ∀ y ∈ x, (Lit.int .i64 y).wf = true)) from (((Opens.slice Try.underlying23 (by kernel_rfl) (Opens.int Try.underlying3 (by kernel_rfl))).le (Nat.le_succ _)).mono (fun l h => ⟨by have h2 := h.2.1; rw [bytes23] at h2; exact h2, h.2.2⟩))).2 H enc W 0 true m2 _ _ hm2 (Nat.lt_succ_self _) z2
  simp [Value.cells] at he2
  obtain ⟨rfl, rfl, rfl⟩ := he2
  obtain ⟨a3, rfl, rfl, rfl, w3⟩ := open_int Try.underlying3 (hval 3 3 v3 rfl rfl) h3
  refine (law_calls (swagelaw22_ForwardRuns.calls (G := Gd.all W) (Rd.all ho45 rfl hr0) hc0 (Rd.all HO.int rfl hr2) hc2 (forwardRuns_law l0 a1 l2 a3 hw0 w1 hw2 w3)) (by intro v G' Lr hP; first | (obtain ⟨_, rfl, _⟩ := hP; rfl) | (obtain ⟨rfl, _⟩ := hP; rfl))).mono fun e W' ⟨he, bel⟩ => ?_
  subst he
  exact ⟨_, rfl, _, _, _, [], _, [], hW', trodAll_mk1 (shut_bool Try.underlying4 _), (trodAll_cons_mk (Below.trod laidOut (by kernel_rfl) (of_decide_eq_true (by kernel_rfl)) k0 bel lt0) (trodAll_cons_mk (shut_int Try.underlying3 w1) (trodAll_cons_mk (Below.trod laidOut (by kernel_rfl) (of_decide_eq_true (by kernel_rfl)) k2 bel lt2) (trodAll_cons_mk (shut_int Try.underlying3 w3) trodAll_mk0)))), rfl, bel.frame _, fun h => by cases h⟩
theorem over : Rows.forwardRunsRow.holds Try.pinned (OpenSpec.ofChange Rows.forwardRunsSpec) :=
  OpenClaim.holds_of_wide 7 Try.f7 rfl rfl rfl rfl rfl rfl rfl ⟨rfl, rfl, rfl, rfl, rfl⟩ rfl rfl rfl rfl rfl (by kernel_rfl) Try.func7 (by kernel_rfl)
    (of_decide_eq_true (by kernel_rfl)) (by unfold Func.isWrapper; first | (rw [if_pos (by decide +kernel)]; kernel_rfl) | (rw [if_neg (by decide +kernel)]; exact ⟨rfl, rfl⟩))
    (fun os started H enc _ => lifted os started H enc)
theorem proved : Rows.ForwardRunsSaid := over
#print axioms proved
end Go.Proofs.Ytfmocegnpmomnaa.forwardRuns
namespace Go.Proofs.Ytfmocegnpmomnaa
/-- The row, under a short name, for the claim. -/
theorem forwardRuns_holds : Rows.ForwardRunsSaid := forwardRuns.proved
end Go.Proofs.Ytfmocegnpmomnaa
