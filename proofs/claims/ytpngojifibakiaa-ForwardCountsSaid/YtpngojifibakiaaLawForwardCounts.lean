/- The statement ForwardCounts, for every input: the law's function comes back with true, and leaves what it was handed as it was. After the pattern of the printed rows; the arguments are opened by this work's own SyOp. -/
import Derived.Test.YtpngojifibakiaaRows
import Derived.Test.YtpngojifibakiaaSyNForwardCountsc
import Derived.WalkKit
import Derived.ProofKit
import Derived.OpenShut
import Derived.ShutString
import Derived.ChangeOld
import Derived.Below
import Derived.SizedLaws
import Derived.Carry
import Derived.LaidMore
import Derived.LaidHandle
import Derived.Stop.LaidErr
import Derived.Lib.LaidTab
import Derived.Stop.Joined
namespace Go.Proofs.Ytpngojifibakiaa.forwardCounts
open Go Go.ChangeShapes Go.WideShapes Go.ChangeAt Go.RowKit
open Go.ChangeMaps (open_string shut_string)
open Go.Proofs.YtpngojifibakiaaW.PrintWords Go.Proofs.Ytpngojifibakiaa.Sy Go.Proofs.Ytpngojifibakiaa.SyO 
set_option linter.unusedVariables false
theorem laidOut : laidOutB Try.prog = true := by kernel_rfl
theorem own : ownKnob Try.prog.godebug = none := by kernel_rfl
set_option maxRecDepth 100000 in
theorem lifted (os : Os) (started : os.Started) (H : Type) (enc : TypeId × Value → H) :
    ReturnsInHanded {} Try.checked os 3 .any (Rows.forwardCountsSpec.pre6 enc Try.prog Try.f3 Rows.forwardCountsRow.domain false) (Rows.forwardCountsSpec.post enc Try.prog Try.f3 false true false false) := by
  refine returnsInHanded_of_change_sized (C := Try.checked) own started (by kernel_rfl) Try.func3
    (ChangeSpec.witness6 (enc := enc) (C := Try.checked) false ⟨#[], #[.agg #[.int .i64 0, .slice none 0 0], .slice none 0 0], []⟩ 8 (by kernel_rfl) (by kernel_rfl) (by kernel_rfl) (by kernel_rfl)) ?_
  intro W base args ds gs before hval0 hW hcnd hsz0 _
  have hsz : (DataW.weightsEach Try.prog (Try.f3.params.toList ++ Rows.forwardCountsSpec.plain.varTypes Try.prog) (ds ++ gs)).all (· ≤ reachBytes) = true := hsz0
  have hval : ∀ (j : Nat) t v, Try.f3.params[j]? = some t → args[j]? = some v → Value.okWide Try.prog W .any base t v := hval0
  have hW' := hW
  obtain ⟨p, q, hA0, hV, rfl, hfz, hnd⟩ := hW
  have hA : DataW.TrodAll enc Try.prog W 0 (fun _ => true) true Try.f3.params.toList args.toList ds p := hA0
  rw [Try.params3] at hA hval hsz
  obtain ⟨v0, vs0, d0, ds0, p0, q0, hargs, rfl, rfl, h0, r0⟩ := trodAll_cons hA
  obtain ⟨v1, vs1, d1, ds1, p1, q1, rfl, rfl, rfl, h1, r1⟩ := trodAll_cons r0
  obtain ⟨rfl, rfl, rfl⟩ := trodAll_nil r1
  obtain rfl : args = #[v0, v1] := by cases args; simp_all
  obtain ⟨rfl, rfl⟩ := trodVars_none hV
  obtain ⟨c0, rfl, _⟩ := okWide_struct Try.underlying24 (hval 0 24 v0 rfl rfl)
  have k0 := h0
  have lt0 : ∀ x ∈ p0, x.block < W.heap.size := by obtain ⟨m, hm⟩ := k0; exact DataW.trod_lt m _ _ _ hm
  have z0 : ∀ n ∈ d0.weights Try.prog 24, n ≤ reachBytes := fun n hn => by simpa using (List.all_eq_true.1 hsz) n (DataW.weights_mem_each (j := 0) (t := 24) rfl rfl n hn)
  obtain ⟨m0, hm0⟩ := h0
  obtain ⟨l0, hK0, hw0⟩ := (opens24 (SizeOf.sizeOf d0 + 1)).2 H enc W 0 true m0 _ _ hm0 (Nat.lt_succ_self _) z0
  have hK0' : k24.K W l0 c0.toList := hK0
  obtain ⟨A0_1, c0_1, he0, l0_1, g0_1⟩ := k24_open hK0'
  obtain rfl : c0 = #[.int .i64 l0.f0, .slice A0_1 l0.f1.length c0_1] := Array.ext' he0
  obtain ⟨a1, len1, cap1, rfl⟩ := okWide_slice Try.underlying25 (hval 1 25 v1 rfl rfl)
  have k1 := h1
  have lt1 : ∀ x ∈ p1, x.block < W.heap.size := by obtain ⟨m, hm⟩ := k1; exact DataW.trod_lt m _ _ _ hm
  have z1 : ∀ n ∈ d1.weights Try.prog 25, n ≤ reachBytes := fun n hn => by simpa using (List.all_eq_true.1 hsz) n (DataW.weights_mem_each (j := 1) (t := 25) rfl rfl n hn)
  obtain ⟨m1, hm1⟩ := h1
  obtain ⟨l1, ⟨A1, c1, he1, hc1, hr1⟩, hw1⟩ := (show Opens (SizeOf.sizeOf d1 + 1) Try.prog 25 (Kd.slice 3 (Kd.int .i64)) (fun x => (x.length * 8 ≤ 140737488351232 ∧ ∀ y ∈ x, (Lit.int .i64 y).wf = true)) from (((Opens.slice Try.underlying25 (by kernel_rfl) (Opens.int Try.underlying3 (by kernel_rfl))).le (Nat.le_succ _)).mono (fun l h => ⟨by have h2 := h.2.1; rw [bytes25] at h2; exact h2, h.2.2⟩))).2 H enc W 0 true m1 _ _ hm1 (Nat.lt_succ_self _) z1
  simp [Value.cells] at he1
  obtain ⟨rfl, rfl, rfl⟩ := he1
  refine (law_calls (swagelaw22_ForwardCounts.calls (G := Gd.all W) (Rd.all ho35 rfl g0_1) l0_1 (Rd.all HO.int rfl hr1) hc1 (forwardCounts_law l0 l1 hw0 hw1)) (by intro v G' Lr hP; first | (obtain ⟨_, rfl, _⟩ := hP; rfl) | (obtain ⟨rfl, _⟩ := hP; rfl))).mono fun e W' ⟨he, bel⟩ => ?_
  subst he
  exact ⟨_, rfl, _, _, _, [], _, [], hW', trodAll_mk1 (shut_bool Try.underlying4 _), (trodAll_cons_mk (Below.trod laidOut (by kernel_rfl) (of_decide_eq_true (by kernel_rfl)) k0 bel lt0) (trodAll_cons_mk (Below.trod laidOut (by kernel_rfl) (of_decide_eq_true (by kernel_rfl)) k1 bel lt1) trodAll_mk0)), rfl, bel.frame _, fun h => by cases h⟩
theorem over : Rows.forwardCountsRow.holds Try.pinned (OpenSpec.ofChange Rows.forwardCountsSpec) :=
  OpenClaim.holds_of_wide 3 Try.f3 rfl rfl rfl rfl rfl rfl rfl ⟨rfl, rfl, rfl, rfl, rfl⟩ rfl rfl rfl rfl rfl (by kernel_rfl) Try.func3 (by kernel_rfl)
    (of_decide_eq_true (by kernel_rfl)) (by unfold Func.isWrapper; first | (rw [if_pos (by decide +kernel)]; kernel_rfl) | (rw [if_neg (by decide +kernel)]; exact ⟨rfl, rfl⟩))
    (fun os started H enc _ => lifted os started H enc)
theorem proved : Rows.ForwardCountsSaid := over
#print axioms proved
end Go.Proofs.Ytpngojifibakiaa.forwardCounts
namespace Go.Proofs.Ytpngojifibakiaa
/-- The row, under a short name, for the claim. -/
theorem forwardCounts_holds : Rows.ForwardCountsSaid := forwardCounts.proved
end Go.Proofs.Ytpngojifibakiaa
