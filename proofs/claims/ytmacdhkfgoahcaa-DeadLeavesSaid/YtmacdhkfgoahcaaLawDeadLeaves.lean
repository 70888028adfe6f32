-- The row of DeadLeaves: after the pattern of the printed rows; what is no whole number is opened by this work's own Open.
import Derived.Test.YtmacdhkfgoahcaaRows
import Derived.Test.YtmacdhkfgoahcaaOpenS
import Derived.Test.YtmacdhkfgoahcaaSxNDeadLeavesa
import Derived.WalkKit
import Derived.ProofKit
import Derived.OpenShut
import Derived.ShutString
import Derived.ChangeOld
import Derived.Below
import Derived.SizedLaws
import Derived.Carry
namespace Go.Proofs.Ytmacdhkfgoahcaa.deadLeaves
open Go.ChangeShapes Go.WideShapes Go.ChangeAt Go.RowKit
open Go.ChangeMaps (open_string shut_string)
open Go.Proofs.YtmacdhkfgoahcaaW.PrintWords Go.Proofs.Ytmacdhkfgoahcaa.Sx Go.Proofs.Ytmacdhkfgoahcaa.Q
set_option linter.unusedVariables false
theorem laidOut : laidOutB Try.prog = true := by kernel_rfl
theorem own : ownKnob Try.prog.godebug = none := by kernel_rfl
abbrev ok3 (x : Int) : Prop := (Lit.int .i64 x).wf = true
theorem opens3 : OpenS.Opens Try.prog 3 (Kd.int .i64) ok3 := OpenS.Opens.int Try.underlying3 (by kernel_rfl)
abbrev ok22 (x : (List Int)) : Prop := (x.length * 8 ≤ 140737488351232 ∧ ∀ y ∈ x, ok3 y)
theorem bytes22 : Try.prog.bytesOf 3 = 8 := by kernel_rfl
theorem opens22 : OpenS.Opens Try.prog 22 (Kd.slice 3 (Kd.int .i64)) ok22 := (OpenS.Opens.slice Try.underlying22 (by kernel_rfl) opens3).mono (fun l h => ⟨by have h2 := h.2.1; rw [bytes22] at h2; exact h2, h.2.2⟩)
abbrev ok30 (x : S30) : Prop := (ok3 x.f0 ∧ ok3 x.f1 ∧ ok3 x.f2 ∧ ok3 x.f3 ∧ ok3 x.f4 ∧ ok22 x.f5)
theorem opens30 : OpenS.Opens Try.prog 30 k30 ok30 := OpenS.Opens.struct Try.underlying30 (by kernel_rfl) (OpenS.OpensF.cons opens3 rfl (OpenS.OpensF.cons opens3 rfl (OpenS.OpensF.cons opens3 rfl (OpenS.OpensF.cons opens3 rfl (OpenS.OpensF.cons opens3 rfl (OpenS.OpensF.one opens22)))))) (fun x : S30 => (x.f0, x.f1, x.f2, x.f3, x.f4, x.f5)) (fun y => ⟨y.1, y.2.1, y.2.2.1, y.2.2.2.1, y.2.2.2.2.1, y.2.2.2.2.2⟩) (fun _ => rfl)
abbrev ok26 (x : (List S30)) : Prop := (x.length * 64 ≤ 140737488351232 ∧ ∀ y ∈ x, ok30 y)
theorem bytes26 : Try.prog.bytesOf 30 = 64 := by kernel_rfl
theorem opens26 : OpenS.Opens Try.prog 26 (Kd.slice 30 k30) ok26 := (OpenS.Opens.slice Try.underlying26 (by kernel_rfl) opens30).mono (fun l h => ⟨by have h2 := h.2.1; rw [bytes26] at h2; exact h2, h.2.2⟩)
abbrev ok25 (x : S25) : Prop := (ok3 x.f0 ∧ ok3 x.f1 ∧ ok3 x.f2 ∧ ok3 x.f3)
theorem opens25 : OpenS.Opens Try.prog 25 k25 ok25 := OpenS.Opens.struct Try.underlying25 (by kernel_rfl) (OpenS.OpensF.cons opens3 rfl (OpenS.OpensF.cons opens3 rfl (OpenS.OpensF.cons opens3 rfl (OpenS.OpensF.one opens3)))) (fun x : S25 => (x.f0, x.f1, x.f2, x.f3)) (fun y => ⟨y.1, y.2.1, y.2.2.1, y.2.2.2⟩) (fun _ => rfl)
abbrev ok28 (x : S28) : Prop := (ok26 x.f0 ∧ ok25 x.f1)
theorem opens28 : OpenS.Opens Try.prog 28 k28 ok28 := OpenS.Opens.struct Try.underlying28 (by kernel_rfl) (OpenS.OpensF.cons opens26 rfl (OpenS.OpensF.one opens25)) (fun x : S28 => (x.f0, x.f1)) (fun y => ⟨y.1, y.2⟩) (fun _ => rfl)
abbrev ok34 (x : (List S28)) : Prop := (x.length * 56 ≤ 140737488351232 ∧ ∀ y ∈ x, ok28 y)
theorem bytes34 : Try.prog.bytesOf 28 = 56 := by kernel_rfl
theorem opens34 : OpenS.Opens Try.prog 34 (Kd.slice 28 k28) ok34 := (OpenS.Opens.slice Try.underlying34 (by kernel_rfl) opens28).mono (fun l h => ⟨by have h2 := h.2.1; rw [bytes34] at h2; exact h2, h.2.2⟩)
abbrev ok36 (x : S36) : Prop := (ok3 x.f0 ∧ ok34 x.f1)
theorem opens36 : OpenS.Opens Try.prog 36 k36 ok36 := OpenS.Opens.struct Try.underlying36 (by kernel_rfl) (OpenS.OpensF.cons opens3 rfl (OpenS.OpensF.one opens34)) (fun x : S36 => (x.f0, x.f1)) (fun y => ⟨y.1, y.2⟩) (fun _ => rfl)
theorem ho30 : HO k30 := by
  unfold k30
  repeat (first | exact HO.int | exact HO.bool | exact HO.string | apply HO.iso | apply HO.pair | apply HO.slice)
theorem ho25 : HO k25 := by
  unfold k25
  repeat (first | exact HO.int | exact HO.bool | exact HO.string | exact ho30 | apply HO.iso | apply HO.pair | apply HO.slice)
theorem ho28 : HO k28 := by
  unfold k28
  repeat (first | exact HO.int | exact HO.bool | exact HO.string | exact ho30 | exact ho25 | apply HO.iso | apply HO.pair | apply HO.slice)
theorem ho36 : HO k36 := by
  unfold k36
  repeat (first | exact HO.int | exact HO.bool | exact HO.string | exact ho30 | exact ho25 | exact ho28 | apply HO.iso | apply HO.pair | apply HO.slice)
set_option maxRecDepth 100000 in
theorem lifted (os : Os) (started : os.Started) (H : Type) (enc : TypeId × Value → H) :
    ReturnsInHanded {} Try.checked os 5 .any (Rows.deadLeavesSpec.pre6 enc Try.prog Try.f5 Rows.deadLeavesRow.domain false) (Rows.deadLeavesSpec.post enc Try.prog Try.f5 false true false false) := by
  refine returnsInHanded_of_change_sized (C := Try.checked) own started (by kernel_rfl) Try.func5
    (ChangeSpec.witness6 (enc := enc) (C := Try.checked) false ⟨#[], #[.agg #[.int .i64 0, .slice none 0 0]], []⟩ 8 (by kernel_rfl) (by kernel_rfl) (by kernel_rfl) (by kernel_rfl)) ?_
  intro W base args ds gs before hval0 hW hcnd hsz0 _
  have hsz : (DataW.weightsEach Try.prog (Try.f5.params.toList ++ Rows.deadLeavesSpec.plain.varTypes Try.prog) (ds ++ gs)).all (· ≤ reachBytes) = true := hsz0
  have hval : ∀ (j : Nat) t v, Try.f5.params[j]? = some t → args[j]? = some v → Value.okWide Try.prog W .any base t v := hval0
  have hW' := hW
  obtain ⟨p, q, hA0, hV, rfl, hfz, hnd⟩ := hW
  have hA : DataW.TrodAll enc Try.prog W 0 (fun _ => true) true Try.f5.params.toList args.toList ds p := hA0
  rw [Try.params5] at hA hval hsz
  obtain ⟨v0, vs0, d0, ds0, p0, q0, hargs, rfl, rfl, h0, r0⟩ := trodAll_cons hA
  obtain ⟨rfl, rfl, rfl⟩ := trodAll_nil r0
  obtain rfl : args = #[v0] := by cases args; simp_all
  obtain ⟨rfl, rfl⟩ := trodVars_none hV
  obtain ⟨c0, rfl, _⟩ := okWide_struct Try.underlying36 (hval 0 36 v0 rfl rfl)
  have k0 := h0
  have lt0 : ∀ x ∈ p0, x.block < W.heap.size := by obtain ⟨m, hm⟩ := k0; exact DataW.trod_lt m _ _ _ hm
  have z0 : ∀ n ∈ d0.weights Try.prog 36, n ≤ reachBytes := fun n hn => by simpa using (List.all_eq_true.1 hsz) n (DataW.weights_mem_each (j := 0) (t := 36) rfl rfl n hn)
  obtain ⟨m0, hm0⟩ := h0
  obtain ⟨l0, hK0, hw0⟩ := opens36.2 H enc W 0 true m0 _ _ hm0 z0
  have hK0' : k36.K W l0 c0.toList := hK0
  obtain ⟨A0_1, c0_1, he0, l0_1, g0_1⟩ := k36_open hK0'
  obtain rfl : c0 = #[.int .i64 l0.f0, .slice A0_1 l0.f1.length c0_1] := Array.ext' he0
  refine (law_calls (swagelaw23_DeadLeaves.calls (G := Gd.all W) (Rd.all ho28 rfl g0_1) l0_1 (deadLeaves_true l0 hw0)) (by rintro v G' Lr ⟨_, rfl, _⟩; rfl)).mono fun e W' ⟨he, bel⟩ => ?_
  subst he
  exact ⟨_, rfl, _, _, _, [], _, [], hW', trodAll_mk1 (shut_bool Try.underlying4 _), (trodAll_cons_mk (Below.trod laidOut (by kernel_rfl) (of_decide_eq_true (by kernel_rfl)) k0 bel lt0) trodAll_mk0), rfl, bel.frame _, fun h => by cases h⟩
theorem over : Rows.deadLeavesRow.holds Try.pinned (OpenSpec.ofChange Rows.deadLeavesSpec) :=
  OpenClaim.holds_of_wide 5 Try.f5 rfl rfl rfl rfl rfl rfl rfl ⟨rfl, rfl, rfl, rfl, rfl⟩ rfl rfl rfl rfl rfl (by kernel_rfl) Try.func5 (by kernel_rfl)
    (of_decide_eq_true (by kernel_rfl)) (by unfold Func.isWrapper; first | (rw [if_pos (by decide +kernel)]; kernel_rfl) | (rw [if_neg (by decide +kernel)]; exact ⟨rfl, rfl⟩))
    (fun os started H enc _ => lifted os started H enc)
theorem proved : Rows.DeadLeavesSaid := over
#print axioms proved
end Go.Proofs.Ytmacdhkfgoahcaa.deadLeaves
namespace Go.Proofs.Ytmacdhkfgoahcaa
/-- The row, under a short name, for the claim. -/
theorem deadLeaves_holds : Rows.DeadLeavesSaid := deadLeaves.proved
end Go.Proofs.Ytmacdhkfgoahcaa
