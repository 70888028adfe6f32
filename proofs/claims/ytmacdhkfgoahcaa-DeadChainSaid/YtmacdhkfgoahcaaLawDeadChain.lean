-- The row of DeadChain: after the pattern of the printed rows; what is no whole number is opened by this work's own Open.
import Derived.Test.YtmacdhkfgoahcaaRows
import Derived.Test.YtmacdhkfgoahcaaOpen
import Derived.Test.YtmacdhkfgoahcaaSxNDeadChaina
import Derived.WalkKit
import Derived.ProofKit
import Derived.OpenShut
import Derived.ShutString
import Derived.ChangeOld
import Derived.Below
import Derived.SizedLaws
import Derived.Carry
namespace Go.Proofs.Ytmacdhkfgoahcaa.deadChain
open Go.ChangeShapes Go.WideShapes Go.ChangeAt Go.RowKit
open Go.ChangeMaps (open_string shut_string)
open Go.Proofs.YtmacdhkfgoahcaaW.PrintWords Go.Proofs.Ytmacdhkfgoahcaa.Sx Go.Proofs.Ytmacdhkfgoahcaa.Q
set_option linter.unusedVariables false
theorem laidOut : laidOutB Try.prog = true := by kernel_rfl
theorem own : ownKnob Try.prog.godebug = none := by kernel_rfl
abbrev ok3 (x : Int) : Prop := (Lit.int .i64 x).wf = true
theorem opens3 : Open.Opens Try.prog 3 (Kd.int .i64) ok3 := Open.Opens.int Try.underlying3 (by kernel_rfl)
abbrev ok22 (x : (List Int)) : Prop := (x.length ≤ maxLen ∧ ∀ y ∈ x, ok3 y)
theorem opens22 : Open.Opens Try.prog 22 (Kd.slice 3 (Kd.int .i64)) ok22 := Open.Opens.slice Try.underlying22 (by kernel_rfl) opens3
set_option maxRecDepth 100000 in
theorem lifted (os : Os) (started : os.Started) (H : Type) (enc : TypeId × Value → H) :
    ReturnsInHanded {} Try.checked os 3 .any (Rows.deadChainSpec.pre6 enc Try.prog Try.f3 Rows.deadChainRow.domain false) (Rows.deadChainSpec.post enc Try.prog Try.f3 false true false false) := by
  refine returnsInHanded_of_change_sized (C := Try.checked) own started (by kernel_rfl) Try.func3
    (ChangeSpec.witness6 (enc := enc) (C := Try.checked) false ⟨#[], #[.slice none 0 0], []⟩ 8 (by kernel_rfl) (by kernel_rfl) (by kernel_rfl) (by kernel_rfl)) ?_
  intro W base args ds gs before hval0 hW hcnd hsz0 _
  have hval : ∀ (j : Nat) t v, Try.f3.params[j]? = some t → args[j]? = some v → Value.okWide Try.prog W .any base t v := hval0
  have hW' := hW
  obtain ⟨p, q, hA0, hV, rfl, hfz, hnd⟩ := hW
  have hA : DataW.TrodAll enc Try.prog W 0 (fun _ => true) true Try.f3.params.toList args.toList ds p := hA0
  rw [Try.params3] at hA hval
  obtain ⟨v0, vs0, d0, ds0, p0, q0, hargs, rfl, rfl, h0, r0⟩ := trodAll_cons hA
  obtain ⟨rfl, rfl, rfl⟩ := trodAll_nil r0
  obtain rfl : args = #[v0] := by cases args; simp_all
  obtain ⟨rfl, rfl⟩ := trodVars_none hV
  obtain ⟨a0, len0, cap0, rfl⟩ := okWide_slice Try.underlying22 (hval 0 22 v0 rfl rfl)
  have k0 := h0
  have lt0 : ∀ x ∈ p0, x.block < W.heap.size := by obtain ⟨m, hm⟩ := k0; exact DataW.trod_lt m _ _ _ hm
  obtain ⟨l0, rfl, hc0, hr0, hm0, hw0⟩ := Open.Opens.arg Try.underlying22 (by kernel_rfl) opens3 h0
  refine (law_calls (swagelaw23_DeadChain.calls (G := Gd.all W) (Rd.all HO.int rfl hr0) hc0 (deadChain_true l0 ⟨hm0, hw0⟩)) (by rintro v G' Lr ⟨_, rfl, _⟩; rfl)).mono fun e W' ⟨he, bel⟩ => ?_
  subst he
  exact ⟨_, rfl, _, _, _, [], _, [], hW', trodAll_mk1 (shut_bool Try.underlying4 _), (trodAll_cons_mk (Below.trod laidOut (by kernel_rfl) (of_decide_eq_true (by kernel_rfl)) k0 bel lt0) trodAll_mk0), rfl, bel.frame _, fun h => by cases h⟩
theorem over : Rows.deadChainRow.holds Try.pinned (OpenSpec.ofChange Rows.deadChainSpec) :=
  OpenClaim.holds_of_wide 3 Try.f3 rfl rfl rfl rfl rfl rfl rfl ⟨rfl, rfl, rfl, rfl, rfl⟩ rfl rfl rfl rfl rfl (by kernel_rfl) Try.func3 (by kernel_rfl)
    (of_decide_eq_true (by kernel_rfl)) (by unfold Func.isWrapper; first | (rw [if_pos (by decide +kernel)]; kernel_rfl) | (rw [if_neg (by decide +kernel)]; exact ⟨rfl, rfl⟩))
    (fun os started H enc _ => lifted os started H enc)
theorem proved : Rows.DeadChainSaid := over
#print axioms proved
end Go.Proofs.Ytmacdhkfgoahcaa.deadChain
namespace Go.Proofs.Ytmacdhkfgoahcaa
/-- The row, under a short name, for the claim. -/
theorem deadChain_holds : Rows.DeadChainSaid := deadChain.proved
end Go.Proofs.Ytmacdhkfgoahcaa
