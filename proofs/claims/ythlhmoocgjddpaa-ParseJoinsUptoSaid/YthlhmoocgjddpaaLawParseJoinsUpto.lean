/- The statement ParseJoins, for every input: the law's function comes back with true, and leaves what it was handed as it was. After the pattern of the printed rows; the arguments are opened by this work's own SyOp. -/
import Derived.Test.YthlhmoocgjddpaaRows
import Derived.Test.YthlhmoocgjddpaaSyNParseJoinsUptoe
import Derived.Deep.CondSized
import Derived.WalkKit
import Derived.ProofKit
import Derived.OpenShut
import Derived.ShutString
import Derived.ChangeOld
import Derived.Below
import Derived.SizedLaws
import Derived.Carry
import Derived.LaidMore
import Derived.LaidHandle
import Derived.Stop.LaidErr
import Derived.Lib.LaidTab
import Derived.Stop.Joined
namespace Go.Proofs.Ythlhmoocgjddpaa.parseJoinsUpto
open Go Go.ChangeShapes Go.WideShapes Go.ChangeAt Go.RowKit
open Go.ChangeMaps (open_string shut_string)
open Go.Proofs.YthlhmoocgjddpaaW.PrintWords Go.Proofs.Ythlhmoocgjddpaa.Sy Go.Proofs.Ythlhmoocgjddpaa.SyO 
set_option linter.unusedVariables false
theorem laidOut : laidOutB Try.prog = true := by kernel_rfl
theorem own : ownKnob Try.prog.godebug = none := by kernel_rfl
set_option maxRecDepth 100000 in
theorem lifted (os : Os) (started : os.Started) (H : Type) (enc : TypeId × Value → H) (F : Stop.Interp) :
    ReturnsInHanded {} Try.checked os 6 .any ((Rows.OpenSpec.upto Rows.parseJoinsSpec).pre6 enc Try.prog Try.f6 Rows.parseJoinsUptoRow.domain false) (((Rows.OpenSpec.upto Rows.parseJoinsSpec).at F).post enc Try.prog Try.f6 false true false false) := by
  refine returnsInHanded_of_cond_sized (C := Try.checked) (s := Rows.OpenSpec.upto Rows.parseJoinsSpec) (k := Rows.uptoSmall) rfl own started (by kernel_rfl) Try.func6
    (OpenSpec.witness (enc := enc) (C := Try.checked) (s := Rows.OpenSpec.upto Rows.parseJoinsSpec) (k := Rows.uptoSmall) rfl false ⟨#[], #[.slice none 0 0], []⟩ 8 (by kernel_rfl) (by kernel_rfl) (by kernel_rfl) (x := ([.nil], [], [])) (by kernel_rfl) rfl (by kernel_rfl)) ?_
  intro W base args ds gs before hval0 hW hcnd hk hsz0 _
  have hsz : (DataW.weightsEach Try.prog (Try.f6.params.toList ++ Rows.parseJoinsSpec.plain.varTypes Try.prog) (ds ++ gs)).all (· ≤ reachBytes) = true := hsz0
  have hval : ∀ (j : Nat) t v, Try.f6.params[j]? = some t → args[j]? = some v → Value.okWide Try.prog W .any base t v := hval0
  have hW' := hW
  obtain ⟨p, q, hA0, hV, rfl, hfz, hnd⟩ := hW
  have hA : DataW.TrodAll enc Try.prog W 0 (fun _ => true) true Try.f6.params.toList args.toList ds p := hA0
  rw [Try.params6] at hA hval hsz
  obtain ⟨v0, vs0, d0, ds0, p0, q0, hargs, rfl, rfl, h0, r0⟩ := trodAll_cons hA
  obtain ⟨rfl, rfl, rfl⟩ := trodAll_nil r0
  obtain rfl : args = #[v0] := by cases args; simp_all
  obtain ⟨rfl, rfl⟩ := trodVars_none hV
  have hb := of_decide_eq_true hk
  obtain ⟨a0, len0, cap0, rfl⟩ := okWide_slice Try.underlying22 (hval 0 22 v0 rfl rfl)
  have k0 := h0
  have lt0 : ∀ x ∈ p0, x.block < W.heap.size := by obtain ⟨m, hm⟩ := k0; exact DataW.trod_lt m _ _ _ hm
  have z0 : ∀ n ∈ d0.weights Try.prog 22, n ≤ reachBytes := fun n hn => by simpa using (List.all_eq_true.1 hsz) n (DataW.weights_mem_each (j := 0) (t := 22) rfl rfl n hn)
  obtain ⟨m0, hm0⟩ := h0
  obtain ⟨l0, ⟨A0, c0, he0, hc0, hr0⟩, hw0⟩ := (show Opens (SizeOf.sizeOf d0 + 1) Try.prog 22 (Kd.slice 24 k24) (fun x => (x.length * 56 ≤ 140737488351232 ∧ ∀ y ∈ x, ok24 y)) from (((Opens.slice Try.underlying22 (by kernel_rfl) (opens24 _)).le (Nat.le_succ _)).mono (fun l h => ⟨by have h2 := h.2.1; rw [bytes22] at h2; exact h2, h.2.2⟩))).2 H enc W 0 true m0 _ _ hm0 (Nat.lt_succ_self _) ⟨z0, Nat.le_trans (part_le (by simp)) hb⟩
  simp [Value.cells] at he0
  obtain ⟨rfl, rfl, rfl⟩ := he0
  refine (law_calls (swagelaw10_ParseJoins.calls (G := Gd.all W) (Rd.all ho24 rfl hr0) hc0 (parseJoins_law l0 hw0)) (by intro v G' Lr hP; first | (obtain ⟨_, rfl, _⟩ := hP; rfl) | (obtain ⟨rfl, _⟩ := hP; rfl))).mono fun e W' ⟨he, bel⟩ => ?_
  subst he
  exact ⟨_, rfl, _, _, _, [], _, [], hW', trodAll_mk1 (shut_bool Try.underlying4 _), (trodAll_cons_mk (Below.trod laidOut (by kernel_rfl) (of_decide_eq_true (by kernel_rfl)) k0 bel lt0) trodAll_mk0), rfl, bel.frame _, fun h => by cases h⟩
theorem over : Rows.parseJoinsUptoRow.holds Try.pinned (Rows.OpenSpec.upto Rows.parseJoinsSpec) :=
  OpenClaim.holds_of_cond 6 Try.f6 rfl rfl rfl rfl rfl rfl rfl ⟨rfl, rfl, rfl, rfl, rfl⟩ rfl rfl rfl rfl rfl (by kernel_rfl) Try.func6 (by kernel_rfl)
    (of_decide_eq_true (by kernel_rfl)) (by unfold Func.isWrapper; first | (rw [if_pos (by decide +kernel)]; kernel_rfl) | (rw [if_neg (by decide +kernel)]; exact ⟨rfl, rfl⟩))
    (fun os started H enc _ F => lifted os started H enc F)
theorem proved : Rows.ParseJoinsUptoSaid := over
#print axioms proved
end Go.Proofs.Ythlhmoocgjddpaa.parseJoinsUpto
namespace Go.Proofs.Ythlhmoocgjddpaa
/-- The row, under a short name, for the claim. -/
theorem parseJoinsUpto_holds : Rows.ParseJoinsUptoSaid := parseJoinsUpto.proved
end Go.Proofs.Ythlhmoocgjddpaa
