/- The statement FoldCounts, for every input: the law's function comes back with true, and leaves what it was handed as it was. After the pattern of the printed rows; the arguments are opened by this work's own SyOp. -/
import Derived.Test.YtmacdhkfgoahcaaRows
import Derived.Test.YtmacdhkfgoahcaaSyNFoldCountsc
import Derived.WalkKit
import Derived.ProofKit
import Derived.OpenShut
import Derived.ShutString
import Derived.ChangeOld
import Derived.Below
import Derived.SizedLaws
import Derived.Carry
import Derived.LaidMore
import Derived.LaidHandle
import Derived.Stop.LaidErr
import Derived.Lib.LaidTab
import Derived.Stop.Joined
namespace Go.Proofs.Ytmacdhkfgoahcaa.foldCounts
open Go Go.ChangeShapes Go.WideShapes Go.ChangeAt Go.RowKit
open Go.ChangeMaps (open_string shut_string)
open Go.Proofs.YtmacdhkfgoahcaaW.PrintWords Go.Proofs.Ytmacdhkfgoahcaa.Sy Go.Proofs.Ytmacdhkfgoahcaa.SyO 
set_option linter.unusedVariables false
theorem laidOut : laidOutB Try.prog = true := by kernel_rfl
theorem own : ownKnob Try.prog.godebug = none := by kernel_rfl
set_option maxRecDepth 100000 in
theorem lifted (os : Os) (started : os.Started) (H : Type) (enc : TypeId × Value → H) :
    ReturnsInHanded {} Try.checked os 8 .any (Rows.foldCountsSpec.pre6 enc Try.prog Try.f8 Rows.foldCountsRow.domain false) (Rows.foldCountsSpec.post enc Try.prog Try.f8 false true false false) := by
  refine returnsInHanded_of_change_sized (C := Try.checked) own started (by kernel_rfl) Try.func8
    (ChangeSpec.witness6 (enc := enc) (C := Try.checked) false ⟨#[], #[.agg #[.int .i64 0, .slice none 0 0]], []⟩ 8 (by kernel_rfl) (by kernel_rfl) (by kernel_rfl) (by kernel_rfl)) ?_
  intro W base args ds gs before hval0 hW hcnd hsz0 _
  have hsz : (DataW.weightsEach Try.prog (Try.f8.params.toList ++ Rows.foldCountsSpec.plain.varTypes Try.prog) (ds ++ gs)).all (· ≤ reachBytes) = true := hsz0
  have hval : ∀ (j : Nat) t v, Try.f8.params[j]? = some t → args[j]? = some v → Value.okWide Try.prog W .any base t v := hval0
  have hW' := hW
  obtain ⟨p, q, hA0, hV, rfl, hfz, hnd⟩ := hW
  have hA : DataW.TrodAll enc Try.prog W 0 (fun _ => true) true Try.f8.params.toList args.toList ds p := hA0
  rw [Try.params8] at hA hval hsz
  obtain ⟨v0, vs0, d0, ds0, p0, q0, hargs, rfl, rfl, h0, r0⟩ := trodAll_cons hA
  obtain ⟨rfl, rfl, rfl⟩ := trodAll_nil r0
  obtain rfl : args = #[v0] := by cases args; simp_all
  obtain ⟨rfl, rfl⟩ := trodVars_none hV
  obtain ⟨c0, rfl, _⟩ := okWide_struct Try.underlying36 (hval 0 36 v0 rfl rfl)
  have k0 := h0
  have lt0 : ∀ x ∈ p0, x.block < W.heap.size := by obtain ⟨m, hm⟩ := k0; exact DataW.trod_lt m _ _ _ hm
  have z0 : ∀ n ∈ d0.weights Try.prog 36, n ≤ reachBytes := fun n hn => by simpa using (List.all_eq_true.1 hsz) n (DataW.weights_mem_each (j := 0) (t := 36) rfl rfl n hn)
  obtain ⟨m0, hm0⟩ := h0
  obtain ⟨l0, hK0, hw0⟩ := (opens36 (SizeOf.sizeOf d0 + 1)).2 H enc W 0 true m0 _ _ hm0 (Nat.lt_succ_self _) z0
  have hK0' : k36.K W l0 c0.toList := hK0
  obtain ⟨A0_1, c0_1, he0, l0_1, g0_1⟩ := k36_open hK0'
  obtain rfl : c0 = #[.int .i64 l0.f0, .slice A0_1 l0.f1.length c0_1] := Array.ext' he0
  refine (law_calls (swagelaw24_FoldCounts.calls (G := Gd.all W) (Rd.all ho28 rfl g0_1) l0_1 (foldCounts_law l0 hw0)) (by intro v G' Lr hP; first | (obtain ⟨_, rfl, _⟩ := hP; rfl) | (obtain ⟨rfl, _⟩ := hP; rfl))).mono fun e W' ⟨he, bel⟩ => ?_
  subst he
  exact ⟨_, rfl, _, _, _, [], _, [], hW', trodAll_mk1 (shut_bool Try.underlying4 _), (trodAll_cons_mk (Below.trod laidOut (by kernel_rfl) (of_decide_eq_true (by kernel_rfl)) k0 bel lt0) trodAll_mk0), rfl, bel.frame _, fun h => by cases h⟩
theorem over : Rows.foldCountsRow.holds Try.pinned (OpenSpec.ofChange Rows.foldCountsSpec) :=
  OpenClaim.holds_of_wide 8 Try.f8 rfl rfl rfl rfl rfl rfl rfl ⟨rfl, rfl, rfl, rfl, rfl⟩ rfl rfl rfl rfl rfl (by kernel_rfl) Try.func8 (by kernel_rfl)
    (of_decide_eq_true (by kernel_rfl)) (by unfold Func.isWrapper; first | (rw [if_pos (by decide +kernel)]; kernel_rfl) | (rw [if_neg (by decide +kernel)]; exact ⟨rfl, rfl⟩))
    (fun os started H enc _ => lifted os started H enc)
theorem proved : Rows.FoldCountsSaid := over
#print axioms proved
end Go.Proofs.Ytmacdhkfgoahcaa.foldCounts
namespace Go.Proofs.Ytmacdhkfgoahcaa
/-- The row, under a short name, for the claim. -/
theorem foldCounts_holds : Rows.FoldCountsSaid := foldCounts.proved
end Go.Proofs.Ytmacdhkfgoahcaa
