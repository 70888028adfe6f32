/- The statement CodeCopies, for every input: the law's function comes back with true, and leaves what it was handed as it was. After the pattern of the printed rows; the arguments are opened by this work's own SyOp. -/
import Derived.Test.YtmacdhkfgoahcaaDoorRows
import Derived.Test.YtmacdhkfgoahcaaDoorCards
import Derived.Test.YtmacdhkfgoahcaaDoorTie
import Derived.Test.YtmacdhkfgoahcaaDoorSyNCodeCopiese
import Derived.WalkKit
import Derived.ProofKit
import Derived.OpenShut
import Derived.ShutString
import Derived.ChangeOld
import Derived.Below
import Derived.SizedLaws
import Derived.Carry
import Derived.LaidMore
import Derived.LaidHandle
import Derived.Stop.LaidErr
import Derived.Lib.LaidTab
import Derived.Stop.Joined
import Derived.SevenTiedAt
namespace Go.Proofs.YtmacdhkfgoahcaaDoor.codeCopies
open Go Go.ChangeShapes Go.WideShapes Go.ChangeAt Go.RowKit
open Go.ChangeMaps (open_string shut_string)
open Go.Proofs.YtmacdhkfgoahcaaDoorW.PrintWords Go.Proofs.YtmacdhkfgoahcaaDoor.Sy Go.Proofs.YtmacdhkfgoahcaaDoor.SyO
set_option linter.unusedVariables false
theorem laidOut : laidOutB Tryd.prog = true := by kernel_rfl
theorem own : ownKnob Tryd.prog.godebug = none := by kernel_rfl
/-- What the row lists. -/
def laidL : List (String × DataW Unit) := [("math/bits.deBruijn32tab", Rows.laid_math_bits_deBruijn32tab), ("math/bits.deBruijn64tab", Rows.laid_math_bits_deBruijn64tab), ("internal/strconv.uint64pow10", Rows.laid_internal_strconv_uint64pow10)]
theorem door_met (os : Os) (args : Array Value) : laidMetH Tryd.prog laidL ((World.doorLaid Tryd.prog 400 os).forCall (fun _ _ => 0) ⟨#[], args, []⟩).memory :=
  laidMetH_of_parts3 (fuel := 8) (laidMet_of_run' 8 (by kernel_rfl) (by kernel_rfl)) (by kernel_rfl) (by kernel_rfl)
theorem tab_of {W : World} (h : laidMetH Tryd.prog laidL W) : Lib.TabIs Tryd.prog W "internal/strconv.uint64pow10" .u64 Lib.pow10Tab := by
  rw [MakeChecks.laidMetH_plain _ _ _ (by kernel_rfl)] at h
  exact Lib.tabIs_of_head (g := 1) (t := 117) (n := 20) (e := 110) (by kernel_rfl) (by kernel_rfl) (by kernel_rfl) (by kernel_rfl) (by kernel_rfl) (by kernel_rfl) (show laidMet Tryd.prog (("internal/strconv.uint64pow10", Lib.tabData .u64 Lib.pow10Tab) :: []) W from h.tail.tail)
theorem tab_all {W : World} (h : laidMetH Tryd.prog laidL W) : Tab (Gd.all W) := fun W' hW' => by
  have h0 := tab_of h
  have hg : Tryd.prog.globalNamed "internal/strconv.uint64pow10" = some (Tryd.prog.globalNamed "internal/strconv.uint64pow10").get! := by kernel_rfl
  have hk : (Tryd.prog.globalNamed "internal/strconv.uint64pow10").get! < W.heap.size := by
    unfold Lib.TabIs World.var? at h0
    rw [hg] at h0
    simp only [Option.bind_some] at h0
    apply Classical.byContradiction; intro hn
    rw [Array.getElem?_eq_none (by omega)] at h0
    cases h0
  unfold Lib.TabIs World.var? at h0 ⊢
  rw [hg] at h0 ⊢
  simp only [Option.bind_some] at h0 ⊢
  rw [hW' _ hk]; exact h0
set_option maxRecDepth 100000 in
theorem lifted (os : Os) (started : os.Started) (H : Type) (enc : TypeId × Value → H) :
    ReturnsInHanded {} Tryd.checked os 3 .any (fun w args => (Rows.codeCopiesSpec.pre enc Tryd.prog Tryd.f3 [] false w args ∧ laidMetH Tryd.prog laidL w) ∧ sizedMet enc Tryd.prog Tryd.f3 (OpenSpec.ofChange Rows.codeCopiesSpec) false w args) (Rows.codeCopiesSpec.post enc Tryd.prog Tryd.f3 false true false false) := by
  refine returnsInHanded_of_change_and (C := Tryd.checked) (X := (fun w _ => laidMetH Tryd.prog laidL w)) (fun _ _ _ hh h => h.of_heap hh) own started (by kernel_rfl) Tryd.func3
    (ChangeSpec.witness_shaped (enc := enc) (C := Tryd.checked) (os := os) (X := (fun w _ => laidMetH Tryd.prog laidL w)) false (World.doorLaid Tryd.prog 400 os) #[.slice none 0 0] 8 rfl (World.shaped_of_RefB (by kernel_rfl) (by kernel_rfl)) (by kernel_rfl) (by kernel_rfl) (by kernel_rfl) (door_met os _)) ?_
  intro W base args ds gs before hval0 hW hcnd hsz0 hL _
  have hsz : (DataW.weightsEach Tryd.prog (Tryd.f3.params.toList ++ Rows.codeCopiesSpec.plain.varTypes Tryd.prog) (ds ++ gs)).all (· ≤ reachBytes) = true := hsz0
  have hval : ∀ (j : Nat) t v, Tryd.f3.params[j]? = some t → args[j]? = some v → Value.okWide Tryd.prog W .any base t v := hval0
  have hW' := hW
  obtain ⟨p, q, hA0, hV, rfl, hfz, hnd⟩ := hW
  have hA : DataW.TrodAll enc Tryd.prog W 0 (fun _ => true) true Tryd.f3.params.toList args.toList ds p := hA0
  rw [Tryd.params3] at hA hval hsz
  obtain ⟨v0, vs0, d0, ds0, p0, q0, hargs, rfl, rfl, h0, r0⟩ := trodAll_cons hA
  obtain ⟨rfl, rfl, rfl⟩ := trodAll_nil r0
  obtain rfl : args = #[v0] := by cases args; simp_all
  obtain ⟨rfl, rfl⟩ := trodVars_none hV
  obtain ⟨a0, len0, cap0, rfl⟩ := okWide_slice Tryd.underlying22 (hval 0 22 v0 rfl rfl)
  have k0 := h0
  have lt0 : ∀ x ∈ p0, x.block < W.heap.size := by obtain ⟨m, hm⟩ := k0; exact DataW.trod_lt m _ _ _ hm
  have z0 : ∀ n ∈ d0.weights Tryd.prog 22, n ≤ reachBytes := fun n hn => by simpa using (List.all_eq_true.1 hsz) n (DataW.weights_mem_each (j := 0) (t := 22) rfl rfl n hn)
  obtain ⟨m0, hm0⟩ := h0
  obtain ⟨l0, ⟨A0, c0, he0, hc0, hr0⟩, hw0⟩ := (show Opens (SizeOf.sizeOf d0 + 1) Tryd.prog 22 (Kd.slice 27 k27) (fun x => (x.length * 32 ≤ 140737488351232 ∧ ∀ y ∈ x, ok27 y)) from (((Opens.slice Tryd.underlying22 (by kernel_rfl) (opens27 _)).le (Nat.le_succ _)).mono (fun l h => ⟨by have h2 := h.2.1; rw [bytes22] at h2; exact h2, h.2.2⟩))).2 H enc W 0 true m0 _ _ hm0 (Nat.lt_succ_self _) z0
  simp [Value.cells] at he0
  obtain ⟨rfl, rfl, rfl⟩ := he0
  refine (law_calls (swagelaw14_CodeCopies.calls (G := Gd.all W) (tab_all hL) (Rd.all ho27 rfl hr0) hc0 (codeCopies_law l0 hw0)) (by rintro v G' Lr ⟨_, rfl, _⟩; rfl)).mono fun e W' ⟨he, bel⟩ => ?_
  subst he
  exact ⟨_, rfl, _, _, _, [], _, [], hW', trodAll_mk1 (shut_bool Tryd.underlying4 _), (trodAll_cons_mk (Below.trod laidOut (by kernel_rfl) (of_decide_eq_true (by kernel_rfl)) k0 bel lt0) trodAll_mk0), rfl, bel.frame _, fun h => by cases h⟩
theorem over : Rows.codeCopiesRow.holds Tryd.pinned (OpenSpec.ofChange Rows.codeCopiesSpec) :=
  OpenClaim.holds_of_wide 3 Tryd.f3 rfl rfl rfl rfl rfl rfl rfl ⟨rfl, rfl, rfl, rfl, rfl⟩ rfl rfl rfl rfl rfl (by kernel_rfl) Tryd.func3 (by kernel_rfl)
    (of_decide_eq_true (by kernel_rfl)) (by unfold Func.isWrapper; first | (rw [if_pos (by decide +kernel)]; kernel_rfl) | (rw [if_neg (by decide +kernel)]; exact ⟨rfl, rfl⟩))
    (fun os started H enc _ => lifted os started H enc)
theorem proved : Rows.CodeCopiesSaid := over
theorem card : Rows.CodeCopiesCardSaid :=
  Claim7.holds_tied_plain_at .later [] [.data, .data, .data] true (true, "4c76a099ddd9fbe64b5ac6576661da5db2a7e03bc3daa17e3518181a9c4ff009") false
    proved (fun _ h => by cases h) (by kernel_rfl) (fun _ h => by cases h) codeCopies_row_tie rfl ⟨rfl, rfl⟩ (by kernel_rfl) rfl
    (fun f fn hf hfn => by
      obtain rfl : f = 3 := Option.some.inj ((show Tryd.prog.funcNamed "swage/swagelaw14.CodeCopies" = some 3 by kernel_rfl).symm.trans hf) |>.symm
      obtain rfl : fn = Tryd.f3 := (Option.some.inj (Tryd.func3.symm.trans hfn)).symm
      exact ⟨by kernel_rfl, fun j t ht => by
        rw [Tryd.params3] at ht
        have hm : t ∈ [22] := by simpa using Array.mem_of_getElem? ht
        have hall : ([22].all fun u => !Tryd.prog.wantsStandIn u) = true := by kernel_rfl
        exact (show Tryd.prog.wantsStandIn t = false by simpa using List.all_eq_true.1 hall t hm)⟩)
    (by kernel_rfl)
#print axioms card
end Go.Proofs.YtmacdhkfgoahcaaDoor.codeCopies
namespace Go.Proofs.YtmacdhkfgoahcaaDoor
/-- The row, under a short name, for the claim. -/
theorem codeCopies_holds : Rows.CodeCopiesCardSaid := codeCopies.card
end Go.Proofs.YtmacdhkfgoahcaaDoor
