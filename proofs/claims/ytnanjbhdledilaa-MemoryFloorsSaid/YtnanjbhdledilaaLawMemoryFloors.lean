-- The row of MemoryFloors: after the pattern of the printed rows; its slices are opened by this work's own Open.
import Derived.Test.YtnanjbhdledilaaRows
import Derived.Test.YtnanjbhdledilaaOpen
import Derived.Test.YtnanjbhdledilaaMemF
import Derived.WalkKit
import Derived.ProofKit
import Derived.OpenShut
import Derived.ShutString
import Derived.ChangeOld
import Derived.Below
import Derived.SizedLaws
import Derived.Carry
namespace Go.Proofs.Ytnanjbhdledilaa.memoryFloors
open Go.ChangeShapes Go.WideShapes Go.ChangeAt Go.RowKit
open Go.ChangeMaps (open_string shut_string)
open Go.Proofs.YtnanjbhdledilaaW.PrintWords
set_option linter.unusedVariables false
theorem laidOut : laidOutB Try.prog = true := by kernel_rfl
theorem own : ownKnob Try.prog.godebug = none := by kernel_rfl
theorem opens3 : Open.Opens Try.prog 3 (Kd.int .i64) (fun n => (Lit.int .i64 n).wf = true) := Open.Opens.int Try.underlying3 (by kernel_rfl)
/-- A slice of ints that came in, as the walks read it. -/
theorem ints {W : World} {a : Option Addr} {l : List Int} (h : Kd.C (Kd.int .i64) W a l.length l) : Mem.Ints W a l := by
  intro j hj
  obtain ⟨x, e, hc⟩ := h.2.2 (by omega)
  obtain ⟨c, _, hK, hcell⟩ := hc j l[j] (List.getElem?_eq_getElem hj)
  have hK' : c = [.int .i64 l[j]] := hK
  subst hK'
  have hx := hcell 0 _ rfl
  have e1 : j * (Kd.int .i64).sz + 0 = j := by show j * 1 + 0 = j; omega
  rw [e1] at hx
  refine ⟨x, e, ?_, hx⟩
  have := World.block_lt_of_cell? _ _ hx
  rwa [add_block] at this
set_option maxRecDepth 100000 in
theorem lifted (os : Os) (started : os.Started) (H : Type) (enc : TypeId × Value → H) :
    ReturnsInHanded {} Try.checked os 5 .any (Rows.memoryFloorsSpec.pre6 enc Try.prog Try.f5 Rows.memoryFloorsRow.domain false) (Rows.memoryFloorsSpec.post enc Try.prog Try.f5 false true false false) := by
  refine returnsInHanded_of_change_sized (C := Try.checked) own started (by kernel_rfl) Try.func5
    (ChangeSpec.witness6 (enc := enc) (C := Try.checked) false ⟨#[], #[.slice none 0 0, .int .i64 0], []⟩ 8 (by kernel_rfl) (by kernel_rfl) (by kernel_rfl) (by kernel_rfl)) ?_
  intro W base args ds gs before hval0 hW hcnd hsz0 _
  have hval : ∀ (j : Nat) t v, Try.f5.params[j]? = some t → args[j]? = some v → Value.okWide Try.prog W .any base t v := hval0
  have hW' := hW
  obtain ⟨p, q, hA0, hV, rfl, hfz, hnd⟩ := hW
  have hA : DataW.TrodAll enc Try.prog W 0 (fun _ => true) true Try.f5.params.toList args.toList ds p := hA0
  rw [Try.params5] at hA hval
  obtain ⟨v0, vs0, d0, ds0, p0, q0, hargs, rfl, rfl, h0, r0⟩ := trodAll_cons hA
  obtain ⟨v1, vs1, d1, ds1, p1, q1, rfl, rfl, rfl, h1, r1⟩ := trodAll_cons r0
  obtain ⟨rfl, rfl, rfl⟩ := trodAll_nil r1
  obtain rfl : args = #[v0, v1] := by cases args; simp_all
  obtain ⟨rfl, rfl⟩ := trodVars_none hV
  obtain ⟨a0, len0, cap0, rfl⟩ := okWide_slice Try.underlying38 (hval 0 38 v0 rfl rfl)
  have k0 := h0
  have lt0 : ∀ x ∈ p0, x.block < W.heap.size := by obtain ⟨m, hm⟩ := k0; exact DataW.trod_lt m _ _ _ hm
  obtain ⟨l0, rfl, hc0, hr0, hm0, hw0⟩ := Open.Opens.arg Try.underlying38 (by kernel_rfl) opens3 h0
  obtain ⟨a1, rfl, rfl, rfl, w1⟩ := open_int Try.underlying3 (hval 1 3 v1 rfl rfl) h1
  clear hA0 hval0 hsz0
  refine (Mem.floors_any a0 cap0 l0 a1 W (ints hr0)).mono fun e W' ⟨he, bel⟩ => ?_
  subst he
  exact ⟨_, rfl, _, _, _, [], _, [], hW', trodAll_mk1 (shut_bool Try.underlying4 _), (trodAll_cons_mk (Below.trod laidOut (by kernel_rfl) (of_decide_eq_true (by kernel_rfl)) k0 bel lt0) (trodAll_cons_mk (shut_int Try.underlying3 w1) trodAll_mk0)), rfl, bel.frame _, fun h => by cases h⟩
theorem over : Rows.memoryFloorsRow.holds Try.pinned (OpenSpec.ofChange Rows.memoryFloorsSpec) :=
  OpenClaim.holds_of_wide 5 Try.f5 rfl rfl rfl rfl rfl rfl rfl ⟨rfl, rfl, rfl, rfl, rfl⟩ rfl rfl rfl rfl rfl (by kernel_rfl) Try.func5 (by kernel_rfl)
    (of_decide_eq_true (by kernel_rfl)) (by unfold Func.isWrapper; first | (rw [if_pos (by decide +kernel)]; kernel_rfl) | (rw [if_neg (by decide +kernel)]; exact ⟨rfl, rfl⟩))
    (fun os started H enc _ => lifted os started H enc)
theorem proved : Rows.MemoryFloorsSaid := over
#print axioms proved
end Go.Proofs.Ytnanjbhdledilaa.memoryFloors
namespace Go.Proofs.Ytnanjbhdledilaa
/-- The row, under a short name, for the claim. -/
theorem memoryFloors_holds : Rows.MemoryFloorsSaid := memoryFloors.proved
end Go.Proofs.Ytnanjbhdledilaa
