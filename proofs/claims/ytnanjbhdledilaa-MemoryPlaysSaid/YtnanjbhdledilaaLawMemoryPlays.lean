-- The row of MemoryPlays: after the pattern of the printed rows; its slices are opened by this work's own Open.
import Derived.Test.YtnanjbhdledilaaRows
import Derived.Test.YtnanjbhdledilaaOpen
import Derived.Test.YtnanjbhdledilaaMemO
import Derived.WalkKit
import Derived.ProofKit
import Derived.OpenShut
import Derived.ShutString
import Derived.ChangeOld
import Derived.Below
import Derived.SizedLaws
import Derived.Carry
namespace Go.Proofs.Ytnanjbhdledilaa.memoryPlays
open Go.ChangeShapes Go.WideShapes Go.ChangeAt Go.RowKit
open Go.ChangeMaps (open_string shut_string)
open Go.Proofs.YtnanjbhdledilaaW.PrintWords
set_option linter.unusedVariables false
theorem laidOut : laidOutB Try.prog = true := by kernel_rfl
theorem own : ownKnob Try.prog.godebug = none := by kernel_rfl
theorem opens3 : Open.Opens Try.prog 3 (Kd.int .i64) (fun n => (Lit.int .i64 n).wf = true) := Open.Opens.int Try.underlying3 (by kernel_rfl)
/-- The steps of a slice that came in: its elements are arrays of three ints. -/
theorem opens32 : Open.Opens Try.prog 32 (Kd.pair (Kd.int .i64) (Kd.pair (Kd.int .i64) (Kd.int .i64))) (fun s => (Lit.int .i64 s.2.1).wf = true ∧ (Lit.int .i64 s.2.2).wf = true) :=
  ⟨by kernel_rfl, fun H enc w base held fuel cs x h => by
    obtain ⟨xs, m, _, _, hl, hx, hall⟩ := DataW.trod_array Try.underlying32 h
    have hc : Try.prog.cellsOf 3 = 1 := by kernel_rfl
    have hc32 : Try.prog.cellsOf 32 = 3 := by kernel_rfl
    rw [hc32] at hl
    have one : ∀ i, i < 3 → ∃ n, (cs.drop i).take 1 = [Value.int .i64 n] ∧ (Lit.int .i64 n).wf = true := fun i hi => by
      have := hall i hi
      rw [hc, Nat.mul_one, List.getElem?_eq_getElem (by omega)] at this
      obtain ⟨n, e, _, hw⟩ := DataW.trod_int Try.underlying3 this
      exact ⟨n, e, hw⟩
    obtain ⟨n0, e0, f0⟩ := one 0 (by decide)
    obtain ⟨n1, e1, f1⟩ := one 1 (by decide)
    obtain ⟨n2, e2, f2⟩ := one 2 (by decide)
    match cs, hl with
    | [a, b, c], _ =>
      simp at e0 e1 e2
      subst e0 e1 e2
      exact ⟨(n0, n1, n2), ⟨[_], [_, _], rfl, rfl, [_], [_], rfl, rfl, rfl⟩, f1, f2⟩⟩
theorem steps {W : World} {a : Option Addr} {l : List (Int × Int × Int)} (h : Kd.C (Kd.pair (Kd.int .i64) (Kd.pair (Kd.int .i64) (Kd.int .i64))) W a l.length l) : Mem.Steps W a l := by
  intro j hj
  obtain ⟨x, e, hc⟩ := h.2.2 (by omega)
  obtain ⟨c, _, hK, hcell⟩ := hc j l[j] (List.getElem?_eq_getElem hj)
  obtain ⟨c0, c1, rfl, hc0, c2, c3, rfl, hc2, hc3⟩ := hK
  have hc0' : c0 = [.int .i64 l[j].1] := hc0
  have hc2' : c2 = [.int .i64 l[j].2.1] := hc2
  have hc3' : c3 = [.int .i64 l[j].2.2] := hc3
  subst hc0' hc2' hc3'
  have hx0 := hcell 0 _ rfl
  have hx1 := hcell 1 _ rfl
  have hx2 := hcell 2 _ rfl
  have e1 : (Kd.pair (Kd.int .i64) (Kd.pair (Kd.int .i64) (Kd.int .i64))).sz = 3 := rfl
  rw [e1] at hx0 hx1 hx2
  rw [Nat.add_zero] at hx0
  rw [add_field _ _ 1 (by omega)] at hx1
  rw [add_field _ _ 2 (by omega)] at hx2
  refine ⟨x, e, ?_, hx0, hx1, hx2⟩
  have := World.block_lt_of_cell? _ _ hx0
  rwa [add_block] at this
set_option maxRecDepth 100000 in
theorem lifted (os : Os) (started : os.Started) (H : Type) (enc : TypeId × Value → H) :
    ReturnsInHanded {} Try.checked os 3 .any (Rows.memoryPlaysSpec.pre6 enc Try.prog Try.f3 Rows.memoryPlaysRow.domain false) (Rows.memoryPlaysSpec.post enc Try.prog Try.f3 false true false false) := by
  refine returnsInHanded_of_change_sized (C := Try.checked) own started (by kernel_rfl) Try.func3
    (ChangeSpec.witness6 (enc := enc) (C := Try.checked) false ⟨#[], #[.int .i64 0, .slice none 0 0], []⟩ 8 (by kernel_rfl) (by kernel_rfl) (by kernel_rfl) (by kernel_rfl)) ?_
  intro W base args ds gs before hval0 hW hcnd hsz0 _
  have hval : ∀ (j : Nat) t v, Try.f3.params[j]? = some t → args[j]? = some v → Value.okWide Try.prog W .any base t v := hval0
  have hW' := hW
  obtain ⟨p, q, hA0, hV, rfl, hfz, hnd⟩ := hW
  have hA : DataW.TrodAll enc Try.prog W 0 (fun _ => true) true Try.f3.params.toList args.toList ds p := hA0
  rw [Try.params3] at hA hval
  obtain ⟨v0, vs0, d0, ds0, p0, q0, hargs, rfl, rfl, h0, r0⟩ := trodAll_cons hA
  obtain ⟨v1, vs1, d1, ds1, p1, q1, rfl, rfl, rfl, h1, r1⟩ := trodAll_cons r0
  obtain ⟨rfl, rfl, rfl⟩ := trodAll_nil r1
  obtain rfl : args = #[v0, v1] := by cases args; simp_all
  obtain ⟨rfl, rfl⟩ := trodVars_none hV
  obtain ⟨a0, rfl, rfl, rfl, w0⟩ := open_int Try.underlying3 (hval 0 3 v0 rfl rfl) h0
  obtain ⟨a1, len1, cap1, rfl⟩ := okWide_slice Try.underlying22 (hval 1 22 v1 rfl rfl)
  have k1 := h1
  have lt1 : ∀ x ∈ p1, x.block < W.heap.size := by obtain ⟨m, hm⟩ := k1; exact DataW.trod_lt m _ _ _ hm
  obtain ⟨l1, rfl, hc1, hr1, hm1, hw1⟩ := Open.Opens.arg Try.underlying22 (by kernel_rfl) opens32 h1
  clear hA0 hval0 hsz0
  refine (Mem.plays_any a0 a1 cap1 l1 W (steps hr1) hw1).mono fun e W' ⟨he, bel⟩ => ?_
  subst he
  exact ⟨_, rfl, _, _, _, [], _, [], hW', trodAll_mk1 (shut_bool Try.underlying4 _), (trodAll_cons_mk (shut_int Try.underlying3 w0) (trodAll_cons_mk (Below.trod laidOut (by kernel_rfl) (of_decide_eq_true (by kernel_rfl)) k1 bel lt1) trodAll_mk0)), rfl, bel.frame _, fun h => by cases h⟩
theorem over : Rows.memoryPlaysRow.holds Try.pinned (OpenSpec.ofChange Rows.memoryPlaysSpec) :=
  OpenClaim.holds_of_wide 3 Try.f3 rfl rfl rfl rfl rfl rfl rfl ⟨rfl, rfl, rfl, rfl, rfl⟩ rfl rfl rfl rfl rfl (by kernel_rfl) Try.func3 (by kernel_rfl)
    (of_decide_eq_true (by kernel_rfl)) (by unfold Func.isWrapper; first | (rw [if_pos (by decide +kernel)]; kernel_rfl) | (rw [if_neg (by decide +kernel)]; exact ⟨rfl, rfl⟩))
    (fun os started H enc _ => lifted os started H enc)
theorem proved : Rows.MemoryPlaysSaid := over
#print axioms proved
end Go.Proofs.Ytnanjbhdledilaa.memoryPlays
namespace Go.Proofs.Ytnanjbhdledilaa
/-- The row, under a short name, for the claim. -/
theorem memoryPlays_holds : Rows.MemoryPlaysSaid := memoryPlays.proved
end Go.Proofs.Ytnanjbhdledilaa
