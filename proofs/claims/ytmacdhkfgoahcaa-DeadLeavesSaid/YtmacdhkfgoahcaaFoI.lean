/- Contract: slices.Clone of ints, in the walks' words. -/
import Derived.Laws.AppendOwn
import Derived.Lib.SliceRun
import Derived.Test.YtmacdhkfgoahcaaFoD
set_option linter.unusedVariables false
set_option linter.unusedSimpArgs false
namespace Go.Proofs.Ytmacdhkfgoahcaa.Fo
open Go Go.RowKit Go.Maps Go.Proofs.Ytmacdhkfgoahcaa.Q Go.Proofs.YtmacdhkfgoahcaaW.PrintWords Go.Proofs.YtmacdhkfgoahcaaW.PrintLast Go.Proofs.YtmacdhkfgoahcaaW.PrintMore
theorem bcellI {W w1 : World} (hb : Below W.heap.size W w1) : (∀ b o, b < W.heap.size → w1.cell? ⟨b, o, none⟩ = W.cell? ⟨b, o, none⟩) ∧ (∀ b o, b < W.heap.size → w1.frozen? ⟨b, o, none⟩ = W.frozen? ⟨b, o, none⟩) :=
  ⟨fun b o h => hb.cell (p := ⟨b, o, none⟩) h, fun b o h => hb.frozen (p := ⟨b, o, none⟩) h⟩
theorem below_unI {B n : Nat} {a w : World} (h : Below B a w) : Below B a (w.drewN n) := ⟨h.os, h.tape, h.output, h.size, h.block⟩
theorem reps_ints (R : Int → List Value → Prop) (hR : ∀ x, R x [.int .i64 x]) (l : List Int) : Reps R 1 l (l.map (Value.int .i64)) := by
  induction l with
  | nil => exact Reps.none _ _
  | cons a r ih => exact Reps.one (hR a) ih
theorem ints_cell {A : Option Addr} {l : List Int} {w : World} (h : Kd.C (Kd.int .i64) w A l.length l) {ad : Addr} (hA : A = some ad) (j : Nat) (u : Value) (hu : (l.map (Value.int .i64))[j]? = some u) : w.cell? (ad.add j) = some u := by
  subst hA
  rw [List.getElem?_map] at hu
  cases e : l[j]? with
  | none => rw [e] at hu; cases hu
  | some x =>
    rw [e] at hu
    injection hu with hu
    have hj := (List.getElem?_eq_some_iff.1 e).1
    obtain ⟨ad', he, hc⟩ := h.2.2 (by omega)
    injection he with he
    subst he
    obtain ⟨c, _, hK, hcell⟩ := hc j x e
    have hK' : c = [.int .i64 x] := hK
    subst hK'
    have := hcell 0 _ rfl
    rw [← hu]
    have e1 : j * (Kd.int .i64).sz + 0 = j := by show j * 1 + 0 = j; omega
    rwa [e1] at this
set_option maxHeartbeats 4000000 in
theorem clone_any (A : Option Addr) (c : Nat) (l : List Int) (w : World) (hr : Kd.C (Kd.int .i64) w A l.length l) (hl : l.length ≤ 17592186044416) :
    Calls Try.prog 37 #[.slice A l.length c] w fun e w' => ∃ v', e = .returned v' ∧ Kd.R (Kd.int .i64) 3 w' w.heap.size (fun _ => True) v' l ∧ Below w.heap.size w w' := by
  have q22 : ∀ (w : World) (a : Option Addr) (n c n' c' : Nat), (binOp .eql 22 (.slice a n c) (.slice none n' c')).run Try.prog w = .ok (.bool a.isNone) w := fun w a n c n' c' => Lib.run_eql_slice_nil w _ _ a n c n' c' Try.underlying22
  cases A with
  | none =>
    have : l = [] := by
      cases l with
      | nil => rfl
      | cons a r => obtain ⟨x, hx, _⟩ := hr.2.2 (by simp); cases hx
    subst this
    clear hr hl
    go_enter Try.func37, Try.ntmps37
    go_wp2
    go_ret
    exact ⟨_, rfl, Kd.R_nil _ _ _ _ _, Below.refl _ _⟩
  | some ad =>
    obtain ⟨i0, hi, hz0, hz1, hz2⟩ := info_parts info3
    have hu22 : ∀ w, Sem.run Try.prog (underlying 22) w = .ok (TypeDesc.slice 3) w := run_underlying Try.underlying22
    have hcell := Aside0.mk (fun j u hu => ints_cell hr rfl j u hu)
    have hL := Aside0.mk hl
    clear hr hl
    go_enter Try.func37, Try.ntmps37
    go_wp2_with (at_builtin; refine wpList_append_own _ rfl _ _ 22 rfl w.heap.size 3 i0 (.int .i64 0) 1 8 Try.underlying22 hi hz0 hz1 hz2 rfl (by decide) _ _ _ rfl (World.ownsRow_made w #[] 0 (Nat.le_refl _) (Nat.zero_le _) (by simp)) ad l.length c (l.map (Value.int .i64)) rfl ?qc1 ?qc2 ?qc3 ?qc4 ?qc5 ?qc6 ?_)
    case qc1 => simp
    case qc2 =>
      intro j u hj
      exact Lib.cell?_alloc_some _ (hcell.out j u hj)
    case qc3 => intro u hu; obtain ⟨x, _, rfl⟩ := List.mem_map.1 hu; rfl
    case qc4 => have := hL.out; unfold maxLen; omega
    case qc5 => have := hL.out; omega
    case qc6 => simp
    intro v' w1 hown hgrow hnil
    have hB : Below w.heap.size w w1 := ((Below.refl _ w).alloc (Nat.le_refl _) _).grown hgrow (by simp) (by intro k hk; simp [Value.ownBlock] at hk; omega)
    have HW := Aside0.mk hown
    clear hown hgrow hnil
    go_wp2
    go_ret
    refine ⟨v', rfl, ⟨fun _ _ => trivial, _, ?_, reps_ints ((Kd.int .i64).M w1 w.heap.size fun k => True ∧ some k ≠ v'.ownBlock) (fun x => rfl) l⟩, hB⟩
    have h_ := HW.out
    try rw [Nat.zero_add] at h_
    exact h_
end Go.Proofs.Ytmacdhkfgoahcaa.Fo
