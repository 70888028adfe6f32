/- The contracts that the print takes as given: fold.Block, the law's constant part. -/
import Derived.Test.YtmacdhkfgoahcaaFoT
set_option linter.unusedVariables false
namespace Go.Proofs.Ytmacdhkfgoahcaa.Q
open Go Go.RowKit Go.Proofs.YtmacdhkfgoahcaaW.PrintWords Go.Proofs.YtmacdhkfgoahcaaW.PrintLast Go.Proofs.YtmacdhkfgoahcaaW.PrintMore
open Go.Proofs.Ytmacdhkfgoahcaa.Fo (BIn blockP block_any small_any)
instance (a : Int) : Decidable (Fo.wf a) := inferInstanceAs (Decidable (_ = true))
instance (x : S30) : Decidable (Fo.WfOp x) := decidable_of_iff (Fo.wf x.f1 ∧ Fo.wf x.f2 ∧ Fo.wf x.f3 ∧ Fo.wf x.f4 ∧ ∀ r ∈ x.f5, Fo.wf r) ⟨fun ⟨a, b, c, d, e⟩ => ⟨a, b, c, d, e⟩, fun ⟨a, b, c, d, e⟩ => ⟨a, b, c, d, e⟩⟩
instance (l : List S30) (t : S25) : Decidable (BIn l t) := decidable_of_iff (l.length < 2199023255552 ∧ (∀ x ∈ l, x.f5.length ≤ 17592186044416) ∧ (∀ x ∈ l, Fo.WfOp x) ∧ Fo.wf t.f1 ∧ ∀ x ∈ l, (x.f0 == 7) = false) ⟨fun ⟨a, b, c, d, e⟩ => ⟨a, b, c, d, e⟩, fun ⟨a, b, c, d, e⟩ => ⟨a, b, c, d, e⟩⟩
def fold_Block.f (l0 : List S30) (a1 a2 a3 a4 : Int) : Option (List S30 × Int × Int × Int × Int) :=
  if BIn l0 ⟨a1, a2, a3, a4⟩ then some ((blockP l0 ⟨a1, a2, a3, a4⟩).1, (blockP l0 ⟨a1, a2, a3, a4⟩).2.f0, (blockP l0 ⟨a1, a2, a3, a4⟩).2.f1, (blockP l0 ⟨a1, a2, a3, a4⟩).2.f2, (blockP l0 ⟨a1, a2, a3, a4⟩).2.f3) else none
theorem fold_Block.calls (A : Option Addr) (c : Nat) (l0 : List S30) (a1 a2 a3 a4 : Int) (r1 : List S30) (r2 r3 r4 r5 : Int) (w : World) (hr0 : Kd.C k30 w A l0.length l0) (hc0 : l0.length ≤ c) (h : fold_Block.f l0 a1 a2 a3 a4 = some (r1, r2, r3, r4, r5)) :
    Calls Try.prog 28 #[.agg #[.slice A l0.length c, .int .i64 a1, .int .i64 a2, .int .i64 a3, .int .i64 a4]] w fun e w' => ∃ v0_ : Value, e = .returned (.agg #[v0_, .int .i64 r2, .int .i64 r3, .int .i64 r4, .int .i64 r5]) ∧ Kd.R k30 30 w' w.heap.size (fun _ => True) v0_ r1 ∧ Below w.heap.size w w' := by
  unfold fold_Block.f at h
  split at h
  next hI =>
    have hb := block_any A c l0 ⟨a1, a2, a3, a4⟩ w hr0 hc0 hI
    revert h hb
    generalize blockP l0 ⟨a1, a2, a3, a4⟩ = r
    intro h hb
    simp only [Option.some.injEq, Prod.mk.injEq] at h
    obtain ⟨rfl, rfl, rfl, rfl, rfl⟩ := h
    exact hb
  next => cases h
def swagelaw24_small.f : Option Bool := some true
theorem swagelaw24_small.calls (r : Bool) (w : World) (h : swagelaw24_small.f = some r) : Calls Try.prog 26 #[] w fun e w' => e = .returned (.bool r) ∧ Below w.heap.size w w' := by
  obtain rfl : true = r := Option.some.inj h
  exact small_any w
end Go.Proofs.Ytmacdhkfgoahcaa.Q
