/- Of the text FoC, what this law uses. -/
import Derived.Test.YtmacdhkfgoahcaaZqFoB
/- Contracts, walked by hand: what a register holds (held), whether it holds what changes nothing (neutral), or 0 (zero), and an operation on two that are known (both). For every map, every operation. -/
set_option linter.unusedVariables false
set_option linter.unusedSimpArgs false
namespace Go.Proofs.Ytmacdhkfgoahcaa.Fo
open Go Go.RowKit Go.Maps Go.Proofs.Ytmacdhkfgoahcaa.Q Go.Proofs.YtmacdhkfgoahcaaW.PrintWords Go.Proofs.YtmacdhkfgoahcaaW.PrintLast Go.Proofs.YtmacdhkfgoahcaaW.PrintMore
theorem key3 {a : Int} (h : wf a) : keyOf Try.prog 3 (.int .i64 a) = some (.int .i64 a) := keyOf_int_mk Try.underlying3 h
/-- What a look-up gives, in the walk's words. -/
theorem MapI.gives {w : World} {b cnt : Nat} {m : Fn} (h : MapI w b cnt m) (a : Int) (ha : wf a) : ∃ D : DataW Unit, w.ownsMap Try.prog 3 (plainElem Try.prog 3) b cnt D ∧ Maps.has D (.int .i64 a) = (m a).isSome ∧
    Aside0 (∀ c : Int, D.atKey (.int .i64 a) (.lit (.int .i64 0)) = .lit (.int .i64 c) → c = (m a).getD 0) := by
  obtain ⟨D, h1, h2, h3⟩ := h.look a ha
  exact ⟨D, h1, h2, ⟨h3⟩⟩
def neutralB (m : Fn) (op r : Int) : Bool := match m r with | some n => neuB op n | none => false
end Go.Proofs.Ytmacdhkfgoahcaa.Fo

