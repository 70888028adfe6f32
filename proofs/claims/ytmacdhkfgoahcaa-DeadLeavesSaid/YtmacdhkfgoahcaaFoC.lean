/- Contracts, walked by hand: what a register holds (held), whether it holds what changes nothing (neutral), or 0 (zero), and an operation on two that are known (both). For every map, every operation. -/
import Derived.Test.YtmacdhkfgoahcaaFoB
set_option linter.unusedVariables false
set_option linter.unusedSimpArgs false
namespace Go.Proofs.Ytmacdhkfgoahcaa.Fo
open Go Go.RowKit Go.Maps Go.Proofs.Ytmacdhkfgoahcaa.Q Go.Proofs.YtmacdhkfgoahcaaW.PrintWords Go.Proofs.YtmacdhkfgoahcaaW.PrintLast Go.Proofs.YtmacdhkfgoahcaaW.PrintMore
theorem key3 {a : Int} (h : wf a) : keyOf Try.prog 3 (.int .i64 a) = some (.int .i64 a) := keyOf_int_mk Try.underlying3 h
/-- What a look-up gives, in the walk's words. -/
theorem MapI.gives {w : World} {b cnt : Nat} {m : Fn} (h : MapI w b cnt m) (a : Int) (ha : wf a) : ∃ D : DataW Unit, w.ownsMap Try.prog 3 (plainElem Try.prog 3) b cnt D ∧ Maps.has D (.int .i64 a) = (m a).isSome ∧
    Aside0 (∀ c : Int, D.atKey (.int .i64 a) (.lit (.int .i64 0)) = .lit (.int .i64 c) → c = (m a).getD 0) := by
  obtain ⟨D, h1, h2, h3⟩ := h.look a ha
  exact ⟨D, h1, h2, ⟨h3⟩⟩
theorem held_any (g cb cnt : Nat) (c : Fn) (r : Int) (hr : wf r) (w : World) (h1 : w.cell? ⟨g, 1, none⟩ = some (.map (some cb))) (hm : MapI w cb cnt c) :
    Calls Try.prog 79 #[.pointer (some ⟨g, 0, none⟩), .int .i64 r] w fun e w' => e = .returned (.int .i64 ((c r).getD r)) ∧ w = w' := by
  obtain ⟨D, hD, hh, hv⟩ := hm.gives r hr
  have hkey := key3 hr
  replace hD := Aside0.mk hD
  clear hm hr
  cases e : c r with
  | none =>
    rw [e] at hh hv
    rw [Option.isSome_none] at hh
    clear e
    go_enter Try.func79, Try.ntmps79
    go_wp2_with (at_lookup; refine wpList_lookup_own_ok_int _ rfl _ _ 80 rfl 3 3 .i64 law3 Try.underlying80 Try.underlying3 (zero3 _) cb cnt _ rfl hD.out _ _ rfl hkey ?_; intro v hat hwc; clear hat hwc)
    go_ret
    exact ⟨rfl, rfl⟩
  | some n =>
    rw [e] at hh hv
    rw [Option.isSome_some] at hh
    clear e
    go_enter Try.func79, Try.ntmps79
    go_wp2_with (at_lookup; refine wpList_lookup_own_ok_int _ rfl _ _ 80 rfl 3 3 .i64 law3 Try.underlying80 Try.underlying3 (zero3 _) cb cnt _ rfl hD.out _ _ rfl hkey ?_; intro v hat hwc; obtain rfl := hv.out v hat; clear hat hwc)
    go_ret
    exact ⟨rfl, rfl⟩
theorem zero_any (nb cnt : Nat) (m : Fn) (r : Int) (hr : wf r) (w : World) (hm : MapI w nb cnt m) :
    Calls Try.prog 93 #[.map (some nb), .int .i64 r] w fun e w' => e = .returned (.bool (m r == some 0)) ∧ w = w' := by
  obtain ⟨D, hD, hh, hv⟩ := hm.gives r hr
  have hkey := key3 hr
  replace hD := Aside0.mk hD
  clear hm hr
  cases e : m r with
  | none =>
    rw [e] at hh hv
    rw [Option.isSome_none] at hh
    clear e
    go_enter Try.func93, Try.ntmps93
    go_wp2_with (at_lookup; refine wpList_lookup_own_ok_int _ rfl _ _ 81 rfl 3 3 .i64 law3 Try.underlying81 Try.underlying3 (zero3 _) nb cnt _ rfl hD.out _ _ rfl hkey ?_; intro v hat hwc; clear hat hwc)
    go_ret
    exact ⟨rfl, rfl⟩
  | some n =>
    rw [e] at hh hv
    rw [Option.isSome_some] at hh
    have hr : (some n == some (0 : Int)) = (n == 0) := rfl
    rw [hr]
    clear e hr
    go_enter Try.func93, Try.ntmps93
    go_wp2_with (at_lookup; refine wpList_lookup_own_ok_int _ rfl _ _ 81 rfl 3 3 .i64 law3 Try.underlying81 Try.underlying3 (zero3 _) nb cnt _ rfl hD.out _ _ rfl hkey ?_; intro v hat hwc; obtain rfl := hv.out v hat; clear hat hwc)
    go_ret
    exact ⟨rfl, rfl⟩
def neutralB (m : Fn) (op r : Int) : Bool := match m r with | some n => neuB op n | none => false
theorem neutral_any (nb cnt : Nat) (m : Fn) (op r : Int) (hr : wf r) (w : World) (hm : MapI w nb cnt m) :
    Calls Try.prog 91 #[.map (some nb), .int .i64 op, .int .i64 r] w fun e w' => e = .returned (.bool (neutralB m op r)) ∧ Drawn0 w w' := by
  obtain ⟨D, hD, hh, hv⟩ := hm.gives r hr
  have hkey := key3 hr
  replace hD := Aside0.mk hD
  clear hm hr
  unfold neutralB
  cases e : m r with
  | none =>
    rw [e] at hh hv
    rw [Option.isSome_none] at hh
    clear e
    go_enter Try.func91, Try.ntmps91
    go_wp2_with (at_lookup; refine wpList_lookup_own_ok_int _ rfl _ _ 81 rfl 3 3 .i64 law3 Try.underlying81 Try.underlying3 (zero3 _) nb cnt _ rfl hD.out _ _ rfl hkey ?_; intro v hat hwc; clear hat hwc)
    go_ret
    exact ⟨rfl, Drawn0.refl _⟩
  | some n =>
    rw [e] at hh hv
    rw [Option.isSome_some] at hh
    have hN := fun W => fold_Neutral.calls 9 op n _ W (neutral_some op n)
    dsimp only
    clear e
    go_enter Try.func91, Try.ntmps91
    go_wp2_with (first | (at_lookup; refine wpList_lookup_own_ok_int _ rfl _ _ 81 rfl 3 3 .i64 law3 Try.underlying81 Try.underlying3 (zero3 _) nb cnt _ rfl hD.out _ _ rfl hkey ?_; intro v hat hwc; obtain rfl := hv.out v hat; clear hat hwc) | (go_at_call 53; refine (hN _).mono ?_; rintro e w1 ⟨rfl, hd⟩))
    go_ret
    exact ⟨rfl, hd⟩
end Go.Proofs.Ytmacdhkfgoahcaa.Fo
