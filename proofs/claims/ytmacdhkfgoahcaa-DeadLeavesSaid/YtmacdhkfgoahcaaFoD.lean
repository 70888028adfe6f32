/- Contract, walked by hand: an operation on two that are known (both). For every map, every operation. -/
import Derived.Test.YtmacdhkfgoahcaaFoC
set_option linter.unusedVariables false
set_option linter.unusedSimpArgs false
namespace Go.Proofs.Ytmacdhkfgoahcaa.Fo
open Go Go.RowKit Go.Maps Go.Proofs.Ytmacdhkfgoahcaa.Q Go.Proofs.YtmacdhkfgoahcaaW.PrintWords Go.Proofs.YtmacdhkfgoahcaaW.PrintLast Go.Proofs.YtmacdhkfgoahcaaW.PrintMore
def bothR (m : Fn) (x : S30) : Int × Bool := match m x.f2, m x.f3 with
  | some a, some b => ((doR x.f4 a b).1, (doR x.f4 a b).2 == 0)
  | _, _ => (0, false)
theorem bothR_none2 {m : Fn} {x : S30} (h : m x.f2 = none) : bothR m x = (0, false) := by unfold bothR; rw [h]
theorem bothR_none3 {m : Fn} {x : S30} (h : m x.f3 = none) : bothR m x = (0, false) := by unfold bothR; rw [h]; cases m x.f2 <;> rfl
theorem bothR_some {m : Fn} {x : S30} {a b : Int} (h : m x.f2 = some a) (h' : m x.f3 = some b) : bothR m x = ((doR x.f4 a b).1, (doR x.f4 a b).2 == 0) := by unfold bothR; rw [h, h']
/-- An operation, as a value. -/
def opV (x : S30) (v5 : Value) : Value := .agg #[.int .i64 x.f0, .int .i64 x.f1, .int .i64 x.f2, .int .i64 x.f3, .int .i64 x.f4, v5]
set_option maxHeartbeats 4000000 in
theorem both_any (nb cnt : Nat) (m : Fn) (x : S30) (A : Option Addr) (l c : Nat) (h2 : wf x.f2) (h3 : wf x.f3) (w : World) (hm : MapI w nb cnt m) :
    Calls Try.prog 88 #[.map (some nb), opV x (.slice A l c)] w fun e w' => e = .returned (.tuple #[.int .i64 (bothR m x).1, .bool (bothR m x).2]) ∧ Below w.heap.size w w' := by
  have hm' : ∀ o, MapI (w.alloc o) nb cnt m := fun o => hm.below ((Below.refl _ _).alloc (Nat.le_refl _) _)
  obtain ⟨o, ho⟩ : ∃ o : Obj, o = .cells #[.int .i64 x.f0, .int .i64 x.f1, .int .i64 x.f2, .int .i64 x.f3, .int .i64 x.f4, .slice A l c] 30 := ⟨_, rfl⟩
  obtain ⟨D2, hD2, hh2, hv2⟩ := (hm' o).gives x.f2 h2
  obtain ⟨D3, hD3, hh3, hv3⟩ := (hm' o).gives x.f3 h3
  subst ho
  have hkey2 := key3 h2
  have hkey3 := key3 h3
  replace hD2 := Aside0.mk hD2
  replace hD3 := Aside0.mk hD3
  clear hm' h2 h3
  unfold opV
  cases e2 : m x.f2 with
  | none =>
    rw [bothR_none2 e2]
    rw [e2] at hh2 hv2
    rw [Option.isSome_none] at hh2
    clear e2
    cases e3 : m x.f3 with
    | none =>
      rw [e3] at hh3 hv3
      rw [Option.isSome_none] at hh3
      clear e3 hm
      go_enter Try.func88, Try.ntmps88
      go_wp2_with (first | (at_lookup; refine wpList_lookup_own_ok_int _ rfl _ _ 81 rfl 3 3 .i64 law3 Try.underlying81 Try.underlying3 (zero3 _) nb cnt _ rfl hD2.out _ _ rfl hkey2 ?_; intro v hat hwc; clear hat hwc; clear hkey2) | (at_lookup; refine wpList_lookup_own_ok_int _ rfl _ _ 81 rfl 3 3 .i64 law3 Try.underlying81 Try.underlying3 (zero3 _) nb cnt _ rfl hD3.out _ _ rfl hkey3 ?_; intro v hat hwc; clear hat hwc; clear hkey3))
      go_ret2
      exact ⟨rfl, (Below.refl _ _).alloc (Nat.le_refl _) _⟩
    | some b =>
      rw [e3] at hh3 hv3
      rw [Option.isSome_some] at hh3
      clear e3 hm
      go_enter Try.func88, Try.ntmps88
      go_wp2_with (first | (at_lookup; refine wpList_lookup_own_ok_int _ rfl _ _ 81 rfl 3 3 .i64 law3 Try.underlying81 Try.underlying3 (zero3 _) nb cnt _ rfl hD2.out _ _ rfl hkey2 ?_; intro v hat hwc; clear hat hwc; clear hkey2) | (at_lookup; refine wpList_lookup_own_ok_int _ rfl _ _ 81 rfl 3 3 .i64 law3 Try.underlying81 Try.underlying3 (zero3 _) nb cnt _ rfl hD3.out _ _ rfl hkey3 ?_; intro v hat hwc; obtain rfl := hv3.out v hat; clear hat hwc; clear hkey3))
      go_ret2
      exact ⟨rfl, (Below.refl _ _).alloc (Nat.le_refl _) _⟩
  | some a =>
    cases e3 : m x.f3 with
    | none =>
      rw [bothR_none3 e3]
      rw [e2] at hh2 hv2
      rw [Option.isSome_some] at hh2
      rw [e3] at hh3 hv3
      rw [Option.isSome_none] at hh3
      clear e2 e3 hm
      go_enter Try.func88, Try.ntmps88
      go_wp2_with (first | (at_lookup; refine wpList_lookup_own_ok_int _ rfl _ _ 81 rfl 3 3 .i64 law3 Try.underlying81 Try.underlying3 (zero3 _) nb cnt _ rfl hD2.out _ _ rfl hkey2 ?_; intro v hat hwc; obtain rfl := hv2.out v hat; clear hat hwc; clear hkey2) | (at_lookup; refine wpList_lookup_own_ok_int _ rfl _ _ 81 rfl 3 3 .i64 law3 Try.underlying81 Try.underlying3 (zero3 _) nb cnt _ rfl hD3.out _ _ rfl hkey3 ?_; intro v hat hwc; clear hat hwc; clear hkey3))
      go_ret2
      exact ⟨rfl, (Below.refl _ _).alloc (Nat.le_refl _) _⟩
    | some b =>
      rw [bothR_some e2 e3]
      rw [e2] at hh2 hv2
      rw [Option.isSome_some] at hh2
      rw [e3] at hh3 hv3
      rw [Option.isSome_some] at hh3
      clear e2 e3 hm
      have hN := fun W => word_Do.calls 9 x.f4 a b (doR x.f4 a b).1 (doR x.f4 a b).2 W (do_some x.f4 a b)
      go_enter Try.func88, Try.ntmps88
      go_wp2_with (first | (at_lookup; refine wpList_lookup_own_ok_int _ rfl _ _ 81 rfl 3 3 .i64 law3 Try.underlying81 Try.underlying3 (zero3 _) nb cnt _ rfl hD2.out _ _ rfl hkey2 ?_; intro v hat hwc; obtain rfl := hv2.out v hat; clear hat hwc; clear hkey2) | (at_lookup; refine wpList_lookup_own_ok_int _ rfl _ _ 81 rfl 3 3 .i64 law3 Try.underlying81 Try.underlying3 (zero3 _) nb cnt _ rfl hD3.out _ _ rfl hkey3 ?_; intro v hat hwc; obtain rfl := hv3.out v hat; clear hat hwc; clear hkey3) | (go_at_call 29; refine (hN _).mono ?_; rintro e w1 ⟨rfl, hd⟩))
      go_ret2
      exact ⟨rfl, ((Below.refl _ _).alloc (Nat.le_refl _) _).trans (hd.mono (by simp))⟩
end Go.Proofs.Ytmacdhkfgoahcaa.Fo
