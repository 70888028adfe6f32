/- Contract, walked by hand: an operation that reads what its registers hold (facts.replaced). For every state, every operation. -/
import Derived.RegionCalls
import Derived.BigCall
import Derived.Test.YtmacdhkfgoahcaaFoI
set_option linter.unusedVariables false
set_option linter.unusedSimpArgs false
namespace Go.Proofs.Ytmacdhkfgoahcaa.Fo
open Go Go.RowKit Go.Maps Go.Proofs.Ytmacdhkfgoahcaa.Q Go.Proofs.YtmacdhkfgoahcaaW.PrintWords Go.Proofs.YtmacdhkfgoahcaaW.PrintLast Go.Proofs.YtmacdhkfgoahcaaW.PrintMore
def heldI (c : Fn) (r : Int) : Int := (c r).getD r
/-- The state of a block's facts: what is known, whose values registers hold. -/
structure IsFacts (w : World) (g nb cb cnt : Nat) (m c : Fn) : Prop where
  c0 : w.cell? ⟨g, 0, none⟩ = some (.map (some nb))
  c1 : w.cell? ⟨g, 1, none⟩ = some (.map (some cb))
  mn : MapI w nb cnt m
  mc : MapI w cb cnt c
  d1 : nb ≠ cb
theorem IsFacts.lt {w : World} {g nb cb cnt : Nat} {m c : Fn} (h : IsFacts w g nb cb cnt m c) : g < w.heap.size := World.block_lt_of_cell? _ _ h.c0
theorem IsFacts.below {w w' : World} {g nb cb cnt : Nat} {m c : Fn} (h : IsFacts w g nb cb cnt m c) (hb : Below w.heap.size w w') : IsFacts w' g nb cb cnt m c :=
  ⟨(hb.cell (p := ⟨g, 0, none⟩) h.lt).trans h.c0, (hb.cell (p := ⟨g, 1, none⟩) h.lt).trans h.c1, h.mn.below hb, h.mc.below hb, h.d1⟩
theorem held_facts {w : World} {g nb cb cnt : Nat} {m c : Fn} (h : IsFacts w g nb cb cnt m c) (r : Int) (hr : wf r) : ∀ W, Below w.heap.size w W → Calls Try.prog 79 #[.pointer (some ⟨g, 0, none⟩), .int .i64 r] W fun e w' => e = .returned (.int .i64 (heldI c r)) ∧ W = w' :=
  fun W hb => held_any g cb cnt c r hr W (h.below hb).c1 (h.below hb).mc
def replP (c : Fn) (x : S30) : S30 :=
  if (x.f0 == 2 || x.f0 == 5) = true then { x with f2 := heldI c x.f2, f3 := heldI c x.f3 }
  else if (x.f0 == 3 || x.f0 == 4 || x.f0 == 9) = true then { x with f2 := heldI c x.f2 }
  else if (x.f0 == 7) = true then { x with f5 := x.f5.map (heldI c) }
  else x
def ReplPost (y : S30) (w : World) (e : Ending) (w' : World) : Prop := ∃ A' c', e = .returned (opV y (.slice A' y.f5.length c')) ∧ Kd.C (Kd.int .i64) w' A' y.f5.length y.f5 ∧ Below w.heap.size w w'
set_option maxHeartbeats 4000000 in
theorem repl1 (g nb cb cnt : Nat) (m c : Fn) (x : S30) (A : Option Addr) (k : Nat) (h2 : wf x.f2) (h3 : wf x.f3) (w : World) (hF : IsFacts w g nb cb cnt m c) (hr : Kd.C (Kd.int .i64) w A x.f5.length x.f5) (hq2 : (x.f0 == 2) = true) :
    Calls Try.prog 55 #[.pointer (some ⟨g, 0, none⟩), opV x (.slice A x.f5.length k)] w (ReplPost { x with f2 := heldI c x.f2, f3 := heldI c x.f3 } w) := by
  have hH2 := held_facts hF x.f2 h2
  have hH3 := held_facts hF x.f3 h3
  have gl := hF.lt
  have hC0 := Aside0.mk hr
  clear hF hr h2 h3
  unfold opV
  go_enter Try.func55, Try.ntmps55
  go_wp2
  go_region_with (first | (go_at_call 79; (with_reducible refine (hH2 _ ?hb).mono ?_); (case hb => first | exact ((Below.refl w.heap.size w).alloc (Nat.le_refl _) _).alloc (by simp) _ | exact below_unI (((Below.refl w.heap.size w).alloc (Nat.le_refl _) _).alloc (by simp) _)); rintro e w2 ⟨rfl, rfl⟩; clear hH2) | (go_at_call 79; (with_reducible refine (hH3 _ ?hb).mono ?_); (case hb => first | exact ((Below.refl w.heap.size w).alloc (Nat.le_refl _) _).alloc (by simp) _ | exact below_unI (((Below.refl w.heap.size w).alloc (Nat.le_refl _) _).alloc (by simp) _)); rintro e w3 ⟨rfl, rfl⟩; clear hH3))
  all_goals go_wp2
  all_goals refine bodyPost_ret (v := .agg #[.int .i64 x.f0, .int .i64 x.f1, .int .i64 (heldI c x.f2), .int .i64 (heldI c x.f3), .int .i64 x.f4, .slice A x.f5.length k]) (by simp [results, Try.results55, go_sem, *]) rfl ⟨A, k, rfl, Kd.C_below hC0.out (((Below.refl w.heap.size w).alloc (Nat.le_refl _) _).alloc (by simp) _).drew, (((Below.refl w.heap.size w).alloc (Nat.le_refl _) _).alloc (by simp) _).drew⟩
set_option maxHeartbeats 4000000 in
theorem repl2 (g nb cb cnt : Nat) (m c : Fn) (x : S30) (A : Option Addr) (k : Nat) (h2 : wf x.f2) (h3 : wf x.f3) (w : World) (hF : IsFacts w g nb cb cnt m c) (hr : Kd.C (Kd.int .i64) w A x.f5.length x.f5) (hq2 : (x.f0 == 2) = false) (hq5 : (x.f0 == 5) = true) :
    Calls Try.prog 55 #[.pointer (some ⟨g, 0, none⟩), opV x (.slice A x.f5.length k)] w (ReplPost { x with f2 := heldI c x.f2, f3 := heldI c x.f3 } w) := by
  have hH2 := held_facts hF x.f2 h2
  have hH3 := held_facts hF x.f3 h3
  have gl := hF.lt
  have hC0 := Aside0.mk hr
  clear hF hr h2 h3
  unfold opV
  go_enter Try.func55, Try.ntmps55
  go_wp2
  go_region_with (first | (go_at_call 79; (with_reducible refine (hH2 _ ?hb).mono ?_); (case hb => first | exact ((Below.refl w.heap.size w).alloc (Nat.le_refl _) _).alloc (by simp) _ | exact below_unI (((Below.refl w.heap.size w).alloc (Nat.le_refl _) _).alloc (by simp) _)); rintro e w2 ⟨rfl, rfl⟩; clear hH2) | (go_at_call 79; (with_reducible refine (hH3 _ ?hb).mono ?_); (case hb => first | exact ((Below.refl w.heap.size w).alloc (Nat.le_refl _) _).alloc (by simp) _ | exact below_unI (((Below.refl w.heap.size w).alloc (Nat.le_refl _) _).alloc (by simp) _)); rintro e w3 ⟨rfl, rfl⟩; clear hH3))
  all_goals go_wp2
  all_goals refine bodyPost_ret (v := .agg #[.int .i64 x.f0, .int .i64 x.f1, .int .i64 (heldI c x.f2), .int .i64 (heldI c x.f3), .int .i64 x.f4, .slice A x.f5.length k]) (by simp [results, Try.results55, go_sem, *]) rfl ⟨A, k, rfl, Kd.C_below hC0.out (((Below.refl w.heap.size w).alloc (Nat.le_refl _) _).alloc (by simp) _).drew, (((Below.refl w.heap.size w).alloc (Nat.le_refl _) _).alloc (by simp) _).drew⟩
set_option maxHeartbeats 4000000 in
theorem repl3 (g nb cb cnt : Nat) (m c : Fn) (x : S30) (A : Option Addr) (k : Nat) (h2 : wf x.f2) (h3 : wf x.f3) (w : World) (hF : IsFacts w g nb cb cnt m c) (hr : Kd.C (Kd.int .i64) w A x.f5.length x.f5) (hq2 : (x.f0 == 2) = false) (hq5 : (x.f0 == 5) = false) (hq3 : (x.f0 == 3) = true) :
    Calls Try.prog 55 #[.pointer (some ⟨g, 0, none⟩), opV x (.slice A x.f5.length k)] w (ReplPost { x with f2 := heldI c x.f2 } w) := by
  have hH2 := held_facts hF x.f2 h2
  have hH3 := held_facts hF x.f3 h3
  have gl := hF.lt
  have hC0 := Aside0.mk hr
  clear hF hr h2 h3
  unfold opV
  go_enter Try.func55, Try.ntmps55
  go_wp2_with (go_at_call 79; (with_reducible refine (hH2 _ ?hb).mono ?_); (case hb => first | exact ((Below.refl w.heap.size w).alloc (Nat.le_refl _) _).alloc (by simp) _ | exact below_unI (((Below.refl w.heap.size w).alloc (Nat.le_refl _) _).alloc (by simp) _)); rintro e w2 ⟨rfl, rfl⟩; clear hH2)
  refine bodyPost_ret (v := .agg #[.int .i64 x.f0, .int .i64 x.f1, .int .i64 (heldI c x.f2), .int .i64 x.f3, .int .i64 x.f4, .slice A x.f5.length k]) (by simp [results, Try.results55, go_sem, *]) rfl ⟨A, k, rfl, Kd.C_below hC0.out ((((Below.refl w.heap.size w).alloc (Nat.le_refl _) _).alloc (by simp) _)), ((Below.refl w.heap.size w).alloc (Nat.le_refl _) _).alloc (by simp) _⟩
set_option maxHeartbeats 4000000 in
theorem repl4 (g nb cb cnt : Nat) (m c : Fn) (x : S30) (A : Option Addr) (k : Nat) (h2 : wf x.f2) (h3 : wf x.f3) (w : World) (hF : IsFacts w g nb cb cnt m c) (hr : Kd.C (Kd.int .i64) w A x.f5.length x.f5) (hq2 : (x.f0 == 2) = false) (hq5 : (x.f0 == 5) = false) (hq3 : (x.f0 == 3) = false) (hq4 : (x.f0 == 4) = true) :
    Calls Try.prog 55 #[.pointer (some ⟨g, 0, none⟩), opV x (.slice A x.f5.length k)] w (ReplPost { x with f2 := heldI c x.f2 } w) := by
  have hH2 := held_facts hF x.f2 h2
  have hH3 := held_facts hF x.f3 h3
  have gl := hF.lt
  have hC0 := Aside0.mk hr
  clear hF hr h2 h3
  unfold opV
  go_enter Try.func55, Try.ntmps55
  go_wp2_with (go_at_call 79; (with_reducible refine (hH2 _ ?hb).mono ?_); (case hb => first | exact ((Below.refl w.heap.size w).alloc (Nat.le_refl _) _).alloc (by simp) _ | exact below_unI (((Below.refl w.heap.size w).alloc (Nat.le_refl _) _).alloc (by simp) _)); rintro e w2 ⟨rfl, rfl⟩; clear hH2)
  refine bodyPost_ret (v := .agg #[.int .i64 x.f0, .int .i64 x.f1, .int .i64 (heldI c x.f2), .int .i64 x.f3, .int .i64 x.f4, .slice A x.f5.length k]) (by simp [results, Try.results55, go_sem, *]) rfl ⟨A, k, rfl, Kd.C_below hC0.out ((((Below.refl w.heap.size w).alloc (Nat.le_refl _) _).alloc (by simp) _)), ((Below.refl w.heap.size w).alloc (Nat.le_refl _) _).alloc (by simp) _⟩
set_option maxHeartbeats 4000000 in
theorem repl5 (g nb cb cnt : Nat) (m c : Fn) (x : S30) (A : Option Addr) (k : Nat) (h2 : wf x.f2) (h3 : wf x.f3) (w : World) (hF : IsFacts w g nb cb cnt m c) (hr : Kd.C (Kd.int .i64) w A x.f5.length x.f5) (hq2 : (x.f0 == 2) = false) (hq5 : (x.f0 == 5) = false) (hq3 : (x.f0 == 3) = false) (hq4 : (x.f0 == 4) = false) (hq9 : (x.f0 == 9) = true) :
    Calls Try.prog 55 #[.pointer (some ⟨g, 0, none⟩), opV x (.slice A x.f5.length k)] w (ReplPost { x with f2 := heldI c x.f2 } w) := by
  have hH2 := held_facts hF x.f2 h2
  have hH3 := held_facts hF x.f3 h3
  have gl := hF.lt
  have hC0 := Aside0.mk hr
  clear hF hr h2 h3
  unfold opV
  go_enter Try.func55, Try.ntmps55
  go_wp2_with (go_at_call 79; (with_reducible refine (hH2 _ ?hb).mono ?_); (case hb => first | exact ((Below.refl w.heap.size w).alloc (Nat.le_refl _) _).alloc (by simp) _ | exact below_unI (((Below.refl w.heap.size w).alloc (Nat.le_refl _) _).alloc (by simp) _)); rintro e w2 ⟨rfl, rfl⟩; clear hH2)
  refine bodyPost_ret (v := .agg #[.int .i64 x.f0, .int .i64 x.f1, .int .i64 (heldI c x.f2), .int .i64 x.f3, .int .i64 x.f4, .slice A x.f5.length k]) (by simp [results, Try.results55, go_sem, *]) rfl ⟨A, k, rfl, Kd.C_below hC0.out ((((Below.refl w.heap.size w).alloc (Nat.le_refl _) _).alloc (by simp) _)), ((Below.refl w.heap.size w).alloc (Nat.le_refl _) _).alloc (by simp) _⟩
set_option maxHeartbeats 4000000 in
theorem repl7 (g nb cb cnt : Nat) (m c : Fn) (x : S30) (A : Option Addr) (k : Nat) (h2 : wf x.f2) (h3 : wf x.f3) (w : World) (hF : IsFacts w g nb cb cnt m c) (hr : Kd.C (Kd.int .i64) w A x.f5.length x.f5) (hq2 : (x.f0 == 2) = false) (hq5 : (x.f0 == 5) = false) (hq3 : (x.f0 == 3) = false) (hq4 : (x.f0 == 4) = false) (hq9 : (x.f0 == 9) = false) (hq7 : (x.f0 == 7) = false) :
    Calls Try.prog 55 #[.pointer (some ⟨g, 0, none⟩), opV x (.slice A x.f5.length k)] w (ReplPost x w) := by
  have hH2 := held_facts hF x.f2 h2
  have hH3 := held_facts hF x.f3 h3
  have gl := hF.lt
  have hC0 := Aside0.mk hr
  clear hF hr h2 h3
  unfold opV
  go_enter Try.func55, Try.ntmps55
  go_wp2
  refine bodyPost_ret (v := .agg #[.int .i64 x.f0, .int .i64 x.f1, .int .i64 x.f2, .int .i64 x.f3, .int .i64 x.f4, .slice A x.f5.length k]) (by simp [results, Try.results55, go_sem, *]) rfl ⟨A, k, rfl, Kd.C_below hC0.out ((((Below.refl w.heap.size w).alloc (Nat.le_refl _) _).alloc (by simp) _)), ((Below.refl w.heap.size w).alloc (Nat.le_refl _) _).alloc (by simp) _⟩
end Go.Proofs.Ytmacdhkfgoahcaa.Fo
