/- The memory's state as the statements' walks carry it; the small case. -/
import Derived.Test.YtnanjbhdledilaaMemC
set_option linter.unusedVariables false
set_option linter.unusedSimpArgs false
namespace Go.Proofs.Ytnanjbhdledilaa.Mem
open Go Go.RowKit Go.Proofs.YtnanjbhdledilaaW.PrintWords Go.Proofs.YtnanjbhdledilaaW.PrintLast Go.Proofs.YtnanjbhdledilaaW.PrintMore
/-- A memory that the call itself made. -/
structure St (w0 w : World) (g B : Nat) (M : Mem) : Prop where
  ok : M.Ok
  im : IsMem w g B M
  be : Below w0.heap.size w0 w
  ge : w0.heap.size ≤ g
  gB : w0.heap.size ≤ B
theorem new_ok {n : Nat} (h1 : 1 ≤ n) (h2 : n ≤ 1048576) : (Mem.new n).Ok := ⟨Nat.le_refl _, h1, Nat.le_refl _, h2⟩
theorem store_ok {M : Mem} (ok : M.Ok) (a v : Int) : (M.store a v).Ok := by
  unfold Mem.store; split
  · exact ⟨ok.h1, ok.hf, ok.fn, ok.nm⟩
  · exact ok
theorem alloc_ok {M : Mem} (ok : M.Ok) (n : Int) : (M.alloc n).Ok := by
  obtain ⟨o1, o2, o3, o4⟩ := ok
  unfold Mem.alloc
  split
  · exact ⟨o1, o2, o3, o4⟩
  · split
    · exact ⟨o1, o2, o3, o4⟩
    · exact ⟨by show 1 ≤ M.h + n.toNat; omega, by show M.h + n.toNat ≤ M.f; omega, o3, o4⟩
theorem setFloor_ok {M : Mem} (ok : M.Ok) (a : Int) : (M.setFloor a).Ok := by
  obtain ⟨o1, o2, o3, o4⟩ := ok
  unfold Mem.setFloor
  split
  · exact ⟨o1, o2, o3, o4⟩
  · exact ⟨o1, by show M.h ≤ a.toNat; omega, by show a.toNat ≤ M.n; omega, o4⟩
variable {w0 w : World} {g B : Nat} {M : Mem}
theorem St.load (h : St w0 w g B M) (a : Int) : Calls Try.prog 15 #[.pointer (some ⟨g, 0, none⟩), .int .i64 a] w fun e w' => e = .returned (.tuple #[.int .i64 (M.load a).1, .int .i64 (M.load a).2]) ∧ St w0 w' g B M :=
  (load_any g B M h.ok a w h.im).mono fun e w' ⟨h1, h2⟩ => ⟨h1, h2 ▸ h⟩
theorem St.store (h : St w0 w g B M) (a v : Int) : Calls Try.prog 16 #[.pointer (some ⟨g, 0, none⟩), .int .i64 a, .int .i64 v] w fun e w' => e = .returned (.int .i64 (M.storeE a)) ∧ St w0 w' g B (M.store a v) :=
  (store_any g B M h.ok a v w h.im).mono fun e w' ⟨h1, h2, h3⟩ => ⟨h1, store_ok h.ok a v, h2, h3.below h.be h.ge h.gB, h.ge, h.gB⟩
theorem St.alloc (h : St w0 w g B M) (n : Int) : Calls Try.prog 14 #[.pointer (some ⟨g, 0, none⟩), .int .i64 n] w fun e w' => e = .returned (.tuple #[.int .i64 (M.allocR n).1, .int .i64 (M.allocR n).2]) ∧ St w0 w' g B (M.alloc n) :=
  (alloc_any g B M h.ok n w h.im).mono fun e w' ⟨h1, h2, h3⟩ => ⟨h1, alloc_ok h.ok n, h2, h3.below h.be h.ge h.gB, h.ge, h.gB⟩
theorem St.setFloor (h : St w0 w g B M) (a : Int) : Calls Try.prog 17 #[.pointer (some ⟨g, 0, none⟩), .int .i64 a] w fun e w' => e = .returned (.int .i64 (M.setFloorE a)) ∧ St w0 w' g B (M.setFloor a) :=
  (setFloor_any g B M h.ok a w h.im).mono fun e w' ⟨h1, h2, h3⟩ => ⟨h1, setFloor_ok h.ok a, h2, h3.below h.be h.ge h.gB, h.ge, h.gB⟩
theorem St.heap (h : St w0 w g B M) : Calls Try.prog 11 #[.pointer (some ⟨g, 0, none⟩)] w fun e w' => e = .returned (.int .i64 M.h) ∧ St w0 w' g B M :=
  (heap_any g B M w h.im).mono fun e w' ⟨h1, h2⟩ => ⟨h1, h2 ▸ h⟩
theorem St.floor (h : St w0 w g B M) : Calls Try.prog 12 #[.pointer (some ⟨g, 0, none⟩)] w fun e w' => e = .returned (.int .i64 M.f) ∧ St w0 w' g B M :=
  (floor_any g B M w h.im).mono fun e w' ⟨h1, h2⟩ => ⟨h1, h2 ▸ h⟩
theorem St.cells (h : St w0 w g B M) : Calls Try.prog 13 #[.pointer (some ⟨g, 0, none⟩)] w fun e w' => e = .returned (.int .i64 M.n) ∧ St w0 w' g B M :=
  (cells_any g B M w h.im).mono fun e w' ⟨h1, h2⟩ => ⟨h1, h2 ▸ h⟩
/-- A new memory. -/
theorem new_St (a : Int) (h1 : 1 ≤ a) (h2 : a ≤ 1048576) (hb : Below w0.heap.size w0 w) : Calls Try.prog 8 #[.int .i64 a] w fun e w' => ∃ g B, e = .returned (.tuple #[.pointer (some ⟨g, 0, none⟩), .int .i64 0]) ∧ St w0 w' g B (Mem.new a.toNat) := by
  refine (new_any a w).mono fun e w' h => ?_
  rw [if_pos ⟨h1, h2⟩] at h
  obtain ⟨he, hI, hB, hs⟩ := h
  have := hb.size
  exact ⟨_, _, he, new_ok (by omega) (by omega), hI, hb.trans (hB.mono this), by omega, by omega⟩
def K0 : Mem := Mem.new 10
def K1 : Mem := K0.alloc 3
def K2 : Mem := K1.setFloor 3
def K3 : Mem := K2.store 2 7
theorem small_parts (w : World) : ∃ K0 K1 K2 K3 : Mem, (Calls Try.prog 8 #[.int .i64 10] w fun e w' => ∃ g B, e = .returned (.tuple #[.pointer (some ⟨g, 0, none⟩), .int .i64 0]) ∧ St w w' g B K0) ∧
    (∀ g B W, St w W g B K0 → Calls Try.prog 14 #[.pointer (some ⟨g, 0, none⟩), .int .i64 3] W fun e w' => e = .returned (.tuple #[.int .i64 1, .int .i64 0]) ∧ St w w' g B K1) ∧
    (∀ g B W, St w W g B K1 → Calls Try.prog 15 #[.pointer (some ⟨g, 0, none⟩), .int .i64 3] W fun e w' => e = .returned (.tuple #[.int .i64 0, .int .i64 0]) ∧ St w w' g B K1) ∧
    (∀ g B W, St w W g B K1 → Calls Try.prog 15 #[.pointer (some ⟨g, 0, none⟩), .int .i64 4] W fun e w' => e = .returned (.tuple #[.int .i64 0, .int .i64 7]) ∧ St w w' g B K1) ∧
    (∀ g B W, St w W g B K1 → Calls Try.prog 17 #[.pointer (some ⟨g, 0, none⟩), .int .i64 3] W fun e w' => e = .returned (.int .i64 8) ∧ St w w' g B K2) ∧
    (∀ g B W, St w W g B K2 → Calls Try.prog 16 #[.pointer (some ⟨g, 0, none⟩), .int .i64 2, .int .i64 7] W fun e w' => e = .returned (.int .i64 0) ∧ St w w' g B K3) ∧
    (∀ g B W, St w W g B K3 → Calls Try.prog 15 #[.pointer (some ⟨g, 0, none⟩), .int .i64 2] W fun e w' => e = .returned (.tuple #[.int .i64 7, .int .i64 0]) ∧ St w w' g B K3) ∧
    (∀ g B W, St w W g B K3 → Calls Try.prog 11 #[.pointer (some ⟨g, 0, none⟩)] W fun e w' => e = .returned (.int .i64 4) ∧ St w w' g B K3) ∧
    (∀ g B W, St w W g B K3 → Calls Try.prog 12 #[.pointer (some ⟨g, 0, none⟩)] W fun e w' => e = .returned (.int .i64 10) ∧ St w w' g B K3) ∧
    (∀ g B W, St w W g B K3 → Calls Try.prog 13 #[.pointer (some ⟨g, 0, none⟩)] W fun e w' => e = .returned (.int .i64 10) ∧ St w w' g B K3) :=
  ⟨K0, K1, K2, K3, new_St 10 (by decide) (by decide) (Below.refl _ _), fun g B W h => h.alloc 3, fun g B W h => h.load 3, fun g B W h => h.load 4, fun g B W h => h.setFloor 3, fun g B W h => h.store 2 7, fun g B W h => h.load 2, fun g B W h => h.heap, fun g B W h => h.floor, fun g B W h => h.cells⟩
set_option maxHeartbeats 4000000 in
theorem small_any (w : World) : Calls Try.prog 7 #[] w fun e w' => e = .returned (.bool true) ∧ Below w.heap.size w w' := by
  obtain ⟨k0, k1, k2, k3, hn, ha, hl, hl', hf, hst, hl3, hh, hfl, hce⟩ := small_parts w
  have HI := Aside0.mk (Below.refl w.heap.size w)
  go_enter Try.func7, Try.ntmps7
  go_wp2_with (first | (go_at_call 8; refine hn.mono ?_; rintro e w1 ⟨g, B, rfl, h1⟩; clear HI; have HI := Aside0.mk h1; clear h1) | (go_at_call 14; with_reducible refine (ha _ _ _ HI.out).mono ?_; rintro e w1 ⟨rfl, h1⟩; clear HI; have HI := Aside0.mk h1; clear h1) | (go_at_call 15; with_reducible refine (hl _ _ _ HI.out).mono ?_; rintro e w1 ⟨rfl, h1⟩; clear HI; have HI := Aside0.mk h1; clear h1) | (go_at_call 15; with_reducible refine (hl' _ _ _ HI.out).mono ?_; rintro e w1 ⟨rfl, h1⟩; clear HI; have HI := Aside0.mk h1; clear h1) | (go_at_call 17; with_reducible refine (hf _ _ _ HI.out).mono ?_; rintro e w1 ⟨rfl, h1⟩; clear HI; have HI := Aside0.mk h1; clear h1) | (go_at_call 16; with_reducible refine (hst _ _ _ HI.out).mono ?_; rintro e w1 ⟨rfl, h1⟩; clear HI; have HI := Aside0.mk h1; clear h1) | (go_at_call 15; with_reducible refine (hl3 _ _ _ HI.out).mono ?_; rintro e w1 ⟨rfl, h1⟩; clear HI; have HI := Aside0.mk h1; clear h1) | (go_at_call 11; with_reducible refine (hh _ _ _ HI.out).mono ?_; rintro e w1 ⟨rfl, h1⟩; clear HI; have HI := Aside0.mk h1; clear h1) | (go_at_call 12; with_reducible refine (hfl _ _ _ HI.out).mono ?_; rintro e w1 ⟨rfl, h1⟩; clear HI; have HI := Aside0.mk h1; clear h1) | (go_at_call 13; with_reducible refine (hce _ _ _ HI.out).mono ?_; rintro e w1 ⟨rfl, h1⟩; clear HI; have HI := Aside0.mk h1; clear h1))
  go_ret
  exact ⟨rfl, HI.out.be⟩
end Go.Proofs.Ytnanjbhdledilaa.Mem
