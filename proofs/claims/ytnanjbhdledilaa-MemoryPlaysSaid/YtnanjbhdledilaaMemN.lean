/- The walk of play: a step on both memories. -/
import Derived.Test.YtnanjbhdledilaaMemM
set_option linter.unusedVariables false
set_option linter.unusedSimpArgs false
namespace Go.Proofs.Ytnanjbhdledilaa.Mem
open Go Go.RowKit Go.Maps Go.Proofs.YtnanjbhdledilaaW.PrintWords Go.Proofs.YtnanjbhdledilaaW.PrintLast Go.Proofs.YtnanjbhdledilaaW.PrintMore
/-- A new block leaves both. -/
theorem Duo.alloc {w0 w : World} {g B : Nat} {M : Mem} {g2 b cnt : Nat} {N : Mem} {c : Int → Int} (h : Duo w0 w g B M g2 b cnt N c) (o : Obj) : Duo w0 (w.alloc o) g B M g2 b cnt N c := by
  have k := (Below.refl w.heap.size w).alloc (Nat.le_refl _) o
  obtain ⟨D, hD, _⟩ := h.y.mp
  exact ⟨⟨h.x.ok, h.x.im.keep (k.block g h.x.im.lt) (k.block B (h.x.im.ltB (ok_pos h.x.ok))), h.x.be.alloc h.x.be.size o, h.x.ge, h.x.gB⟩, h.y.keep (k.block g2 (World.block_lt_of_cell? _ _ h.y.c0)) (k.block b hD.lt), h.q1, h.q2, h.d1, h.d2, h.d3, h.d4⟩
theorem Duo.same {w0 w : World} {g B : Nat} {M : Mem} {g2 b cnt : Nat} {N N' : Mem} {c : Int → Int} (h : Duo w0 w g B M g2 b cnt N c) (e1 : N.n = N'.n) (e2 : N.h = N'.h) (e3 : N.f = N'.f) : Duo w0 w g B M g2 b cnt N' c :=
  ⟨h.x, h.y.same e1 e2 e3, h.q1, h.q2, h.d1, h.d2, h.d3, h.d4⟩
/-- What a step leaves. -/
def PlayPost (w0 : World) (g B g2 b cnt : Nat) (M : Mem) (e : Ending) (w' : World) : Prop := e = .returned (.bool true) ∧ ∃ M' c', Duo w0 w' g B M' g2 b (cnt + 1048576) M' c' ∧ Eqv M' c' ∧ M'.n = M.n
/-- Both memories and the step's box. -/
structure Tri (w0 w : World) (g B : Nat) (M : Mem) (g2 b cnt : Nat) (N : Mem) (c : Int → Int) (q : Nat) (s : Int × Int × Int) : Prop where
  d : Duo w0 w g B M g2 b cnt N c
  bx : w.heap[q]? = some (.cells #[.int .i64 s.1, .int .i64 s.2.1, .int .i64 s.2.2] 32 (0, 0))
  e1 : q ≠ g
  e2 : q ≠ B
  e3 : q ≠ g2
  e4 : q ≠ b
section
variable {w0 w : World} {g B : Nat} {M : Mem} {g2 b cnt : Nat} {N : Mem} {c : Int → Int} {q : Nat} {s : Int × Int × Int}
theorem Tri.of (h : Duo w0 w g B M g2 b cnt N c) (s : Int × Int × Int) : Tri w0 (w.alloc (.cells #[.int .i64 s.1, .int .i64 s.2.1, .int .i64 s.2.2] 32)) g B M g2 b cnt N c w.heap.size s := by
  obtain ⟨D, hD, _⟩ := h.y.mp
  have l1 := h.x.im.lt
  have l2 := h.x.im.ltB (ok_pos h.x.ok)
  have l3 : g2 < w.heap.size := World.block_lt_of_cell? _ _ h.y.c0
  have l4 := hD.lt
  exact ⟨h.alloc _, heap_alloc_new _ _, by omega, by omega, by omega, by omega⟩
theorem Tri.cells (h : Tri w0 w g B M g2 b cnt N c q s) : w.cell? ⟨q, 0, none⟩ = some (.int .i64 s.1) ∧ w.cell? ⟨q, 1, none⟩ = some (.int .i64 s.2.1) ∧ w.cell? ⟨q, 2, none⟩ = some (.int .i64 s.2.2) := by
  have e := h.bx
  refine ⟨?_, ?_, ?_⟩ <;> simp [World.cell?, e]
theorem Tri.lt (h : Tri w0 w g B M g2 b cnt N c q s) : q < w.heap.size := (Array.getElem?_eq_some_iff.1 h.bx).1
theorem Tri.xstep {w' : World} {M' : Mem} (h : Tri w0 w g B M g2 b cnt N c q s) (ok : M'.Ok) (hI : IsMem w' g B M') (hO : Only g B w w') : Tri w0 w' g B M' g2 b cnt N c q s :=
  ⟨h.d.xstep ok hI hO, (hO.block q h.e1 h.e2).trans h.bx, h.e1, h.e2, h.e3, h.e4⟩
theorem Tri.ystep {w' : World} {cnt' : Nat} {N' : Mem} {c' : Int → Int} (h : Tri w0 w g B M g2 b cnt N c q s) (hR : IsRef w' g2 b cnt' N' c') (hG : Grow2 g2 b w w') : Tri w0 w' g B M g2 b cnt' N' c' q s :=
  ⟨h.d.ystep (ok_pos h.d.x.ok) hR hG, (hG.block q h.lt h.e3 h.e4).trans h.bx, h.e1, h.e2, h.e3, h.e4⟩
theorem Tri.setFloorX (h : Tri w0 w g B M g2 b cnt N c q s) (a : Int) : Calls Try.prog 17 #[.pointer (some ⟨g, 0, none⟩), .int .i64 a] w fun e w' => e = .returned (.int .i64 (M.setFloorE a)) ∧ Tri w0 w' g B (M.setFloor a) g2 b cnt N c q s :=
  (setFloor_any g B M h.d.x.ok a w h.d.x.im).mono fun e w' ⟨h1, h2, h3⟩ => ⟨h1, h.xstep (setFloor_ok h.d.x.ok a) h2 h3⟩
theorem Tri.allocX (h : Tri w0 w g B M g2 b cnt N c q s) (a : Int) : Calls Try.prog 14 #[.pointer (some ⟨g, 0, none⟩), .int .i64 a] w fun e w' => e = .returned (.tuple #[.int .i64 (M.allocR a).1, .int .i64 (M.allocR a).2]) ∧ Tri w0 w' g B (M.alloc a) g2 b cnt N c q s :=
  (alloc_any g B M h.d.x.ok a w h.d.x.im).mono fun e w' ⟨h1, h2, h3⟩ => ⟨h1, h.xstep (alloc_ok h.d.x.ok a) h2 h3⟩
theorem Tri.storeX (h : Tri w0 w g B M g2 b cnt N c q s) (a v : Int) : Calls Try.prog 16 #[.pointer (some ⟨g, 0, none⟩), .int .i64 a, .int .i64 v] w fun e w' => e = .returned (.int .i64 (M.storeE a)) ∧ Tri w0 w' g B (M.store a v) g2 b cnt N c q s :=
  (store_any g B M h.d.x.ok a v w h.d.x.im).mono fun e w' ⟨h1, h2, h3⟩ => ⟨h1, h.xstep (store_ok h.d.x.ok a v) h2 h3⟩
theorem Tri.loadX (h : Tri w0 w g B M g2 b cnt N c q s) (a : Int) : Calls Try.prog 15 #[.pointer (some ⟨g, 0, none⟩), .int .i64 a] w fun e w' => e = .returned (.tuple #[.int .i64 (M.load a).1, .int .i64 (M.load a).2]) ∧ Tri w0 w' g B M g2 b cnt N c q s :=
  (load_any g B M h.d.x.ok a w h.d.x.im).mono fun e w' ⟨h1, h2⟩ => ⟨h1, h2 ▸ h⟩
theorem Tri.floorY (h : Tri w0 w g B M g2 b cnt N c q s) (ok : N.Ok) (hc : cnt + 1048577 < maxLen) (a : Int) : Calls Try.prog 19 #[.pointer (some ⟨g2, 0, none⟩), .int .i64 a] w fun e w' => e = .returned (.int .i64 (N.setFloorE a)) ∧ Tri w0 w' g B M g2 b (cnt + 1048576) (refFloorM N a) (refFloorC N c a) q s :=
  (rfloor_any g2 b cnt N ok c a hc w h.d.y).mono fun e w' ⟨h1, h2, h3⟩ => ⟨h1, h.ystep h2 h3⟩
theorem Tri.allocY (h : Tri w0 w g B M g2 b cnt N c q s) (ok : N.Ok) (hc : cnt + 1048577 < maxLen) (a : Int) : Calls Try.prog 20 #[.pointer (some ⟨g2, 0, none⟩), .int .i64 a] w fun e w' => e = .returned (.tuple #[.int .i64 (N.allocR a).1, .int .i64 (N.allocR a).2]) ∧ Tri w0 w' g B M g2 b (cnt + 1048576) (refAllocM N a) (refAllocC N c a) q s :=
  (ralloc_any g2 b cnt N ok c a hc w h.d.y).mono fun e w' ⟨h1, h2, h3⟩ => ⟨h1, h.ystep h2 h3⟩
theorem Tri.storeY (h : Tri w0 w g B M g2 b cnt N c q s) (hc : cnt + 1048577 < maxLen) (a v : Int) (ha : (Lit.int .i64 a).wf = true) (hv : (Lit.int .i64 v).wf = true) : Calls Try.prog 21 #[.pointer (some ⟨g2, 0, none⟩), .int .i64 a, .int .i64 v] w fun e w' => e = .returned (.int .i64 (N.storeE a)) ∧ Tri w0 w' g B M g2 b (cnt + 1048576) N (refStore N c a v) q s :=
  (rstore_any g2 b cnt N c a v ha hv (by omega) w h.d.y).mono fun e w' ⟨h1, h2, h3⟩ => ⟨h1, h.ystep (h2.mono (by omega)) (Grow2.grown h3)⟩
theorem Tri.loadY (h : Tri w0 w g B M g2 b cnt N c q s) (a : Int) (ha : (Lit.int .i64 a).wf = true) : Calls Try.prog 22 #[.pointer (some ⟨g2, 0, none⟩), .int .i64 a] w fun e w' => e = .returned (.tuple #[.int .i64 (refLoad N c a).1, .int .i64 (refLoad N c a).2]) ∧ Tri w0 w' g B M g2 b cnt N c q s :=
  (rload_any g2 b cnt N c a ha w h.d.y).mono fun e w' ⟨h1, h2⟩ => ⟨h1, h2 ▸ h⟩
end
set_option maxHeartbeats 8000000 in
set_option maxRecDepth 100000 in
theorem play_any (w0 w : World) (g B g2 b cnt : Nat) (M : Mem) (c : Int → Int) (s : Int × Int × Int) (h1 : (Lit.int .i64 s.2.1).wf = true) (h2 : (Lit.int .i64 s.2.2).wf = true) (hc : cnt + 1048577 < maxLen) (h : Duo w0 w g B M g2 b cnt M c) (he : Eqv M c) :
    Calls Try.prog 10 #[.pointer (some ⟨g, 0, none⟩), .pointer (some ⟨g2, 0, none⟩), .agg #[.int .i64 s.1, .int .i64 s.2.1, .int .i64 s.2.2]] w (PlayPost w0 g B g2 b cnt M) := by
  have hok := h.x.ok
  have HI := Aside0.mk (Tri.of h s)
  obtain ⟨x0, x1, x2⟩ := HI.out.cells
  by_cases r0 : (bits BinOp.and IntKind.i64 s.1 7 == 0) = true
  · have hX : ∀ W, Tri w0 W g B M g2 b cnt M c w.heap.size s → Calls Try.prog 17 #[.pointer (some ⟨g, 0, none⟩), .int .i64 s.2.1] W fun e w' => e = .returned (.int .i64 (M.setFloorE s.2.1)) ∧ Tri w0 w' g B (M.setFloor s.2.1) g2 b cnt M c w.heap.size s := fun W k => k.setFloorX _
    have hY : ∀ W, Tri w0 W g B (M.setFloor s.2.1) g2 b cnt M c w.heap.size s → Calls Try.prog 19 #[.pointer (some ⟨g2, 0, none⟩), .int .i64 s.2.1] W fun e w' => e = .returned (.int .i64 (M.setFloorE s.2.1)) ∧ Tri w0 w' g B (M.setFloor s.2.1) g2 b (cnt + 1048576) (refFloorM M s.2.1) (refFloorC M c s.2.1) w.heap.size s := fun W k => k.floorY hok hc _
    obtain ⟨v1, v2, v3, v4⟩ := eqv_floor hok he s.2.1
    have vn := setFloor_n (M := M) s.2.1
    clear hc h1 h2 h hok
    go_enter Try.func10, Try.ntmps10
    go_wp2_with (first | (go_at_call 17; with_reducible refine (hX _ HI.out).mono ?_; rintro e w1 ⟨rfl, k1⟩; clear HI; have HI := Aside0.mk k1; clear k1; obtain ⟨y0, y1, y2⟩ := HI.out.cells) | (go_at_call 19; with_reducible refine (hY _ HI.out).mono ?_; rintro e w1 ⟨rfl, k1⟩; clear HI; have HI := Aside0.mk k1; clear k1; obtain ⟨y0, y1, y2⟩ := HI.out.cells))
    go_ret
    exact ⟨by simp, _, _, HI.out.d.same v2 v3 v4, v1, vn⟩
  replace r0 : (bits BinOp.and IntKind.i64 s.1 7 == 0) = false := by simpa using r0
  by_cases r1 : (bits BinOp.and IntKind.i64 s.1 7 == 1) = true
  · have hX : ∀ W, Tri w0 W g B M g2 b cnt M c w.heap.size s → Calls Try.prog 14 #[.pointer (some ⟨g, 0, none⟩), .int .i64 s.2.1] W fun e w' => e = .returned (.tuple #[.int .i64 (M.allocR s.2.1).1, .int .i64 (M.allocR s.2.1).2]) ∧ Tri w0 w' g B (M.alloc s.2.1) g2 b cnt M c w.heap.size s := fun W k => k.allocX _
    have hY : ∀ W, Tri w0 W g B (M.alloc s.2.1) g2 b cnt M c w.heap.size s → Calls Try.prog 20 #[.pointer (some ⟨g2, 0, none⟩), .int .i64 s.2.1] W fun e w' => e = .returned (.tuple #[.int .i64 (M.allocR s.2.1).1, .int .i64 (M.allocR s.2.1).2]) ∧ Tri w0 w' g B (M.alloc s.2.1) g2 b (cnt + 1048576) (refAllocM M s.2.1) (refAllocC M c s.2.1) w.heap.size s := fun W k => k.allocY hok hc _
    obtain ⟨v1, v2, v3, v4⟩ := eqv_alloc hok he s.2.1
    have vn := (alloc_h (M := M) (s := s.2.1)).1
    clear hc h1 h2 h hok
    go_enter Try.func10, Try.ntmps10
    go_wp2_with (first | (go_at_call 14; with_reducible refine (hX _ HI.out).mono ?_; rintro e w1 ⟨rfl, k1⟩; clear HI; have HI := Aside0.mk k1; clear k1; obtain ⟨y0, y1, y2⟩ := HI.out.cells) | (go_at_call 20; with_reducible refine (hY _ HI.out).mono ?_; rintro e w1 ⟨rfl, k1⟩; clear HI; have HI := Aside0.mk k1; clear k1; obtain ⟨y0, y1, y2⟩ := HI.out.cells))
    go_ret
    exact ⟨by simp, _, _, HI.out.d.same v2 v3 v4, v1, vn⟩
  replace r1 : (bits BinOp.and IntKind.i64 s.1 7 == 1) = false := by simpa using r1
  by_cases r2 : (bits BinOp.and IntKind.i64 s.1 7 == 2) = true
  · have hX : ∀ W, Tri w0 W g B M g2 b cnt M c w.heap.size s → Calls Try.prog 16 #[.pointer (some ⟨g, 0, none⟩), .int .i64 s.2.1, .int .i64 s.2.2] W fun e w' => e = .returned (.int .i64 (M.storeE s.2.1)) ∧ Tri w0 w' g B (M.store s.2.1 s.2.2) g2 b cnt M c w.heap.size s := fun W k => k.storeX _ _
    have hY : ∀ W, Tri w0 W g B (M.store s.2.1 s.2.2) g2 b cnt M c w.heap.size s → Calls Try.prog 21 #[.pointer (some ⟨g2, 0, none⟩), .int .i64 s.2.1, .int .i64 s.2.2] W fun e w' => e = .returned (.int .i64 (M.storeE s.2.1)) ∧ Tri w0 w' g B (M.store s.2.1 s.2.2) g2 b (cnt + 1048576) M (refStore M c s.2.1 s.2.2) w.heap.size s := fun W k => k.storeY hc _ _ h1 h2
    have v1 := eqv_store hok he s.2.1 s.2.2
    obtain ⟨v2, v3, v4⟩ := store_n (M := M) s.2.1 s.2.2
    clear hc h1 h2 h hok
    go_enter Try.func10, Try.ntmps10
    go_wp2_with (first | (go_at_call 16; with_reducible refine (hX _ HI.out).mono ?_; rintro e w1 ⟨rfl, k1⟩; clear HI; have HI := Aside0.mk k1; clear k1; obtain ⟨y0, y1, y2⟩ := HI.out.cells) | (go_at_call 21; with_reducible refine (hY _ HI.out).mono ?_; rintro e w1 ⟨rfl, k1⟩; clear HI; have HI := Aside0.mk k1; clear k1; obtain ⟨y0, y1, y2⟩ := HI.out.cells))
    go_ret
    exact ⟨by simp, _, _, HI.out.d.same v2.symm v3.symm v4.symm, v1, v2⟩
  replace r2 : (bits BinOp.and IntKind.i64 s.1 7 == 2) = false := by simpa using r2
  by_cases r3 : (bits BinOp.and IntKind.i64 s.1 7 == 3) = true
  · have hX : ∀ W, Tri w0 W g B M g2 b cnt M c w.heap.size s → Calls Try.prog 16 #[.pointer (some ⟨g, 0, none⟩), .int .i64 s.2.1, .int .i64 s.2.2] W fun e w' => e = .returned (.int .i64 (M.storeE s.2.1)) ∧ Tri w0 w' g B (M.store s.2.1 s.2.2) g2 b cnt M c w.heap.size s := fun W k => k.storeX _ _
    have hY : ∀ W, Tri w0 W g B (M.store s.2.1 s.2.2) g2 b cnt M c w.heap.size s → Calls Try.prog 21 #[.pointer (some ⟨g2, 0, none⟩), .int .i64 s.2.1, .int .i64 s.2.2] W fun e w' => e = .returned (.int .i64 (M.storeE s.2.1)) ∧ Tri w0 w' g B (M.store s.2.1 s.2.2) g2 b (cnt + 1048576) M (refStore M c s.2.1 s.2.2) w.heap.size s := fun W k => k.storeY hc _ _ h1 h2
    have v1 := eqv_store hok he s.2.1 s.2.2
    obtain ⟨v2, v3, v4⟩ := store_n (M := M) s.2.1 s.2.2
    clear hc h1 h2 h hok
    go_enter Try.func10, Try.ntmps10
    go_wp2_with (first | (go_at_call 16; with_reducible refine (hX _ HI.out).mono ?_; rintro e w1 ⟨rfl, k1⟩; clear HI; have HI := Aside0.mk k1; clear k1; obtain ⟨y0, y1, y2⟩ := HI.out.cells) | (go_at_call 21; with_reducible refine (hY _ HI.out).mono ?_; rintro e w1 ⟨rfl, k1⟩; clear HI; have HI := Aside0.mk k1; clear k1; obtain ⟨y0, y1, y2⟩ := HI.out.cells))
    go_ret
    exact ⟨by simp, _, _, HI.out.d.same v2.symm v3.symm v4.symm, v1, v2⟩
  replace r3 : (bits BinOp.and IntKind.i64 s.1 7 == 3) = false := by simpa using r3
  by_cases r4 : (bits BinOp.and IntKind.i64 s.1 7 == 4) = true
  · have hX : ∀ W, Tri w0 W g B M g2 b cnt M c w.heap.size s → Calls Try.prog 16 #[.pointer (some ⟨g, 0, none⟩), .int .i64 s.2.1, .int .i64 s.2.2] W fun e w' => e = .returned (.int .i64 (M.storeE s.2.1)) ∧ Tri w0 w' g B (M.store s.2.1 s.2.2) g2 b cnt M c w.heap.size s := fun W k => k.storeX _ _
    have hY : ∀ W, Tri w0 W g B (M.store s.2.1 s.2.2) g2 b cnt M c w.heap.size s → Calls Try.prog 21 #[.pointer (some ⟨g2, 0, none⟩), .int .i64 s.2.1, .int .i64 s.2.2] W fun e w' => e = .returned (.int .i64 (M.storeE s.2.1)) ∧ Tri w0 w' g B (M.store s.2.1 s.2.2) g2 b (cnt + 1048576) M (refStore M c s.2.1 s.2.2) w.heap.size s := fun W k => k.storeY hc _ _ h1 h2
    have v1 := eqv_store hok he s.2.1 s.2.2
    obtain ⟨v2, v3, v4⟩ := store_n (M := M) s.2.1 s.2.2
    clear hc h1 h2 h hok
    go_enter Try.func10, Try.ntmps10
    go_wp2_with (first | (go_at_call 16; with_reducible refine (hX _ HI.out).mono ?_; rintro e w1 ⟨rfl, k1⟩; clear HI; have HI := Aside0.mk k1; clear k1; obtain ⟨y0, y1, y2⟩ := HI.out.cells) | (go_at_call 21; with_reducible refine (hY _ HI.out).mono ?_; rintro e w1 ⟨rfl, k1⟩; clear HI; have HI := Aside0.mk k1; clear k1; obtain ⟨y0, y1, y2⟩ := HI.out.cells))
    go_ret
    exact ⟨by simp, _, _, HI.out.d.same v2.symm v3.symm v4.symm, v1, v2⟩
  replace r4 : (bits BinOp.and IntKind.i64 s.1 7 == 4) = false := by simpa using r4
  · have hX : ∀ W, Tri w0 W g B M g2 b cnt M c w.heap.size s → Calls Try.prog 15 #[.pointer (some ⟨g, 0, none⟩), .int .i64 s.2.1] W fun e w' => e = .returned (.tuple #[.int .i64 (M.load s.2.1).1, .int .i64 (M.load s.2.1).2]) ∧ Tri w0 w' g B M g2 b cnt M c w.heap.size s := fun W k => k.loadX _
    have hY : ∀ W, Tri w0 W g B M g2 b cnt M c w.heap.size s → Calls Try.prog 22 #[.pointer (some ⟨g2, 0, none⟩), .int .i64 s.2.1] W fun e w' => e = .returned (.tuple #[.int .i64 (M.load s.2.1).1, .int .i64 (M.load s.2.1).2]) ∧ Tri w0 w' g B M g2 b cnt M c w.heap.size s := fun W k => by have := k.loadY s.2.1 h1; rw [eqv_load he] at this; exact this
    replace he := Aside0.mk he
    clear hc h1 h2 h hok
    go_enter Try.func10, Try.ntmps10
    go_wp2_with (first | (go_at_call 15; with_reducible refine (hX _ HI.out).mono ?_; rintro e w1 ⟨rfl, k1⟩; clear HI; have HI := Aside0.mk k1; clear k1; obtain ⟨y0, y1, y2⟩ := HI.out.cells) | (go_at_call 22; with_reducible refine (hY _ HI.out).mono ?_; rintro e w1 ⟨rfl, k1⟩; clear HI; have HI := Aside0.mk k1; clear k1; obtain ⟨y0, y1, y2⟩ := HI.out.cells))
    go_ret
    exact ⟨by simp, M, c, ⟨HI.out.d.x, HI.out.d.y.mono (Nat.le_add_right _ _), HI.out.d.q1, HI.out.d.q2, HI.out.d.d1, HI.out.d.d2, HI.out.d.d3, HI.out.d.d4⟩, he.out, rfl⟩
end Go.Proofs.Ytnanjbhdledilaa.Mem
