/- Both memories, the program's and the document's, side by side. -/
import Derived.Test.YtnanjbhdledilaaMemK
set_option linter.unusedVariables false
set_option linter.unusedSimpArgs false
namespace Go.Proofs.Ytnanjbhdledilaa.Mem
open Go Go.RowKit Go.Maps Go.Proofs.YtnanjbhdledilaaW.PrintWords Go.Proofs.YtnanjbhdledilaaW.PrintLast Go.Proofs.YtnanjbhdledilaaW.PrintMore
theorem IsRef.keep {w w' : World} {g b cnt : Nat} {M : Mem} {c : Int → Int} (h : IsRef w g b cnt M c) (hg : w'.heap[g]? = w.heap[g]?) (hb : w'.heap[b]? = w.heap[b]?) : IsRef w' g b cnt M c := by
  obtain ⟨D, ⟨es, clock, h1, h2⟩, hc⟩ := h.mp
  exact ⟨h.ne, (cell_same hg 0).trans h.c0, (cell_same hg 1).trans h.c1, (cell_same hg 2).trans h.c2, (cell_same hg 3).trans h.c3, fun i => (frozen_same hg i).trans (h.fg i), ⟨D, ⟨es, clock, hb.trans h1, h2⟩, hc⟩⟩
/-- Both memories; what the map tells is what the cells hold, where a cell is. -/
structure Duo (w0 w : World) (g B : Nat) (M : Mem) (g2 b cnt : Nat) (N : Mem) (c : Int → Int) : Prop where
  x : St w0 w g B M
  y : IsRef w g2 b cnt N c
  q1 : w0.heap.size ≤ g2
  q2 : w0.heap.size ≤ b
  d1 : g2 ≠ g
  d2 : g2 ≠ B
  d3 : b ≠ g
  d4 : b ≠ B
section
variable {w0 w : World} {g B : Nat} {M : Mem} {g2 b cnt : Nat} {N : Mem} {c : Int → Int}
theorem Duo.xstep {w' : World} {M' : Mem} (h : Duo w0 w g B M g2 b cnt N c) (ok : M'.Ok) (hI : IsMem w' g B M') (hO : Only g B w w') : Duo w0 w' g B M' g2 b cnt N c :=
  ⟨⟨ok, hI, hO.below h.x.be h.x.ge h.x.gB, h.x.ge, h.x.gB⟩, h.y.keep (hO.block g2 h.d1 h.d2) (hO.block b h.d3 h.d4), h.q1, h.q2, h.d1, h.d2, h.d3, h.d4⟩
theorem Duo.ystep {w' : World} {cnt' : Nat} {N' : Mem} {c' : Int → Int} (h : Duo w0 w g B M g2 b cnt N c) (hn : 0 < M.n) (hR : IsRef w' g2 b cnt' N' c') (hG : Grow2 g2 b w w') : Duo w0 w' g B M g2 b cnt' N' c' := by
  have hs := h.x.be.size
  have l1 := h.q1
  have l2 := h.q2
  have e1 := hG.block g h.x.im.lt (Ne.symm h.d1) (Ne.symm h.d3)
  have e2 := hG.block B (h.x.im.ltB hn) (Ne.symm h.d2) (Ne.symm h.d4)
  have hb := h.x.be
  refine ⟨⟨h.x.ok, h.x.im.keep e1 e2, ⟨hG.os.trans hb.os, hG.tape.trans hb.tape, hG.output.trans hb.output, Nat.le_trans hb.size hG.size, fun k hk => (hG.block k (by omega) (by omega) (by omega)).trans (hb.block k hk)⟩, h.x.ge, h.x.gB⟩, hR, h.q1, h.q2, h.d1, h.d2, h.d3, h.d4⟩
theorem ok_pos {M : Mem} (ok : M.Ok) : 0 < M.n := by have := ok.h1; have := ok.hf; have := ok.fn; omega
theorem Duo.setFloorX (h : Duo w0 w g B M g2 b cnt N c) (a : Int) : Calls Try.prog 17 #[.pointer (some ⟨g, 0, none⟩), .int .i64 a] w fun e w' => e = .returned (.int .i64 (M.setFloorE a)) ∧ Duo w0 w' g B (M.setFloor a) g2 b cnt N c :=
  (setFloor_any g B M h.x.ok a w h.x.im).mono fun e w' ⟨h1, h2, h3⟩ => ⟨h1, h.xstep (setFloor_ok h.x.ok a) h2 h3⟩
theorem Duo.allocX (h : Duo w0 w g B M g2 b cnt N c) (a : Int) : Calls Try.prog 14 #[.pointer (some ⟨g, 0, none⟩), .int .i64 a] w fun e w' => e = .returned (.tuple #[.int .i64 (M.allocR a).1, .int .i64 (M.allocR a).2]) ∧ Duo w0 w' g B (M.alloc a) g2 b cnt N c :=
  (alloc_any g B M h.x.ok a w h.x.im).mono fun e w' ⟨h1, h2, h3⟩ => ⟨h1, h.xstep (alloc_ok h.x.ok a) h2 h3⟩
theorem Duo.storeX (h : Duo w0 w g B M g2 b cnt N c) (a v : Int) : Calls Try.prog 16 #[.pointer (some ⟨g, 0, none⟩), .int .i64 a, .int .i64 v] w fun e w' => e = .returned (.int .i64 (M.storeE a)) ∧ Duo w0 w' g B (M.store a v) g2 b cnt N c :=
  (store_any g B M h.x.ok a v w h.x.im).mono fun e w' ⟨h1, h2, h3⟩ => ⟨h1, h.xstep (store_ok h.x.ok a v) h2 h3⟩
theorem Duo.loadX (h : Duo w0 w g B M g2 b cnt N c) (a : Int) : Calls Try.prog 15 #[.pointer (some ⟨g, 0, none⟩), .int .i64 a] w fun e w' => e = .returned (.tuple #[.int .i64 (M.load a).1, .int .i64 (M.load a).2]) ∧ Duo w0 w' g B M g2 b cnt N c :=
  (load_any g B M h.x.ok a w h.x.im).mono fun e w' ⟨h1, h2⟩ => ⟨h1, h2 ▸ h⟩
theorem Duo.floorY (h : Duo w0 w g B M g2 b cnt N c) (ok : N.Ok) (hc : cnt + 1048577 < maxLen) (a : Int) : Calls Try.prog 19 #[.pointer (some ⟨g2, 0, none⟩), .int .i64 a] w fun e w' => e = .returned (.int .i64 (N.setFloorE a)) ∧ Duo w0 w' g B M g2 b (cnt + 1048576) (refFloorM N a) (refFloorC N c a) :=
  (rfloor_any g2 b cnt N ok c a hc w h.y).mono fun e w' ⟨h1, h2, h3⟩ => ⟨h1, h.ystep (ok_pos h.x.ok) h2 h3⟩
theorem Duo.allocY (h : Duo w0 w g B M g2 b cnt N c) (ok : N.Ok) (hc : cnt + 1048577 < maxLen) (a : Int) : Calls Try.prog 20 #[.pointer (some ⟨g2, 0, none⟩), .int .i64 a] w fun e w' => e = .returned (.tuple #[.int .i64 (N.allocR a).1, .int .i64 (N.allocR a).2]) ∧ Duo w0 w' g B M g2 b (cnt + 1048576) (refAllocM N a) (refAllocC N c a) :=
  (ralloc_any g2 b cnt N ok c a hc w h.y).mono fun e w' ⟨h1, h2, h3⟩ => ⟨h1, h.ystep (ok_pos h.x.ok) h2 h3⟩
theorem Duo.storeY (h : Duo w0 w g B M g2 b cnt N c) (hc : cnt + 1048577 < maxLen) (a v : Int) (ha : (Lit.int .i64 a).wf = true) (hv : (Lit.int .i64 v).wf = true) : Calls Try.prog 21 #[.pointer (some ⟨g2, 0, none⟩), .int .i64 a, .int .i64 v] w fun e w' => e = .returned (.int .i64 (N.storeE a)) ∧ Duo w0 w' g B M g2 b (cnt + 1048576) N (refStore N c a v) :=
  (rstore_any g2 b cnt N c a v ha hv (by omega) w h.y).mono fun e w' ⟨h1, h2, h3⟩ => ⟨h1, h.ystep (ok_pos h.x.ok) (h2.mono (by omega)) (Grow2.grown h3)⟩
theorem Duo.loadY (h : Duo w0 w g B M g2 b cnt N c) (a : Int) (ha : (Lit.int .i64 a).wf = true) : Calls Try.prog 22 #[.pointer (some ⟨g2, 0, none⟩), .int .i64 a] w fun e w' => e = .returned (.tuple #[.int .i64 (refLoad N c a).1, .int .i64 (refLoad N c a).2]) ∧ Duo w0 w' g B M g2 b cnt N c :=
  (rload_any g2 b cnt N c a ha w h.y).mono fun e w' ⟨h1, h2⟩ => ⟨h1, h2 ▸ h⟩
end
end Go.Proofs.Ytnanjbhdledilaa.Mem
