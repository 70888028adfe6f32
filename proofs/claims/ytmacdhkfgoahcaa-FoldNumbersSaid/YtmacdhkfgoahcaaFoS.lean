/- Contract, walked by hand: an operation by the numbers that rows tell (fold.Op). -/
import Derived.Test.YtmacdhkfgoahcaaFoP
import Derived.Test.YtmacdhkfgoahcaaFoQ
set_option linter.unusedVariables false
set_option linter.unusedSimpArgs false
namespace Go.Proofs.Ytmacdhkfgoahcaa.Fo
open Go Go.RowKit Go.Maps Go.Proofs.Ytmacdhkfgoahcaa.Q Go.Proofs.YtmacdhkfgoahcaaW.PrintWords Go.Proofs.YtmacdhkfgoahcaaW.PrintLast Go.Proofs.YtmacdhkfgoahcaaW.PrintMore
set_option maxHeartbeats 8000000 in
set_option maxRecDepth 100000 in
theorem Op_any (x : S30) (A : Option Addr) (k : Nat) (A2 : Option Addr) (cp : Nat) (l : List (Int × Int)) (w : World) (hx : WfOp x) (hr : Kd.C (Kd.int .i64) w A x.f5.length x.f5) (h5 : x.f5.length ≤ 17592186044416)
    (hp : Pairs w A2 l) (hwf : ∀ p ∈ l, wf p.1 ∧ wf p.2) (hl : l.length < 1099511627776) :
    Calls Try.prog 52 #[opV x (.slice A x.f5.length k), .slice A2 l.length cp] w (OpPost (opP (ofP l) x) w) := by
  have hOf : ∀ W, Below w.heap.size w W → Calls Try.prog 76 #[.slice A2 l.length cp] W (OfPost l W) := fun W hb => of_any A2 cp l W (fun j hj => by
    obtain ⟨q, e, h1, h2, h3⟩ := hp j hj
    exact ⟨q, e, Nat.lt_of_lt_of_le h1 hb.size, (hb.cell (p := q.add (j * 2)) (by rw [add_block]; exact h1)).trans h2, (hb.cell (p := ⟨(q.add (j * 2)).block, (q.add (j * 2)).off + 1, none⟩) (by show (q.add (j * 2)).block < _; rw [add_block]; exact h1)).trans h3⟩) hwf hl
  have hOp : ∀ W b, MapI W b l.length (ofP l) → Below w.heap.size w W → Calls Try.prog 54 #[.map (some b), opV x (.slice A x.f5.length k)] W (OpPost (opP (ofP l) x) W) := fun W b hm hb => op_any b l.length (ofP l) x A k hx.h2 hx.h3 W hm (Kd.C_below hr hb) h5
  generalize opP (ofP l) x = y at *
  clear hx hr h5 hp hwf hl
  unfold opV OpPost opV at hOp
  unfold opV
  go_enter Try.func52, Try.ntmps52
  go_wp2
  obtain ⟨o, ho⟩ : ∃ o : Obj, o = .cells #[.int .i64 x.f0, .int .i64 x.f1, .int .i64 x.f2, .int .i64 x.f3, .int .i64 x.f4, .slice A x.f5.length k] 30 := ⟨_, rfl⟩
  obtain ⟨o', ho'⟩ : ∃ o' : Obj, o' = .cells #[.int .i64 0, .int .i64 0, .int .i64 0, .int .i64 0, .int .i64 0, .slice none 0 0] 30 := ⟨_, rfl⟩
  have HB : Aside0 (Below w.heap.size w ((w.alloc o).alloc o')) := Aside0.mk (((Below.refl _ _).alloc (Nat.le_refl _) o).alloc (by simp) o')
  have h0 : Aside0 (((w.alloc o).alloc o').heap[w.heap.size]? = some o) := Aside0.mk (blk_alloc (blk_new w o) o')
  have h1 : Aside0 (((w.alloc o).alloc o').heap[w.heap.size + 1]? = some o') := Aside0.mk (by have h_ := blk_new (w.alloc o) o'; rw [World.size_alloc] at h_; exact h_)
  have hz : Aside0 (((w.alloc o).alloc o').heap.size = w.heap.size + 2) := Aside0.mk (by simp)
  rw [← ho, ← ho']
  generalize (w.alloc o).alloc o' = W at *
  subst ho ho'
  have x0 : W.cell? ⟨w.heap.size, 0, none⟩ = some (.int .i64 x.f0) := (blk_cell h0.out 0).trans rfl
  have x1 : W.cell? ⟨w.heap.size, 1, none⟩ = some (.int .i64 x.f1) := (blk_cell h0.out 1).trans rfl
  have x2 : W.cell? ⟨w.heap.size, 2, none⟩ = some (.int .i64 x.f2) := (blk_cell h0.out 2).trans rfl
  have x3 : W.cell? ⟨w.heap.size, 3, none⟩ = some (.int .i64 x.f3) := (blk_cell h0.out 3).trans rfl
  have x4 : W.cell? ⟨w.heap.size, 4, none⟩ = some (.int .i64 x.f4) := (blk_cell h0.out 4).trans rfl
  have x5 : W.cell? ⟨w.heap.size, 5, none⟩ = some (.slice A x.f5.length k) := (blk_cell h0.out 5).trans rfl
  go_region_with (first
    | (go_at_call 76; (with_reducible refine (hOf _ ?hb).mono ?_); (case hb => first | exact HB.out | exact below_unI HB.out); rintro e w2 ⟨b2, rfl, hm2, hb2⟩; have HM := Aside0.mk hm2; have HB2 : Aside0 (Below w.heap.size w w2) := Aside0.mk (HB.out.trans ((show Below W.heap.size W w2 from ⟨hb2.os, hb2.tape, hb2.output, hb2.size, hb2.block⟩).mono HB.out.size)); have p0 := (hb2.block w.heap.size (by show _ < W.heap.size; have := hz.out; omega)).trans h0.out; have H1 := Aside0.mk ((hb2.block (w.heap.size + 1) (by show _ < W.heap.size; have := hz.out; omega)).trans h1.out); have Hz := Aside0.mk (show w.heap.size + 2 ≤ w2.heap.size from hz.out ▸ hb2.size); have y0 : w2.cell? ⟨w.heap.size, 0, none⟩ = some (.int .i64 x.f0) := (blk_cell p0 0).trans rfl; have y1 : w2.cell? ⟨w.heap.size, 1, none⟩ = some (.int .i64 x.f1) := (blk_cell p0 1).trans rfl; have y2 : w2.cell? ⟨w.heap.size, 2, none⟩ = some (.int .i64 x.f2) := (blk_cell p0 2).trans rfl; have y3 : w2.cell? ⟨w.heap.size, 3, none⟩ = some (.int .i64 x.f3) := (blk_cell p0 3).trans rfl; have y4 : w2.cell? ⟨w.heap.size, 4, none⟩ = some (.int .i64 x.f4) := (blk_cell p0 4).trans rfl; have y5 : w2.cell? ⟨w.heap.size, 5, none⟩ = some (.slice A x.f5.length k) := (blk_cell p0 5).trans rfl; clear hm2 hb2 p0 hOf)
    | (go_at_call 54; (with_reducible refine (hOp _ _ ?hm ?hb).mono ?_); (case hb => first | exact HB2.out | exact below_unI HB2.out); (case hm => first | exact HM.out | exact HM.out.keep rfl); rintro e w3 ⟨v5, rfl, hr3, hb3⟩; obtain ⟨A3, n3, rfl⟩ := Kd.R_slice hr3; have HR := Aside0.mk hr3; have q1 := (hb3.block (w.heap.size + 1) (by show _ < w2.heap.size; have := Hz.out; omega)).trans H1.out; have HB3 := Aside0.mk hb3; have z0 : w3.cell? ⟨w.heap.size + 1, 0, none⟩ = some (.int .i64 0) := (blk_cell q1 0).trans rfl; have g0 : w3.frozen? ⟨w.heap.size + 1, 0, none⟩ = false := blk_frozen q1 0; have z1 : w3.cell? ⟨w.heap.size + 1, 1, none⟩ = some (.int .i64 0) := (blk_cell q1 1).trans rfl; have g1 : w3.frozen? ⟨w.heap.size + 1, 1, none⟩ = false := blk_frozen q1 1; have z2 : w3.cell? ⟨w.heap.size + 1, 2, none⟩ = some (.int .i64 0) := (blk_cell q1 2).trans rfl; have g2 : w3.frozen? ⟨w.heap.size + 1, 2, none⟩ = false := blk_frozen q1 2; have z3 : w3.cell? ⟨w.heap.size + 1, 3, none⟩ = some (.int .i64 0) := (blk_cell q1 3).trans rfl; have g3 : w3.frozen? ⟨w.heap.size + 1, 3, none⟩ = false := blk_frozen q1 3; have z4 : w3.cell? ⟨w.heap.size + 1, 4, none⟩ = some (.int .i64 0) := (blk_cell q1 4).trans rfl; have g4 : w3.frozen? ⟨w.heap.size + 1, 4, none⟩ = false := blk_frozen q1 4; have z5 : w3.cell? ⟨w.heap.size + 1, 5, none⟩ = some (.slice none 0 0) := (blk_cell q1 5).trans rfl; have g5 : w3.frozen? ⟨w.heap.size + 1, 5, none⟩ = false := blk_frozen q1 5; obtain ⟨s0, s1, s2, s3, s4, s5⟩ := six_set w3 (w.heap.size + 1) _ _ _ _ _ _ (.int .i64 y.f0) (.int .i64 y.f1) (.int .i64 y.f2) (.int .i64 y.f3) (.int .i64 y.f4) (.slice A3 y.f5.length n3) z0 z1 z2 z3 z4 z5; clear hr3 hb3 q1 hOp))
  all_goals go_wp2
  all_goals refine bodyPost_ret (v := .agg #[.int .i64 y.f0, .int .i64 y.f1, .int .i64 y.f2, .int .i64 y.f3, .int .i64 y.f4, .slice A3 y.f5.length n3]) (by simp [results, Try.results52, go_sem, *]) rfl ⟨_, rfl, ?_, ?_⟩
  all_goals first
    | exact Kd.R_lower (Kd.R_mono (Kd.R_far (p := ⟨w.heap.size + 1, 5, none⟩) (Kd.R_far (p := ⟨w.heap.size + 1, 4, none⟩) (Kd.R_far (p := ⟨w.heap.size + 1, 3, none⟩) (Kd.R_far (p := ⟨w.heap.size + 1, 2, none⟩) (Kd.R_far (p := ⟨w.heap.size + 1, 1, none⟩) (Kd.R_far (p := ⟨w.heap.size + 1, 0, none⟩) (Kd.R_mono (ok' := fun k => w.heap.size + 2 ≤ k) (Kd.R_bound HR.out) (fun k hk => Nat.le_trans Hz.out hk.2.1)) (fun k hk => by show k ≠ w.heap.size + 1; omega) _) (fun k hk => by show k ≠ w.heap.size + 1; omega) _) (fun k hk => by show k ≠ w.heap.size + 1; omega) _) (fun k hk => by show k ≠ w.heap.size + 1; omega) _) (fun k hk => by show k ≠ w.heap.size + 1; omega) _) (fun k hk => by show k ≠ w.heap.size + 1; omega) _) (fun _ _ => trivial)) (by have := Hz.out; omega)
    | exact ((((((HB2.out.trans (HB3.out.mono HB2.out.size)).setCell (p := ⟨w.heap.size + 1, 0, none⟩) (by simp) _).setCell (p := ⟨w.heap.size + 1, 1, none⟩) (by simp) _).setCell (p := ⟨w.heap.size + 1, 2, none⟩) (by simp) _).setCell (p := ⟨w.heap.size + 1, 3, none⟩) (by simp) _).setCell (p := ⟨w.heap.size + 1, 4, none⟩) (by simp) _).setCell (p := ⟨w.heap.size + 1, 5, none⟩) (by simp) _
    | exact (((((((HB2.out.trans (HB3.out.mono HB2.out.size)).setCell (p := ⟨w.heap.size + 1, 0, none⟩) (by simp) _).setCell (p := ⟨w.heap.size + 1, 1, none⟩) (by simp) _).setCell (p := ⟨w.heap.size + 1, 2, none⟩) (by simp) _).setCell (p := ⟨w.heap.size + 1, 3, none⟩) (by simp) _).setCell (p := ⟨w.heap.size + 1, 4, none⟩) (by simp) _).setCell (p := ⟨w.heap.size + 1, 5, none⟩) (by simp) _).drew
    | trace_state; sorry
end Go.Proofs.Ytmacdhkfgoahcaa.Fo
