/- The state of Block's loop, and what keeps it. -/
import Derived.Test.YtmacdhkfgoahcaaFoN
set_option linter.unusedVariables false
set_option linter.unusedSimpArgs false
namespace Go.Proofs.Ytmacdhkfgoahcaa.Fo
open Go Go.RowKit Go.Maps Go.Proofs.Ytmacdhkfgoahcaa.Q Go.Proofs.YtmacdhkfgoahcaaW.PrintWords Go.Proofs.YtmacdhkfgoahcaaW.PrintLast Go.Proofs.YtmacdhkfgoahcaaW.PrintMore
theorem repl_plain (g nb cb cnt : Nat) (m c : Fn) (x : S30) (A : Option Addr) (k : Nat) (h2 : wf x.f2) (h3 : wf x.f3) (w : World) (hF : IsFacts w g nb cb cnt m c) (hr : Kd.C (Kd.int .i64) w A x.f5.length x.f5) (h7 : (x.f0 == 7) = false) :
    Calls Try.prog 55 #[.pointer (some ⟨g, 0, none⟩), opV x (.slice A x.f5.length k)] w (ReplPost (replP c x) w) := by
  rcases Bool.eq_false_or_eq_true (x.f0 == 2) with hq2 | hq2
  · have e : replP c x = { x with f2 := heldI c x.f2, f3 := heldI c x.f3 } := by unfold replP; simp [hq2]
    rw [e]; exact repl1 g nb cb cnt m c x A k h2 h3 w hF hr hq2
  rcases Bool.eq_false_or_eq_true (x.f0 == 5) with hq5 | hq5
  · have e : replP c x = { x with f2 := heldI c x.f2, f3 := heldI c x.f3 } := by unfold replP; simp [hq5]
    rw [e]; exact repl2 g nb cb cnt m c x A k h2 h3 w hF hr hq2 hq5
  rcases Bool.eq_false_or_eq_true (x.f0 == 3) with hq3 | hq3
  · have e : replP c x = { x with f2 := heldI c x.f2 } := by unfold replP; simp [hq2, hq5, hq3]
    rw [e]; exact repl3 g nb cb cnt m c x A k h2 h3 w hF hr hq2 hq5 hq3
  rcases Bool.eq_false_or_eq_true (x.f0 == 4) with hq4 | hq4
  · have e : replP c x = { x with f2 := heldI c x.f2 } := by unfold replP; simp [hq2, hq5, hq4]
    rw [e]; exact repl4 g nb cb cnt m c x A k h2 h3 w hF hr hq2 hq5 hq3 hq4
  rcases Bool.eq_false_or_eq_true (x.f0 == 9) with hq9 | hq9
  · have e : replP c x = { x with f2 := heldI c x.f2 } := by unfold replP; simp [hq2, hq5, hq9]
    rw [e]; exact repl5 g nb cb cnt m c x A k h2 h3 w hF hr hq2 hq5 hq3 hq4 hq9
  · have e : replP c x = x := by unfold replP; simp [hq2, hq5, hq3, hq4, hq9, h7]
    rw [e]; exact repl7 g nb cb cnt m c x A k h2 h3 w hF hr hq2 hq5 hq3 hq4 hq9 h7
theorem replP_wf {c : Fn} (hc : OkFn c) {x : S30} (h : WfOp x) : WfOp (replP c x) := by
  unfold replP
  split
  · exact ⟨h.h1, wf_heldI hc h.h2, wf_heldI hc h.h3, h.h4, h.h5⟩
  · split
    · exact ⟨h.h1, wf_heldI hc h.h2, h.h3, h.h4, h.h5⟩
    · split
      · refine ⟨h.h1, h.h2, h.h3, h.h4, fun r hr => ?_⟩
        obtain ⟨y, hy, rfl⟩ := List.mem_map.1 hr
        exact wf_heldI hc (h.h5 y hy)
      · exact h
theorem replP_len (c : Fn) (x : S30) : (replP c x).f5.length = x.f5.length := by
  unfold replP
  repeat' split
  all_goals first | rfl | exact List.length_map ..
/-- What is known, behind an operation. -/
def learnF (m c : Fn) (x : S30) : Fn × Fn := if (setsI x == 0) = true then (m, c) else (setsD m x, setsC c x)
theorem learn_any (g nb cb cnt : Nat) (m c : Fn) (x : S30) (A : Option Addr) (k : Nat) (hx : WfOp x) (hcnt : cnt + 1 < maxLen) (w : World) (hF : IsFacts w g nb cb cnt m c) (hr : Kd.C (Kd.int .i64) w A x.f5.length x.f5) (hk : x.f5.length ≤ k) :
    Calls Try.prog 56 #[.pointer (some ⟨g, 0, none⟩), opV x (.slice A x.f5.length k)] w (LearnPost w g nb cb cnt (learnF m c x).1 (learnF m c x).2) := by
  have hd : wf (setsI x) := by unfold setsI; split; (· exact wf_zero); (· exact hx.h1)
  unfold learnF
  rcases Bool.eq_false_or_eq_true (setsI x == 0) with h0 | h0
  · rw [if_pos h0]; exact learn0 g nb cb cnt m c x A k hx hd hcnt w hF hr hk h0
  · rw [if_neg (by simp [h0])]
    dsimp only
    rcases Bool.eq_false_or_eq_true (x.f0 == 1) with hq1 | hq1
    · have q3 : (x.f0 == 3) = false := by
        have : x.f0 = 1 := by simpa using hq1
        rw [this]; rfl
      have e1 : setsD m x = put (del m (setsI x)) (setsI x) x.f4 := by unfold setsD; simp [hq1]
      have e2 : setsC c x = strike (del c (setsI x)) (setsI x) := by unfold setsC; simp [q3]
      rw [e1, e2]; exact learn1 g nb cb cnt m c x A k hx hd hcnt w hF hr hk h0 hq1
    · have e1 : setsD m x = del m (setsI x) := by unfold setsD; simp [hq1]
      rcases Bool.eq_false_or_eq_true (x.f0 == 3) with hq3 | hq3
      · rcases Bool.eq_false_or_eq_true (x.f2 != setsI x) with hne | hne
        · have e2 : setsC c x = put (strike (del c (setsI x)) (setsI x)) (setsI x) x.f2 := by unfold setsC; rw [if_pos (by rw [hq3, hne]; rfl)]
          rw [e1, e2]; exact learn2 g nb cb cnt m c x A k hx hd hcnt w hF hr hk h0 hq1 hq3 hne
        · have e2 : setsC c x = strike (del c (setsI x)) (setsI x) := by unfold setsC; rw [if_neg (by rw [hq3, hne]; decide)]
          rw [e1, e2]; exact learn3 g nb cb cnt m c x A k hx hd hcnt w hF hr hk h0 hq1 hq3 hne
      · have e2 : setsC c x = strike (del c (setsI x)) (setsI x) := by unfold setsC; simp [hq3]
        rw [e1, e2]; exact learn4 g nb cb cnt m c x A k hx hd hcnt w hF hr hk h0 hq1 hq3
/-- The operations' fold. -/
def foldGo : List S30 → Fn → Fn → List S30 × Fn × Fn
  | [], m, c => ([], m, c)
  | x :: r, m, c =>
    let y := opP m (replP c x)
    let s := learnF m c y
    let t := foldGo r s.1 s.2
    (y :: t.1, t.2)
def foldSt (l : List S30) : List S30 × Fn × Fn := foldGo l (fun _ => none) (fun _ => none)
theorem foldGo_snoc (l : List S30) (x : S30) (m c : Fn) : foldGo (l ++ [x]) m c = ((foldGo l m c).1 ++ [opP (foldGo l m c).2.1 (replP (foldGo l m c).2.2 x)], learnF (foldGo l m c).2.1 (foldGo l m c).2.2 (opP (foldGo l m c).2.1 (replP (foldGo l m c).2.2 x))) := by
  induction l generalizing m c with
  | nil => rfl
  | cons a r ih => simp only [List.cons_append, foldGo, ih]
theorem foldGo_len (l : List S30) (m c : Fn) : (foldGo l m c).1.length = l.length := by
  induction l generalizing m c with
  | nil => rfl
  | cons a r ih => simp only [foldGo, List.length_cons, ih]
structure BS (w wr : World) (A : Option Addr) (l : List S30) (cp : Nat) (t : S25) (m c : Fn) (outs : List S30) (v : Value) (n : Nat) : Prop where
  be : Below w.heap.size w wr
  sz : w.heap.size + 6 ≤ wr.heap.size
  b0 : wr.heap[w.heap.size]? = some (.cells #[.slice A l.length cp, .int .i64 t.f0, .int .i64 t.f1, .int .i64 t.f2, .int .i64 t.f3] 28 (0, 0))
  b1 : wr.heap[w.heap.size + 1]? = some (.cells #[.slice none 0 0, .int .i64 0, .int .i64 0, .int .i64 0, .int .i64 0] 28 (0, 0))
  b5 : wr.heap[w.heap.size + 5]? = some (.cells #[v, .int .i64 0, .int .i64 0, .int .i64 0, .int .i64 0] 28 (0, 0))
  fa : IsFacts wr (w.heap.size + 4) (w.heap.size + 2) (w.heap.size + 3) n m c
  rw : Kd.R k30 30 wr (w.heap.size + 6) (fun _ => True) v outs
section
variable {w wr w' : World} {A : Option Addr} {l : List S30} {cp : Nat} {t : S25} {m c : Fn} {outs : List S30} {v : Value} {n : Nat}
theorem BS.below (h : BS w wr A l cp t m c outs v n) (hb : Below wr.heap.size wr w') : BS w w' A l cp t m c outs v n :=
  ⟨h.be.trans (hb.mono h.be.size), Nat.le_trans h.sz hb.size, blk_below h.b0 hb, blk_below h.b1 hb, blk_below h.b5 hb, h.fa.below hb, Kd.R_below h.rw hb⟩
theorem BS.learn (h : BS w wr A l cp t m c outs v n) {n' : Nat} {m' c' : Fn} (hg : Grow2 (w.heap.size + 2) (w.heap.size + 3) wr w') (hf : IsFacts w' (w.heap.size + 4) (w.heap.size + 2) (w.heap.size + 3) n' m' c') : BS w w' A l cp t m' c' outs v n' := by
  have hs := h.sz
  have blk : ∀ k, k < wr.heap.size → k ≠ w.heap.size + 2 → k ≠ w.heap.size + 3 → w'.heap[k]? = wr.heap[k]? := hg.block
  refine ⟨⟨hg.os.trans h.be.os, hg.tape.trans h.be.tape, hg.output.trans h.be.output, Nat.le_trans h.be.size hg.size, fun k hk => (blk k (by omega) (by omega) (by omega)).trans (h.be.block k hk)⟩, Nat.le_trans h.sz hg.size, (blk _ (by omega) (by omega) (by omega)).trans h.b0, (blk _ (by omega) (by omega) (by omega)).trans h.b1, (blk _ (by omega) (by omega) (by omega)).trans h.b5, hf, ?_⟩
  exact Kd.R_mono (Kd.R_step (Kd.R_mono (ok' := fun k => w.heap.size + 6 ≤ k) (Kd.R_bound h.rw) (fun k hk => hk.2.1)) (fun k hk hlt => blk k hlt (by omega) (by omega))) (fun _ _ => trivial)
end
theorem BS.appended {w w4 w5 : World} {A : Option Addr} {l : List S30} {cp : Nat} {t : S25} {m c : Fn} {outs outs' : List S30} {v v1 : Value} {n : Nat} (h : BS w w4 A l cp t m c outs v n) (ho : Kd.R k30 30 w5 (w.heap.size + 6) (fun _ => True) v1 outs') (hb : Below (w.heap.size + 6) w4 w5) :
    BS w (w5.setCell ⟨w.heap.size + 5, 0, none⟩ v1) A l cp t m c outs' v1 n := by
  have keep : ∀ k, k < w.heap.size + 6 → k ≠ w.heap.size + 5 → (w5.setCell ⟨w.heap.size + 5, 0, none⟩ v1).heap[k]? = w4.heap[k]? := fun k hk hne => (Below.heap_setCell w5 ⟨w.heap.size + 5, 0, none⟩ v1 k hne).trans (hb.block k hk)
  have hs := h.sz
  have hsz : w.heap.size + 6 ≤ (w5.setCell ⟨w.heap.size + 5, 0, none⟩ v1).heap.size := by
    have h1 := hb.size
    have h2 : (w5.setCell ⟨w.heap.size + 5, 0, none⟩ v1).heap.size = w5.heap.size := by simp [World.setCell]
    omega
  refine ⟨(h.be.trans (hb.mono (by omega))).setCell (p := ⟨w.heap.size + 5, 0, none⟩) (by show w.heap.size ≤ w.heap.size + 5; omega) v1, hsz, (keep _ (by omega) (by omega)).trans h.b0, (keep _ (by omega) (by omega)).trans h.b1, blk_set ((hb.block _ (by omega)).trans h.b5) 0 v1, ⟨(cell_same (keep _ (by omega) (by omega)) 0).trans h.fa.c0, (cell_same (keep _ (by omega) (by omega)) 1).trans h.fa.c1, h.fa.mn.keep (keep _ (by omega) (by omega)), h.fa.mc.keep (keep _ (by omega) (by omega)), h.fa.d1⟩, ?_⟩
  exact Kd.R_mono (Kd.R_far (p := ⟨w.heap.size + 5, 0, none⟩) (Kd.R_mono (ok' := fun k => w.heap.size + 6 ≤ k) (Kd.R_bound ho) (fun k hk => hk.2.1)) (fun k hk => by show k ≠ w.heap.size + 5; omega) v1) (fun _ _ => trivial)
theorem BS.box {w wr : World} {A : Option Addr} {l : List S30} {cp : Nat} {t : S25} {m c : Fn} {outs : List S30} {v : Value} {n Bx : Nat} (h : BS w wr A l cp t m c outs v n ∧ Kd.R k30 30 wr (w.heap.size + 6) (fun k => k ≠ Bx) v outs) (hB : w.heap.size + 6 ≤ Bx) (i : Nat) (u : Value) :
    BS w (wr.setCell ⟨Bx, i, none⟩ u) A l cp t m c outs v n ∧ Kd.R k30 30 (wr.setCell ⟨Bx, i, none⟩ u) (w.heap.size + 6) (fun k => k ≠ Bx) v outs := by
  obtain ⟨h, hr⟩ := h
  have hr' := Kd.R_far (p := ⟨Bx, i, none⟩) hr (fun k hk => hk) u
  have keep : ∀ k, k ≠ Bx → (wr.setCell ⟨Bx, i, none⟩ u).heap[k]? = wr.heap[k]? := fun k hk => Below.heap_setCell wr ⟨Bx, i, none⟩ u k hk
  refine ⟨⟨h.be.setCell (p := ⟨Bx, i, none⟩) (by show w.heap.size ≤ Bx; omega) u, by have := h.sz; simpa [World.setCell] using this, (keep _ (by omega)).trans h.b0, (keep _ (by omega)).trans h.b1, (keep _ (by omega)).trans h.b5, ⟨(cell_same (keep _ (by omega)) 0).trans h.fa.c0, (cell_same (keep _ (by omega)) 1).trans h.fa.c1, h.fa.mn.keep (keep _ (by omega)), h.fa.mc.keep (keep _ (by omega)), h.fa.d1⟩, Kd.R_mono hr' (fun _ _ => trivial)⟩, hr'⟩
end Go.Proofs.Ytmacdhkfgoahcaa.Fo
