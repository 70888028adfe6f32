/- Of the text DeB, what this law uses. -/
import Derived.RangeFuncNested
import Derived.RangeFuncBound
import Derived.RangeFuncCalls
import Derived.RangeFuncLeaves
/- A range over a function whose body makes and writes whatever it likes, but for the loop's own two blocks; it is left at its end alone. From the library's law of the statement (wpIn_rangeFunc) and of a round (roundIn_of_wpIn). -/
set_option linter.unusedVariables false
namespace Go.Proofs.Ytmacdhkfgoahcaa.De
open Go Go.RowKit
variable {F : Fence} {n : Nat} {P : Program}
/-- The loop's two blocks lie as they lay. -/
def Keep2 (B : Nat) (W W' : World) : Prop := W'.heap[B]? = W.heap[B]? ∧ W'.heap[B + 1]? = W.heap[B + 1]?
theorem range_book {α : Type} {g : Operand} {ps : Array Tmp} {assign body : Code} {Q : Exit → Act → World → Prop} {a : Act} {w : World}
    (hro : F.round = none) (h1 : 1 ≤ n) {gf : Nat} {lb : Array Value} (hg : a.eval g = .func (.func gf) #[] lb) (hFg : F.fn gf) (eg : ∀ args w, (callFunc gf args).run P w = .ok (.enter gf args) w)
    {encs : α → Array Value} (hps : ∀ x, (encs x).size = ps.size) (I : List α → World → Prop) (Ax : α → Act → World → Prop) (S : List α → Prop) (X : List α → α → Prop)
    (hI : ∀ xs W l o, (l = w.heap.size ∨ l = w.heap.size + 1) → I xs W → I xs (W.putObj l o)) (hA : ∀ x a' W l o, (l = w.heap.size ∨ l = w.heap.size + 1) → Ax x a' W → Ax x a' (W.putObj l o))
    (h0 : ∀ o o', I [] ((w.alloc o).alloc o'))
    (hiter : ∀ (l : Nat) (J : List α → World → Prop), (∀ xs W, J xs W → I xs W) → (∀ pre x W, J pre W → X pre x → YieldAt F (n - 1 - 1) P l (encs x) W fun e W' => e = .returned (.bool true) ∧ J (pre ++ [x]) W') →
      ∀ W, J [] W → CallsIn F (n - 1) P gf (#[.func (.yield l) #[] #[]] ++ lb) W fun e W' => (∃ v, e = .returned v) ∧ ∃ xs, S xs ∧ J xs W')
    (hassign : ∀ (l : Nat) (pre : List α) (x : α) (W : World), I pre W → X pre x →
      assign.wpIn (F.inRound l) (n - 1 - 1) P (Exit.then (fun a' W' => Keep2 w.heap.size W W' ∧ I pre W' ∧ Ax x a' W') (fun _ _ _ => False)) { tmps := (ps.zip (encs x)).foldl (fun t (p, v) => t.setIfInBounds p v) a.tmps, defers := [] } W)
    (hbody : ∀ (l : Nat) (pre : List α) (x : α) (a' : Act) (W : World), I pre W → Ax x a' W → X pre x → body.wpIn (F.inRound l) (n - 1 - 1) P (fun e _ W' => e = .normal ∧ Keep2 w.heap.size W W' ∧ I (pre ++ [x]) W') a' W)
    (hdone : ∀ (xs : List α) (W : World), S xs → I xs W → W.heap[w.heap.size]? = some (.deferred (some [])) → Q .normal { a with defers := { target := .collected w.heap.size, args := #[] } :: a.defers } W) :
    (Code.rangeFunc g ps assign body).wpIn F n P Q a w := by
  refine wpIn_rangeFunc fun fn hfn => ?_
  rw [hro]
  obtain ⟨rec, hrec⟩ : ∃ rec : LoopState → Loop, rec = fun st => { state := st, pending := none, fn, tmps := a.tmps, params := ps, assign, body, defers := w.heap.size } := ⟨_, rfl⟩
  have b0 : ((w.alloc (.deferred (some []))).alloc (.loop (rec .ready))).heap[w.heap.size]? = some (.deferred (some [])) := (Below.heap_alloc _ _ _ (by simp)).trans (World.alloc_heap_new w _)
  have b1 : ((w.alloc (.deferred (some []))).alloc (.loop (rec .ready))).heap[w.heap.size + 1]? = some (.loop (rec .ready)) := by
    have := World.alloc_heap_new (w.alloc (.deferred (some []))) (.loop (rec .ready))
    rwa [World.size_alloc] at this
  have hstart := h0 (.deferred (some [])) (.loop (rec .ready))
  refine ⟨w.heap.size + 1, [{ target := .collected w.heap.size, args := #[] }], (w.alloc (.deferred (some []))).alloc (.loop (rec .ready)), { target := .fn (.func gf) lb, args := #[.func (.yield (w.heap.size + 1)) #[] #[]] }, (w.alloc (.deferred (some []))).alloc (.loop (rec .ready)), gf,
    #[.func (.yield (w.heap.size + 1)) #[] #[]] ++ lb, (w.alloc (.deferred (some []))).alloc (.loop (rec .ready)), ?_, ?_, ?_, ?_, fun _ => h1, ?_⟩
  · rw [hrec]; exact run_enterLoop_outer _ _ _ _ _
  · simp only [resolve, hg]
    simp [go_sem]
  · intro f' hf'
    simp [Target.leads] at hf'
    subst hf'; exact hFg
  · simp [invoke, go_sem, eg]
  · refine (hiter (w.heap.size + 1) (fun pre W => I pre W ∧ W.heap[w.heap.size]? = some (.deferred (some [])) ∧ W.heap[w.heap.size + 1]? = some (.loop (rec .ready))) (fun _ _ h => h.1) ?_ _ ⟨hstart, b0, b1⟩).mono ?_
    · rintro pre x W ⟨hi, hd, hl⟩ hlen
      have hy := run_yield (P := P) (args := encs x) hl (by rw [hrec]; exact hps x)
      rw [hrec] at hy
      refine ⟨fn, _, assign, body, hy, roundIn_of_wpIn hfn (wpIn_mono (hassign _ pre x W hi hlen) ?_)⟩
      rintro e a1 W1 h
      cases e with
      | normal =>
        obtain ⟨hk, hi1, ha1⟩ := h
        have hl1 := hk.2.trans hl
        have hd1 := hk.1.trans hd
        have hlt := (Array.getElem?_eq_some_iff.1 hl1).1
        refine ⟨_, run_beginRound hl1 (by rw [hrec]), wpIn_mono (hbody _ pre x a1 _ (hI _ _ _ _ (.inr rfl) hi1) (hA _ _ _ _ _ (.inr rfl) ha1) hlen) ?_⟩
        rintro e2 a2 W2 ⟨rfl, hk2, hi2⟩
        have hl2 := hk2.2.trans (World.putObj_heap_same (o := .loop { rec .ready with state := .busy }) hlt)
        have hd2 := hk2.1.trans ((World.putObj_heap_other (by omega)).trans hd1)
        have hr := run_endRound (P := P) none hl2
        rw [hrec] at hr ⊢
        exact ⟨_, _, hr, rfl, hI _ _ _ _ (.inr rfl) hi2, (World.putObj_heap_other (by omega)).trans hd2, World.putObj_heap_same (Array.getElem?_eq_some_iff.1 hl2).1⟩
      | _ => exact h.elim
    · rintro e W2 ⟨⟨v, rfl⟩, xs, hS, hi, hd, hl⟩
      have hr := run_endLoop (P := P) hl (by rw [hrec]; simp)
      rw [hrec] at hr
      exact ⟨none, _, hr, hdone xs _ hS (hI _ _ _ _ (.inr rfl) hi) ((World.putObj_heap_other (by omega)).trans hd)⟩
end Go.Proofs.Ytmacdhkfgoahcaa.De

