/- Contract, walked by hand: a Term, by what is known (facts.term). For every state, every Term. -/
import Derived.Test.YtmacdhkfgoahcaaFoM
set_option linter.unusedVariables false
set_option linter.unusedSimpArgs false
namespace Go.Proofs.Ytmacdhkfgoahcaa.Fo
open Go Go.RowKit Go.Maps Go.Proofs.Ytmacdhkfgoahcaa.Q Go.Proofs.YtmacdhkfgoahcaaW.PrintWords Go.Proofs.YtmacdhkfgoahcaaW.PrintLast Go.Proofs.YtmacdhkfgoahcaaW.PrintMore
/-- A Term, as a value. -/
def tV (t : S25) : Value := .agg #[.int .i64 t.f0, .int .i64 t.f1, .int .i64 t.f2, .int .i64 t.f3]
theorem run_look {w : World} {b cnt : Nat} {m : Fn} (h : MapI w b cnt m) (a : Int) (ha : wf a) : (Instr.lookup 81 (.map (some b)) (.int .i64 a) true).run Try.prog w = .ok (.tuple #[.int .i64 ((m a).getD 0), .bool (m a).isSome]) w := by
  obtain ⟨D, hD, hh, hv⟩ := h.gives a ha
  obtain ⟨v, ps, hrun, hR⟩ := hD.look_ok law3 Try.underlying81 (zero3 w) (plainElem_int Try.underlying3 (by decide)) (key3 ha)
  obtain ⟨c, rfl, hc, _⟩ := plainElem_int_inv Try.underlying3 hR
  have := hv.out c (congrArg Prod.fst hc)
  rw [hrun, hh, this]
theorem uses_some (t : S25) : code_TermUses.f t.f0 t.f1 t.f2 t.f3 = some (if (t.f0 == 2 || t.f0 == 3) = true then [t.f1] else []) := by
  unfold code_TermUses.f
  by_cases h2 : t.f0 = 2
  · simp [h2]
  · by_cases h3 : t.f0 = 3
    · simp [h3]
    · simp [h2, h3]
theorem wf_heldI {c : Fn} (hc : OkFn c) {r : Int} (hr : wf r) : wf (heldI c r) := by
  unfold heldI
  cases e : c r with
  | none => exact hr
  | some v => exact hc r v e
def termP (m c : Fn) (t : S25) : S25 :=
  if (t.f0 == 2) = true then (match m (heldI c t.f1) with
    | none => ⟨t.f0, heldI c t.f1, t.f2, t.f3⟩
    | some n => if (n == 0) = true then ⟨1, 0, t.f3, 0⟩ else ⟨1, 0, t.f2, 0⟩)
  else if (t.f0 == 3) = true then ⟨t.f0, heldI c t.f1, t.f2, t.f3⟩
  else t
/-- The state before the look-up of term. -/
structure TS (w W : World) (g nb cb cnt : Nat) (m c : Fn) (t : S25) (a : Int) : Prop where
  q0 : W.cell? ⟨w.heap.size, 0, none⟩ = some (.int .i64 t.f0)
  q1 : W.cell? ⟨w.heap.size, 1, none⟩ = some (.int .i64 a)
  q2 : W.cell? ⟨w.heap.size, 2, none⟩ = some (.int .i64 t.f2)
  q3 : W.cell? ⟨w.heap.size, 3, none⟩ = some (.int .i64 t.f3)
  p0 : W.cell? ⟨w.heap.size + 1, 0, none⟩ = some (.int .i64 0)
  p1 : W.cell? ⟨w.heap.size + 1, 1, none⟩ = some (.int .i64 0)
  p2 : W.cell? ⟨w.heap.size + 1, 2, none⟩ = some (.int .i64 0)
  p3 : W.cell? ⟨w.heap.size + 1, 3, none⟩ = some (.int .i64 0)
  f0 : W.frozen? ⟨w.heap.size + 1, 0, none⟩ = false
  f1 : W.frozen? ⟨w.heap.size + 1, 1, none⟩ = false
  f2 : W.frozen? ⟨w.heap.size + 1, 2, none⟩ = false
  f3 : W.frozen? ⟨w.heap.size + 1, 3, none⟩ = false
  fa : IsFacts W g nb cb cnt m c
  be : Below w.heap.size w W
set_option maxHeartbeats 4000000 in
set_option maxRecDepth 100000 in
theorem term2a (g nb cb cnt : Nat) (m c : Fn) (t : S25) (h1 : wf t.f1) (w : World) (hF : IsFacts w g nb cb cnt m c) (hq2 : (t.f0 == 2) = true) (hs : m (heldI c t.f1) = none) :
    Calls Try.prog 57 #[.pointer (some ⟨g, 0, none⟩), tV t] w fun e w' => e = .returned (tV ⟨t.f0, heldI c t.f1, t.f2, t.f3⟩) ∧ Below w.heap.size w w' := by
  have hU : ∀ W, Calls Try.prog 82 #[.agg #[.int .i64 t.f0, .int .i64 t.f1, .int .i64 t.f2, .int .i64 t.f3]] W fun e w' => ∃ A c, e = .returned (.slice A 1 c) ∧ Below W.heap.size W w' := fun W => (code_TermUses.calls t.f0 t.f1 t.f2 t.f3 ([t.f1]) W (by rw [uses_some]; simp [*])).mono fun e w' ⟨v, he, hR, hb⟩ => by
    obtain ⟨A, c, rfl⟩ := Kd.R_slice hR
    exact ⟨A, c, he, hb⟩
  have hH := held_facts hF t.f1 h1
  have hm := Aside0.mk hF
  have hw1 := Aside0.mk h1
  have hok := Aside0.mk (show OkFn c from hF.mc.ok)
  have gl := hF.lt
  clear hF h1
  unfold tV
  go_enter Try.func57, Try.ntmps57
  go_wp2_with (first | (go_at_call 82; refine (hU _).mono ?_; rintro e w1 ⟨Au, cu, rfl, hd1⟩; have hc1 : ∀ b o, b < w.heap.size + 2 → w1.cell? ⟨b, o, none⟩ = (World.alloc (w.alloc (.cells #[.int .i64 t.f0, .int .i64 t.f1, .int .i64 t.f2, .int .i64 t.f3] 25)) (.cells #[.int .i64 0, .int .i64 0, .int .i64 0, .int .i64 0] 25)).cell? ⟨b, o, none⟩ := (fun b o h => hd1.cell (p := ⟨b, o, none⟩) (by show _ < (World.alloc (World.alloc w _) _).heap.size; simp only [World.size_alloc]; omega)); have hf1 : ∀ b o, b < w.heap.size + 2 → w1.frozen? ⟨b, o, none⟩ = (World.alloc (w.alloc (.cells #[.int .i64 t.f0, .int .i64 t.f1, .int .i64 t.f2, .int .i64 t.f3] 25)) (.cells #[.int .i64 0, .int .i64 0, .int .i64 0, .int .i64 0] 25)).frozen? ⟨b, o, none⟩ := (fun b o h => hd1.frozen (p := ⟨b, o, none⟩) (by show _ < (World.alloc (World.alloc w _) _).heap.size; simp only [World.size_alloc]; omega)); have HB : Aside0 (Below w.heap.size w w1) := Aside0.mk ((((Below.refl w.heap.size w).alloc (Nat.le_refl _) _).alloc (by simp) _).trans (hd1.mono (by simp only [World.size_alloc]; omega))); have hz1 : w.heap.size + 2 ≤ w1.heap.size := (by have h_ := hd1.size; simp only [World.size_alloc] at h_; omega); clear hd1) | (go_at_call 79; (refine (hH _ HB.out).mono ?_); rintro e w2 ⟨rfl, rfl⟩; have z1 : (w1.setCell ⟨w.heap.size, 1, none⟩ (.int .i64 (heldI c t.f1))).cell? ⟨w.heap.size, 1, none⟩ = some (.int .i64 (heldI c t.f1)) := World.cell?_setCell_same _ _ _ (show w1.cell? ⟨w.heap.size, 1, none⟩ = some (.int .i64 t.f1) from (hc1 w.heap.size 1 (by omega)).trans (by simp))))
  have hT : Aside0 (TS w (w1.setCell ⟨w.heap.size, 1, none⟩ (.int .i64 (heldI c t.f1))) g nb cb cnt m c t (heldI c t.f1)) := Aside0.mk ⟨((World.cell?_setCell_other _ _ _ _ (by simp)).trans (((hc1 (w.heap.size) 0 (by omega)).trans (by simp)))), z1, ((World.cell?_setCell_other _ _ _ _ (by simp)).trans (((hc1 (w.heap.size) 2 (by omega)).trans (by simp)))), ((World.cell?_setCell_other _ _ _ _ (by simp)).trans (((hc1 (w.heap.size) 3 (by omega)).trans (by simp)))), ((World.cell?_setCell_other _ _ _ _ (by simp)).trans (((hc1 (w.heap.size + 1) 0 (by omega)).trans (by simp)))), ((World.cell?_setCell_other _ _ _ _ (by simp)).trans (((hc1 (w.heap.size + 1) 1 (by omega)).trans (by simp)))), ((World.cell?_setCell_other _ _ _ _ (by simp)).trans (((hc1 (w.heap.size + 1) 2 (by omega)).trans (by simp)))), ((World.cell?_setCell_other _ _ _ _ (by simp)).trans (((hc1 (w.heap.size + 1) 3 (by omega)).trans (by simp)))), (by rw [World.frozen?_setCell, hf1 (w.heap.size + 1) 0 (by omega)]; simp), (by rw [World.frozen?_setCell, hf1 (w.heap.size + 1) 1 (by omega)]; simp), (by rw [World.frozen?_setCell, hf1 (w.heap.size + 1) 2 (by omega)]; simp), (by rw [World.frozen?_setCell, hf1 (w.heap.size + 1) 3 (by omega)]; simp), hm.out.below (HB.out.setCell (p := ⟨w.heap.size, 1, none⟩) (by simp) _), HB.out.setCell (p := ⟨w.heap.size, 1, none⟩) (by simp) _⟩
  generalize hW : w1.setCell ⟨w.heap.size, 1, none⟩ (.int .i64 (heldI c t.f1)) = W3 at *
  clear hc1 hf1 hU hH hm hW z1
  obtain ⟨q0, q1, q2, q3, p0, p1, p2, p3, f0, f1, f2, f3, gc⟩ : (_ ∧ _ ∧ _ ∧ _ ∧ _ ∧ _ ∧ _ ∧ _ ∧ _ ∧ _ ∧ _ ∧ _ ∧ _) := ⟨hT.out.q0, hT.out.q1, hT.out.q2, hT.out.q3, hT.out.p0, hT.out.p1, hT.out.p2, hT.out.p3, hT.out.f0, hT.out.f1, hT.out.f2, hT.out.f3, hT.out.fa.c0⟩
  have hlk : ∀ n, (Instr.lookup 81 (.map (some nb)) (.int .i64 (heldI c t.f1)) true).run Try.prog (W3.drewN n) = .ok (.tuple #[.int .i64 ((m (heldI c t.f1)).getD 0), .bool (m (heldI c t.f1)).isSome]) (W3.drewN n) := fun n => run_look (w := W3.drewN n) (hT.out.fa.mn.keep rfl) _ (wf_heldI hok.out hw1.out)
  rw [hs] at hlk
  simp only [Option.getD_none, Option.isSome_none] at hlk
  have hn2 : (t.f0 != 2) = false := by simpa using hq2
  go_quiet (fail)
  go_wp2
  refine bodyPost_ret (v := .agg #[.int .i64 t.f0, .int .i64 (heldI c t.f1), .int .i64 t.f2, .int .i64 t.f3]) (by simp [results, Try.results57, go_sem, *]) rfl ⟨rfl, ?_⟩
  have HE := hT.out.be
  exact (((((below_un HE).setCell (p := ⟨w.heap.size + 1, 0, none⟩) (by simp) _).setCell (p := ⟨w.heap.size + 1, 1, none⟩) (by simp) _).setCell (p := ⟨w.heap.size + 1, 2, none⟩) (by simp) _).setCell (p := ⟨w.heap.size + 1, 3, none⟩) (by simp) _)
set_option maxHeartbeats 4000000 in
set_option maxRecDepth 100000 in
theorem term2b (g nb cb cnt : Nat) (m c : Fn) (t : S25) (h1 : wf t.f1) (w : World) (hF : IsFacts w g nb cb cnt m c) (hq2 : (t.f0 == 2) = true) (n : Int) (hs : m (heldI c t.f1) = some n) (hn : (n == 0) = true) :
    Calls Try.prog 57 #[.pointer (some ⟨g, 0, none⟩), tV t] w fun e w' => e = .returned (tV ⟨1, 0, t.f3, 0⟩) ∧ Below w.heap.size w w' := by
  have hU : ∀ W, Calls Try.prog 82 #[.agg #[.int .i64 t.f0, .int .i64 t.f1, .int .i64 t.f2, .int .i64 t.f3]] W fun e w' => ∃ A c, e = .returned (.slice A 1 c) ∧ Below W.heap.size W w' := fun W => (code_TermUses.calls t.f0 t.f1 t.f2 t.f3 ([t.f1]) W (by rw [uses_some]; simp [*])).mono fun e w' ⟨v, he, hR, hb⟩ => by
    obtain ⟨A, c, rfl⟩ := Kd.R_slice hR
    exact ⟨A, c, he, hb⟩
  have hH := held_facts hF t.f1 h1
  have hm := Aside0.mk hF
  have hw1 := Aside0.mk h1
  have hok := Aside0.mk (show OkFn c from hF.mc.ok)
  have gl := hF.lt
  clear hF h1
  unfold tV
  go_enter Try.func57, Try.ntmps57
  go_wp2_with (first | (go_at_call 82; refine (hU _).mono ?_; rintro e w1 ⟨Au, cu, rfl, hd1⟩; have hc1 : ∀ b o, b < w.heap.size + 2 → w1.cell? ⟨b, o, none⟩ = (World.alloc (w.alloc (.cells #[.int .i64 t.f0, .int .i64 t.f1, .int .i64 t.f2, .int .i64 t.f3] 25)) (.cells #[.int .i64 0, .int .i64 0, .int .i64 0, .int .i64 0] 25)).cell? ⟨b, o, none⟩ := (fun b o h => hd1.cell (p := ⟨b, o, none⟩) (by show _ < (World.alloc (World.alloc w _) _).heap.size; simp only [World.size_alloc]; omega)); have hf1 : ∀ b o, b < w.heap.size + 2 → w1.frozen? ⟨b, o, none⟩ = (World.alloc (w.alloc (.cells #[.int .i64 t.f0, .int .i64 t.f1, .int .i64 t.f2, .int .i64 t.f3] 25)) (.cells #[.int .i64 0, .int .i64 0, .int .i64 0, .int .i64 0] 25)).frozen? ⟨b, o, none⟩ := (fun b o h => hd1.frozen (p := ⟨b, o, none⟩) (by show _ < (World.alloc (World.alloc w _) _).heap.size; simp only [World.size_alloc]; omega)); have HB : Aside0 (Below w.heap.size w w1) := Aside0.mk ((((Below.refl w.heap.size w).alloc (Nat.le_refl _) _).alloc (by simp) _).trans (hd1.mono (by simp only [World.size_alloc]; omega))); have hz1 : w.heap.size + 2 ≤ w1.heap.size := (by have h_ := hd1.size; simp only [World.size_alloc] at h_; omega); clear hd1) | (go_at_call 79; (refine (hH _ HB.out).mono ?_); rintro e w2 ⟨rfl, rfl⟩; have z1 : (w1.setCell ⟨w.heap.size, 1, none⟩ (.int .i64 (heldI c t.f1))).cell? ⟨w.heap.size, 1, none⟩ = some (.int .i64 (heldI c t.f1)) := World.cell?_setCell_same _ _ _ (show w1.cell? ⟨w.heap.size, 1, none⟩ = some (.int .i64 t.f1) from (hc1 w.heap.size 1 (by omega)).trans (by simp))))
  have hT : Aside0 (TS w (w1.setCell ⟨w.heap.size, 1, none⟩ (.int .i64 (heldI c t.f1))) g nb cb cnt m c t (heldI c t.f1)) := Aside0.mk ⟨((World.cell?_setCell_other _ _ _ _ (by simp)).trans (((hc1 (w.heap.size) 0 (by omega)).trans (by simp)))), z1, ((World.cell?_setCell_other _ _ _ _ (by simp)).trans (((hc1 (w.heap.size) 2 (by omega)).trans (by simp)))), ((World.cell?_setCell_other _ _ _ _ (by simp)).trans (((hc1 (w.heap.size) 3 (by omega)).trans (by simp)))), ((World.cell?_setCell_other _ _ _ _ (by simp)).trans (((hc1 (w.heap.size + 1) 0 (by omega)).trans (by simp)))), ((World.cell?_setCell_other _ _ _ _ (by simp)).trans (((hc1 (w.heap.size + 1) 1 (by omega)).trans (by simp)))), ((World.cell?_setCell_other _ _ _ _ (by simp)).trans (((hc1 (w.heap.size + 1) 2 (by omega)).trans (by simp)))), ((World.cell?_setCell_other _ _ _ _ (by simp)).trans (((hc1 (w.heap.size + 1) 3 (by omega)).trans (by simp)))), (by rw [World.frozen?_setCell, hf1 (w.heap.size + 1) 0 (by omega)]; simp), (by rw [World.frozen?_setCell, hf1 (w.heap.size + 1) 1 (by omega)]; simp), (by rw [World.frozen?_setCell, hf1 (w.heap.size + 1) 2 (by omega)]; simp), (by rw [World.frozen?_setCell, hf1 (w.heap.size + 1) 3 (by omega)]; simp), hm.out.below (HB.out.setCell (p := ⟨w.heap.size, 1, none⟩) (by simp) _), HB.out.setCell (p := ⟨w.heap.size, 1, none⟩) (by simp) _⟩
  generalize hW : w1.setCell ⟨w.heap.size, 1, none⟩ (.int .i64 (heldI c t.f1)) = W3 at *
  clear hc1 hf1 hU hH hm hW z1
  obtain ⟨q0, q1, q2, q3, p0, p1, p2, p3, f0, f1, f2, f3, gc⟩ : (_ ∧ _ ∧ _ ∧ _ ∧ _ ∧ _ ∧ _ ∧ _ ∧ _ ∧ _ ∧ _ ∧ _ ∧ _) := ⟨hT.out.q0, hT.out.q1, hT.out.q2, hT.out.q3, hT.out.p0, hT.out.p1, hT.out.p2, hT.out.p3, hT.out.f0, hT.out.f1, hT.out.f2, hT.out.f3, hT.out.fa.c0⟩
  have hlk : ∀ n, (Instr.lookup 81 (.map (some nb)) (.int .i64 (heldI c t.f1)) true).run Try.prog (W3.drewN n) = .ok (.tuple #[.int .i64 ((m (heldI c t.f1)).getD 0), .bool (m (heldI c t.f1)).isSome]) (W3.drewN n) := fun n => run_look (w := W3.drewN n) (hT.out.fa.mn.keep rfl) _ (wf_heldI hok.out hw1.out)
  rw [hs] at hlk
  simp only [Option.getD_some, Option.isSome_some] at hlk
  have hn2 : (t.f0 != 2) = false := by simpa using hq2
  go_quiet (fail)
  go_wp2
  refine bodyPost_ret (v := .agg #[.int .i64 1, .int .i64 0, .int .i64 t.f3, .int .i64 0]) (by simp [results, Try.results57, go_sem, *]) rfl ⟨rfl, ?_⟩
  have HE := hT.out.be
  exact (((((below_un HE).setCell (p := ⟨w.heap.size + 1, 0, none⟩) (by simp) _).setCell (p := ⟨w.heap.size + 1, 1, none⟩) (by simp) _).setCell (p := ⟨w.heap.size + 1, 2, none⟩) (by simp) _).setCell (p := ⟨w.heap.size + 1, 3, none⟩) (by simp) _)
set_option maxHeartbeats 4000000 in
set_option maxRecDepth 100000 in
theorem term2c (g nb cb cnt : Nat) (m c : Fn) (t : S25) (h1 : wf t.f1) (w : World) (hF : IsFacts w g nb cb cnt m c) (hq2 : (t.f0 == 2) = true) (n : Int) (hs : m (heldI c t.f1) = some n) (hn : (n == 0) = false) :
    Calls Try.prog 57 #[.pointer (some ⟨g, 0, none⟩), tV t] w fun e w' => e = .returned (tV ⟨1, 0, t.f2, 0⟩) ∧ Below w.heap.size w w' := by
  have hU : ∀ W, Calls Try.prog 82 #[.agg #[.int .i64 t.f0, .int .i64 t.f1, .int .i64 t.f2, .int .i64 t.f3]] W fun e w' => ∃ A c, e = .returned (.slice A 1 c) ∧ Below W.heap.size W w' := fun W => (code_TermUses.calls t.f0 t.f1 t.f2 t.f3 ([t.f1]) W (by rw [uses_some]; simp [*])).mono fun e w' ⟨v, he, hR, hb⟩ => by
    obtain ⟨A, c, rfl⟩ := Kd.R_slice hR
    exact ⟨A, c, he, hb⟩
  have hH := held_facts hF t.f1 h1
  have hm := Aside0.mk hF
  have hw1 := Aside0.mk h1
  have hok := Aside0.mk (show OkFn c from hF.mc.ok)
  have gl := hF.lt
  clear hF h1
  unfold tV
  go_enter Try.func57, Try.ntmps57
  go_wp2_with (first | (go_at_call 82; refine (hU _).mono ?_; rintro e w1 ⟨Au, cu, rfl, hd1⟩; have hc1 : ∀ b o, b < w.heap.size + 2 → w1.cell? ⟨b, o, none⟩ = (World.alloc (w.alloc (.cells #[.int .i64 t.f0, .int .i64 t.f1, .int .i64 t.f2, .int .i64 t.f3] 25)) (.cells #[.int .i64 0, .int .i64 0, .int .i64 0, .int .i64 0] 25)).cell? ⟨b, o, none⟩ := (fun b o h => hd1.cell (p := ⟨b, o, none⟩) (by show _ < (World.alloc (World.alloc w _) _).heap.size; simp only [World.size_alloc]; omega)); have hf1 : ∀ b o, b < w.heap.size + 2 → w1.frozen? ⟨b, o, none⟩ = (World.alloc (w.alloc (.cells #[.int .i64 t.f0, .int .i64 t.f1, .int .i64 t.f2, .int .i64 t.f3] 25)) (.cells #[.int .i64 0, .int .i64 0, .int .i64 0, .int .i64 0] 25)).frozen? ⟨b, o, none⟩ := (fun b o h => hd1.frozen (p := ⟨b, o, none⟩) (by show _ < (World.alloc (World.alloc w _) _).heap.size; simp only [World.size_alloc]; omega)); have HB : Aside0 (Below w.heap.size w w1) := Aside0.mk ((((Below.refl w.heap.size w).alloc (Nat.le_refl _) _).alloc (by simp) _).trans (hd1.mono (by simp only [World.size_alloc]; omega))); have hz1 : w.heap.size + 2 ≤ w1.heap.size := (by have h_ := hd1.size; simp only [World.size_alloc] at h_; omega); clear hd1) | (go_at_call 79; (refine (hH _ HB.out).mono ?_); rintro e w2 ⟨rfl, rfl⟩; have z1 : (w1.setCell ⟨w.heap.size, 1, none⟩ (.int .i64 (heldI c t.f1))).cell? ⟨w.heap.size, 1, none⟩ = some (.int .i64 (heldI c t.f1)) := World.cell?_setCell_same _ _ _ (show w1.cell? ⟨w.heap.size, 1, none⟩ = some (.int .i64 t.f1) from (hc1 w.heap.size 1 (by omega)).trans (by simp))))
  have hT : Aside0 (TS w (w1.setCell ⟨w.heap.size, 1, none⟩ (.int .i64 (heldI c t.f1))) g nb cb cnt m c t (heldI c t.f1)) := Aside0.mk ⟨((World.cell?_setCell_other _ _ _ _ (by simp)).trans (((hc1 (w.heap.size) 0 (by omega)).trans (by simp)))), z1, ((World.cell?_setCell_other _ _ _ _ (by simp)).trans (((hc1 (w.heap.size) 2 (by omega)).trans (by simp)))), ((World.cell?_setCell_other _ _ _ _ (by simp)).trans (((hc1 (w.heap.size) 3 (by omega)).trans (by simp)))), ((World.cell?_setCell_other _ _ _ _ (by simp)).trans (((hc1 (w.heap.size + 1) 0 (by omega)).trans (by simp)))), ((World.cell?_setCell_other _ _ _ _ (by simp)).trans (((hc1 (w.heap.size + 1) 1 (by omega)).trans (by simp)))), ((World.cell?_setCell_other _ _ _ _ (by simp)).trans (((hc1 (w.heap.size + 1) 2 (by omega)).trans (by simp)))), ((World.cell?_setCell_other _ _ _ _ (by simp)).trans (((hc1 (w.heap.size + 1) 3 (by omega)).trans (by simp)))), (by rw [World.frozen?_setCell, hf1 (w.heap.size + 1) 0 (by omega)]; simp), (by rw [World.frozen?_setCell, hf1 (w.heap.size + 1) 1 (by omega)]; simp), (by rw [World.frozen?_setCell, hf1 (w.heap.size + 1) 2 (by omega)]; simp), (by rw [World.frozen?_setCell, hf1 (w.heap.size + 1) 3 (by omega)]; simp), hm.out.below (HB.out.setCell (p := ⟨w.heap.size, 1, none⟩) (by simp) _), HB.out.setCell (p := ⟨w.heap.size, 1, none⟩) (by simp) _⟩
  generalize hW : w1.setCell ⟨w.heap.size, 1, none⟩ (.int .i64 (heldI c t.f1)) = W3 at *
  clear hc1 hf1 hU hH hm hW z1
  obtain ⟨q0, q1, q2, q3, p0, p1, p2, p3, f0, f1, f2, f3, gc⟩ : (_ ∧ _ ∧ _ ∧ _ ∧ _ ∧ _ ∧ _ ∧ _ ∧ _ ∧ _ ∧ _ ∧ _ ∧ _) := ⟨hT.out.q0, hT.out.q1, hT.out.q2, hT.out.q3, hT.out.p0, hT.out.p1, hT.out.p2, hT.out.p3, hT.out.f0, hT.out.f1, hT.out.f2, hT.out.f3, hT.out.fa.c0⟩
  have hlk : ∀ n, (Instr.lookup 81 (.map (some nb)) (.int .i64 (heldI c t.f1)) true).run Try.prog (W3.drewN n) = .ok (.tuple #[.int .i64 ((m (heldI c t.f1)).getD 0), .bool (m (heldI c t.f1)).isSome]) (W3.drewN n) := fun n => run_look (w := W3.drewN n) (hT.out.fa.mn.keep rfl) _ (wf_heldI hok.out hw1.out)
  rw [hs] at hlk
  simp only [Option.getD_some, Option.isSome_some] at hlk
  have hn2 : (t.f0 != 2) = false := by simpa using hq2
  go_quiet (fail)
  go_wp2
  refine bodyPost_ret (v := .agg #[.int .i64 1, .int .i64 0, .int .i64 t.f2, .int .i64 0]) (by simp [results, Try.results57, go_sem, *]) rfl ⟨rfl, ?_⟩
  have HE := hT.out.be
  exact (((((below_un HE).setCell (p := ⟨w.heap.size + 1, 0, none⟩) (by simp) _).setCell (p := ⟨w.heap.size + 1, 1, none⟩) (by simp) _).setCell (p := ⟨w.heap.size + 1, 2, none⟩) (by simp) _).setCell (p := ⟨w.heap.size + 1, 3, none⟩) (by simp) _)
set_option maxHeartbeats 4000000 in
set_option maxRecDepth 100000 in
theorem term3 (g nb cb cnt : Nat) (m c : Fn) (t : S25) (h1 : wf t.f1) (w : World) (hF : IsFacts w g nb cb cnt m c) (hq2 : (t.f0 == 2) = false) (hq3 : (t.f0 == 3) = true) :
    Calls Try.prog 57 #[.pointer (some ⟨g, 0, none⟩), tV t] w fun e w' => e = .returned (tV ⟨t.f0, heldI c t.f1, t.f2, t.f3⟩) ∧ Below w.heap.size w w' := by
  have hU : ∀ W, Calls Try.prog 82 #[.agg #[.int .i64 t.f0, .int .i64 t.f1, .int .i64 t.f2, .int .i64 t.f3]] W fun e w' => ∃ A c, e = .returned (.slice A 1 c) ∧ Below W.heap.size W w' := fun W => (code_TermUses.calls t.f0 t.f1 t.f2 t.f3 ([t.f1]) W (by rw [uses_some]; simp [*])).mono fun e w' ⟨v, he, hR, hb⟩ => by
    obtain ⟨A, c, rfl⟩ := Kd.R_slice hR
    exact ⟨A, c, he, hb⟩
  have hH := held_facts hF t.f1 h1
  have hm := Aside0.mk hF
  have hw1 := Aside0.mk h1
  have hok := Aside0.mk (show OkFn c from hF.mc.ok)
  have gl := hF.lt
  clear hF h1
  unfold tV
  go_enter Try.func57, Try.ntmps57
  go_wp2_with (first | (go_at_call 82; refine (hU _).mono ?_; rintro e w1 ⟨Au, cu, rfl, hd1⟩; have hc1 : ∀ b o, b < w.heap.size + 2 → w1.cell? ⟨b, o, none⟩ = (World.alloc (w.alloc (.cells #[.int .i64 t.f0, .int .i64 t.f1, .int .i64 t.f2, .int .i64 t.f3] 25)) (.cells #[.int .i64 0, .int .i64 0, .int .i64 0, .int .i64 0] 25)).cell? ⟨b, o, none⟩ := (fun b o h => hd1.cell (p := ⟨b, o, none⟩) (by show _ < (World.alloc (World.alloc w _) _).heap.size; simp only [World.size_alloc]; omega)); have hf1 : ∀ b o, b < w.heap.size + 2 → w1.frozen? ⟨b, o, none⟩ = (World.alloc (w.alloc (.cells #[.int .i64 t.f0, .int .i64 t.f1, .int .i64 t.f2, .int .i64 t.f3] 25)) (.cells #[.int .i64 0, .int .i64 0, .int .i64 0, .int .i64 0] 25)).frozen? ⟨b, o, none⟩ := (fun b o h => hd1.frozen (p := ⟨b, o, none⟩) (by show _ < (World.alloc (World.alloc w _) _).heap.size; simp only [World.size_alloc]; omega)); have HB : Aside0 (Below w.heap.size w w1) := Aside0.mk ((((Below.refl w.heap.size w).alloc (Nat.le_refl _) _).alloc (by simp) _).trans (hd1.mono (by simp only [World.size_alloc]; omega))); have hz1 : w.heap.size + 2 ≤ w1.heap.size := (by have h_ := hd1.size; simp only [World.size_alloc] at h_; omega); clear hd1) | (go_at_call 79; (refine (hH _ HB.out).mono ?_); rintro e w2 ⟨rfl, rfl⟩; have z1 : (w1.setCell ⟨w.heap.size, 1, none⟩ (.int .i64 (heldI c t.f1))).cell? ⟨w.heap.size, 1, none⟩ = some (.int .i64 (heldI c t.f1)) := World.cell?_setCell_same _ _ _ (show w1.cell? ⟨w.heap.size, 1, none⟩ = some (.int .i64 t.f1) from (hc1 w.heap.size 1 (by omega)).trans (by simp))))
  have hT : Aside0 (TS w (w1.setCell ⟨w.heap.size, 1, none⟩ (.int .i64 (heldI c t.f1))) g nb cb cnt m c t (heldI c t.f1)) := Aside0.mk ⟨((World.cell?_setCell_other _ _ _ _ (by simp)).trans (((hc1 (w.heap.size) 0 (by omega)).trans (by simp)))), z1, ((World.cell?_setCell_other _ _ _ _ (by simp)).trans (((hc1 (w.heap.size) 2 (by omega)).trans (by simp)))), ((World.cell?_setCell_other _ _ _ _ (by simp)).trans (((hc1 (w.heap.size) 3 (by omega)).trans (by simp)))), ((World.cell?_setCell_other _ _ _ _ (by simp)).trans (((hc1 (w.heap.size + 1) 0 (by omega)).trans (by simp)))), ((World.cell?_setCell_other _ _ _ _ (by simp)).trans (((hc1 (w.heap.size + 1) 1 (by omega)).trans (by simp)))), ((World.cell?_setCell_other _ _ _ _ (by simp)).trans (((hc1 (w.heap.size + 1) 2 (by omega)).trans (by simp)))), ((World.cell?_setCell_other _ _ _ _ (by simp)).trans (((hc1 (w.heap.size + 1) 3 (by omega)).trans (by simp)))), (by rw [World.frozen?_setCell, hf1 (w.heap.size + 1) 0 (by omega)]; simp), (by rw [World.frozen?_setCell, hf1 (w.heap.size + 1) 1 (by omega)]; simp), (by rw [World.frozen?_setCell, hf1 (w.heap.size + 1) 2 (by omega)]; simp), (by rw [World.frozen?_setCell, hf1 (w.heap.size + 1) 3 (by omega)]; simp), hm.out.below (HB.out.setCell (p := ⟨w.heap.size, 1, none⟩) (by simp) _), HB.out.setCell (p := ⟨w.heap.size, 1, none⟩) (by simp) _⟩
  generalize hW : w1.setCell ⟨w.heap.size, 1, none⟩ (.int .i64 (heldI c t.f1)) = W3 at *
  clear hc1 hf1 hU hH hm hW z1
  obtain ⟨q0, q1, q2, q3, p0, p1, p2, p3, f0, f1, f2, f3, gc⟩ : (_ ∧ _ ∧ _ ∧ _ ∧ _ ∧ _ ∧ _ ∧ _ ∧ _ ∧ _ ∧ _ ∧ _ ∧ _) := ⟨hT.out.q0, hT.out.q1, hT.out.q2, hT.out.q3, hT.out.p0, hT.out.p1, hT.out.p2, hT.out.p3, hT.out.f0, hT.out.f1, hT.out.f2, hT.out.f3, hT.out.fa.c0⟩
  have hlk : ∀ n, (Instr.lookup 81 (.map (some nb)) (.int .i64 (heldI c t.f1)) true).run Try.prog (W3.drewN n) = .ok (.tuple #[.int .i64 ((m (heldI c t.f1)).getD 0), .bool (m (heldI c t.f1)).isSome]) (W3.drewN n) := fun n => run_look (w := W3.drewN n) (hT.out.fa.mn.keep rfl) _ (wf_heldI hok.out hw1.out)
  have hn2 : (t.f0 != 2) = true := by simpa using hq2
  go_quiet (fail)
  go_wp2
  refine bodyPost_ret (v := .agg #[.int .i64 t.f0, .int .i64 (heldI c t.f1), .int .i64 t.f2, .int .i64 t.f3]) (by simp [results, Try.results57, go_sem, *]) rfl ⟨rfl, ?_⟩
  have HE := hT.out.be
  exact (((((below_un HE).setCell (p := ⟨w.heap.size + 1, 0, none⟩) (by simp) _).setCell (p := ⟨w.heap.size + 1, 1, none⟩) (by simp) _).setCell (p := ⟨w.heap.size + 1, 2, none⟩) (by simp) _).setCell (p := ⟨w.heap.size + 1, 3, none⟩) (by simp) _)
set_option maxHeartbeats 4000000 in
set_option maxRecDepth 100000 in
theorem term4 (g nb cb cnt : Nat) (m c : Fn) (t : S25) (h1 : wf t.f1) (w : World) (hF : IsFacts w g nb cb cnt m c) (hq2 : (t.f0 == 2) = false) (hq3 : (t.f0 == 3) = false) :
    Calls Try.prog 57 #[.pointer (some ⟨g, 0, none⟩), tV t] w fun e w' => e = .returned (tV t) ∧ Below w.heap.size w w' := by
  have hU : ∀ W, Calls Try.prog 82 #[.agg #[.int .i64 t.f0, .int .i64 t.f1, .int .i64 t.f2, .int .i64 t.f3]] W fun e w' => ∃ A c, e = .returned (.slice A 0 c) ∧ Below W.heap.size W w' := fun W => (code_TermUses.calls t.f0 t.f1 t.f2 t.f3 ([]) W (by rw [uses_some]; simp [*])).mono fun e w' ⟨v, he, hR, hb⟩ => by
    obtain ⟨A, c, rfl⟩ := Kd.R_slice hR
    exact ⟨A, c, he, hb⟩
  have hH := held_facts hF t.f1 h1
  have hm := Aside0.mk hF
  have hw1 := Aside0.mk h1
  have hok := Aside0.mk (show OkFn c from hF.mc.ok)
  have gl := hF.lt
  clear hF h1
  unfold tV
  go_enter Try.func57, Try.ntmps57
  go_wp2_with (first | (go_at_call 82; refine (hU _).mono ?_; rintro e w1 ⟨Au, cu, rfl, hd1⟩; have hc1 : ∀ b o, b < w.heap.size + 2 → w1.cell? ⟨b, o, none⟩ = (World.alloc (w.alloc (.cells #[.int .i64 t.f0, .int .i64 t.f1, .int .i64 t.f2, .int .i64 t.f3] 25)) (.cells #[.int .i64 0, .int .i64 0, .int .i64 0, .int .i64 0] 25)).cell? ⟨b, o, none⟩ := (fun b o h => hd1.cell (p := ⟨b, o, none⟩) (by show _ < (World.alloc (World.alloc w _) _).heap.size; simp only [World.size_alloc]; omega)); have hf1 : ∀ b o, b < w.heap.size + 2 → w1.frozen? ⟨b, o, none⟩ = (World.alloc (w.alloc (.cells #[.int .i64 t.f0, .int .i64 t.f1, .int .i64 t.f2, .int .i64 t.f3] 25)) (.cells #[.int .i64 0, .int .i64 0, .int .i64 0, .int .i64 0] 25)).frozen? ⟨b, o, none⟩ := (fun b o h => hd1.frozen (p := ⟨b, o, none⟩) (by show _ < (World.alloc (World.alloc w _) _).heap.size; simp only [World.size_alloc]; omega)); have HB : Aside0 (Below w.heap.size w w1) := Aside0.mk ((((Below.refl w.heap.size w).alloc (Nat.le_refl _) _).alloc (by simp) _).trans (hd1.mono (by simp only [World.size_alloc]; omega))); have hz1 : w.heap.size + 2 ≤ w1.heap.size := (by have h_ := hd1.size; simp only [World.size_alloc] at h_; omega); clear hd1) | (go_at_call 79; (refine (hH _ HB.out).mono ?_); rintro e w2 ⟨rfl, rfl⟩; have z1 : (w1.setCell ⟨w.heap.size, 1, none⟩ (.int .i64 (heldI c t.f1))).cell? ⟨w.heap.size, 1, none⟩ = some (.int .i64 (heldI c t.f1)) := World.cell?_setCell_same _ _ _ (show w1.cell? ⟨w.heap.size, 1, none⟩ = some (.int .i64 t.f1) from (hc1 w.heap.size 1 (by omega)).trans (by simp))))
  have hT : Aside0 (TS w (w1) g nb cb cnt m c t (t.f1)) := Aside0.mk ⟨((((hc1 (w.heap.size) 0 (by omega)).trans (by simp)))), ((((hc1 (w.heap.size) 1 (by omega)).trans (by simp)))), ((((hc1 (w.heap.size) 2 (by omega)).trans (by simp)))), ((((hc1 (w.heap.size) 3 (by omega)).trans (by simp)))), ((((hc1 (w.heap.size + 1) 0 (by omega)).trans (by simp)))), ((((hc1 (w.heap.size + 1) 1 (by omega)).trans (by simp)))), ((((hc1 (w.heap.size + 1) 2 (by omega)).trans (by simp)))), ((((hc1 (w.heap.size + 1) 3 (by omega)).trans (by simp)))), (by rw [hf1 (w.heap.size + 1) 0 (by omega)]; simp), (by rw [hf1 (w.heap.size + 1) 1 (by omega)]; simp), (by rw [hf1 (w.heap.size + 1) 2 (by omega)]; simp), (by rw [hf1 (w.heap.size + 1) 3 (by omega)]; simp), hm.out.below HB.out, HB.out⟩
  generalize hW : w1 = W3 at *
  clear hc1 hf1 hU hH hm hW
  obtain ⟨q0, q1, q2, q3, p0, p1, p2, p3, f0, f1, f2, f3, gc⟩ : (_ ∧ _ ∧ _ ∧ _ ∧ _ ∧ _ ∧ _ ∧ _ ∧ _ ∧ _ ∧ _ ∧ _ ∧ _) := ⟨hT.out.q0, hT.out.q1, hT.out.q2, hT.out.q3, hT.out.p0, hT.out.p1, hT.out.p2, hT.out.p3, hT.out.f0, hT.out.f1, hT.out.f2, hT.out.f3, hT.out.fa.c0⟩
  have hlk : ∀ n, (Instr.lookup 81 (.map (some nb)) (.int .i64 (t.f1)) true).run Try.prog (W3.drewN n) = .ok (.tuple #[.int .i64 ((m (t.f1)).getD 0), .bool (m (t.f1)).isSome]) (W3.drewN n) := fun n => run_look (w := W3.drewN n) (hT.out.fa.mn.keep rfl) _ hw1.out
  have hn2 : (t.f0 != 2) = true := by simpa using hq2
  go_quiet (fail)
  go_wp2
  refine bodyPost_ret (v := .agg #[.int .i64 t.f0, .int .i64 t.f1, .int .i64 t.f2, .int .i64 t.f3]) (by simp [results, Try.results57, go_sem, *]) rfl ⟨rfl, ?_⟩
  have HE := hT.out.be
  exact (((((below_un HE).setCell (p := ⟨w.heap.size + 1, 0, none⟩) (by simp) _).setCell (p := ⟨w.heap.size + 1, 1, none⟩) (by simp) _).setCell (p := ⟨w.heap.size + 1, 2, none⟩) (by simp) _).setCell (p := ⟨w.heap.size + 1, 3, none⟩) (by simp) _)
theorem term_any (g nb cb cnt : Nat) (m c : Fn) (t : S25) (h1 : wf t.f1) (w : World) (hF : IsFacts w g nb cb cnt m c) :
    Calls Try.prog 57 #[.pointer (some ⟨g, 0, none⟩), tV t] w fun e w' => e = .returned (tV (termP m c t)) ∧ Below w.heap.size w w' := by
  unfold termP
  rcases Bool.eq_false_or_eq_true (t.f0 == 2) with hq2 | hq2
  · rw [if_pos hq2]
    cases hs : m (heldI c t.f1) with
    | none => exact term2a g nb cb cnt m c t h1 w hF hq2 hs
    | some n =>
      dsimp only
      rcases Bool.eq_false_or_eq_true (n == 0) with hn | hn
      · rw [if_pos hn]; exact term2b g nb cb cnt m c t h1 w hF hq2 n hs hn
      · rw [if_neg (by simp [hn])]; exact term2c g nb cb cnt m c t h1 w hF hq2 n hs hn
  · rw [if_neg (by simp [hq2])]
    rcases Bool.eq_false_or_eq_true (t.f0 == 3) with hq3 | hq3
    · rw [if_pos hq3]; exact term3 g nb cb cnt m c t h1 w hF hq2 hq3
    · rw [if_neg (by simp [hq3])]; exact term4 g nb cb cnt m c t h1 w hF hq2 hq3
end Go.Proofs.Ytmacdhkfgoahcaa.Fo
