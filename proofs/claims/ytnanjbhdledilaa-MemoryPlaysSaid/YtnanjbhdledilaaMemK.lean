/- The document's memory: New. -/
import Derived.Test.YtnanjbhdledilaaMemJ
set_option linter.unusedVariables false
set_option linter.unusedSimpArgs false
namespace Go.Proofs.Ytnanjbhdledilaa.Mem
open Go Go.RowKit Go.Maps Go.Proofs.YtnanjbhdledilaaW.PrintWords Go.Proofs.YtnanjbhdledilaaW.PrintLast Go.Proofs.YtnanjbhdledilaaW.PrintMore
theorem isRef_new (w : World) (a : Int) (h0 : 0 ≤ a) : IsRef ((w.alloc (.map #[] 0)).alloc (.cells #[.int .i64 a, .int .i64 1, .int .i64 a, .map (some w.heap.size)] 36)) (w.heap.size + 1) w.heap.size 0 (Mem.new a.toNat) (fun _ => 0) := by
  have e := heap_alloc_new (w.alloc (.map #[] 0)) (.cells #[.int .i64 a, .int .i64 1, .int .i64 a, .map (some w.heap.size)] 36)
  have es : (w.alloc (.map #[] 0)).heap.size = w.heap.size + 1 := by simp
  rw [es] at e
  have ea : ((a.toNat : Nat) : Int) = a := by omega
  have hm := (World.ownsMap_made w Try.prog 3 (plainElem (H := Unit) Try.prog 3)).alloc (.cells #[.int .i64 a, .int .i64 1, .int .i64 a, .map (some w.heap.size)] 36)
  refine ⟨by omega, ?_, ?_, ?_, ?_, fun i => by simp only [World.frozen?, e]; simp, ⟨_, hm, fun x => rfl⟩⟩
  · simp only [World.cell?, e, Mem.new, ea]; rfl
  · simp only [World.cell?, e, Mem.new]; rfl
  · simp only [World.cell?, e, Mem.new, ea]; rfl
  · simp only [World.cell?, e]; rfl
theorem rnew_any (a : Int) (w : World) : Calls Try.prog 9 #[.int .i64 a] w fun e w' => if 1 ≤ a ∧ a ≤ 1048576 then
      e = .returned (.tuple #[.pointer (some ⟨w.heap.size + 1, 0, none⟩), .int .i64 0]) ∧ IsRef w' (w.heap.size + 1) w.heap.size 0 (Mem.new a.toNat) (fun _ => 0) ∧ Below w.heap.size w w' ∧ w'.heap.size = w.heap.size + 2
    else e = .returned (.tuple #[.pointer none, .int .i64 1]) ∧ w = w' := by
  have hmm := @run_makeMap Try.prog
  by_cases h1 : a < 1
  · have d1 : decide (a < 1) = true := decide_eq_true h1
    have hn : ¬ (1 ≤ a ∧ a ≤ 1048576) := by omega
    simp only [if_neg hn]
    clear h1 hn
    go_enter Try.func9, Try.ntmps9
    go_wp2
    go_ret2
    exact ⟨rfl, rfl⟩
  have d1 : decide (a < 1) = false := decide_eq_false h1
  by_cases h2 : 1048576 < a
  · have d2 : decide (1048576 < a) = true := decide_eq_true h2
    have hn : ¬ (1 ≤ a ∧ a ≤ 1048576) := by omega
    simp only [if_neg hn]
    clear h1 h2 hn
    go_enter Try.func9, Try.ntmps9
    go_wp2
    go_ret2
    exact ⟨rfl, rfl⟩
  have d2 : decide (1048576 < a) = false := decide_eq_false h2
  have hn : 1 ≤ a ∧ a ≤ 1048576 := by omega
  simp only [if_pos hn]
  have P := Aside0.mk (isRef_new w a (by omega))
  clear h1 h2 hn
  go_enter Try.func9, Try.ntmps9
  go_wp2
  go_ret2
  refine ⟨by first | rfl | simp, P.out, ?_, by simp⟩
  exact ((Below.refl _ _).alloc (Nat.le_refl _) _).alloc (by simp) _
end Go.Proofs.Ytnanjbhdledilaa.Mem
