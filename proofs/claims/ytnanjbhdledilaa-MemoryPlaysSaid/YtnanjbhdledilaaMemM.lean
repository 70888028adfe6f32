/- What the map tells is what the cells hold: kept by each step. No program in sight but for the state's names. -/
import Derived.Test.YtnanjbhdledilaaMemL
set_option linter.unusedVariables false
set_option linter.unusedSimpArgs false
namespace Go.Proofs.Ytnanjbhdledilaa.Mem
open Go Go.RowKit Go.Maps Go.Proofs.YtnanjbhdledilaaW.PrintWords Go.Proofs.YtnanjbhdledilaaW.PrintLast Go.Proofs.YtnanjbhdledilaaW.PrintMore
def Eqv (M : Mem) (c : Int → Int) : Prop := ∀ a : Int, M.there a = true → c a = M.c a.toNat
theorem IsRef.same {w : World} {g b cnt : Nat} {N M : Mem} {c : Int → Int} (h : IsRef w g b cnt N c) (e1 : N.n = M.n) (e2 : N.h = M.h) (e3 : N.f = M.f) : IsRef w g b cnt M c :=
  ⟨h.ne, by rw [← e1]; exact h.c0, by rw [← e2]; exact h.c1, by rw [← e3]; exact h.c2, h.c3, h.fg, h.mp⟩
theorem eqv_load {M : Mem} {c : Int → Int} (h : Eqv M c) (a : Int) : refLoad M c a = M.load a := by
  unfold refLoad Mem.load
  by_cases ht : M.there a = true
  · rw [if_pos ht, if_pos ht, h a ht]
  · rw [if_neg ht, if_neg ht]
theorem there_iff {M : Mem} {a : Int} : M.there a = true ↔ 1 ≤ a ∧ a < (M.h : Int) ∨ (M.f : Int) ≤ a ∧ a < (M.n : Int) := by unfold Mem.there; rw [decide_eq_true_iff]
theorem eqv_floor {M : Mem} {c : Int → Int} (ok : M.Ok) (h : Eqv M c) (a : Int) : Eqv (M.setFloor a) (refFloorC M c a) ∧ (refFloorM M a).n = (M.setFloor a).n ∧ (refFloorM M a).h = (M.setFloor a).h ∧ (refFloorM M a).f = (M.setFloor a).f := by
  obtain ⟨o1, o2, o3, o4⟩ := ok
  unfold Mem.setFloor refFloorC refFloorM
  by_cases hb : a < (M.h : Int) ∨ (M.n : Int) < a
  · rw [if_pos hb, if_pos hb, if_pos hb]; exact ⟨h, rfl, rfl, rfl⟩
  · rw [if_neg hb, if_neg hb, if_neg hb]
    refine ⟨fun x hx => ?_, rfl, rfl, rfl⟩
    rw [there_iff] at hx
    show zeroI c a M.f x = (if a.toNat ≤ x.toNat ∧ x.toNat < M.f then 0 else M.c x.toNat)
    have hx' : 1 ≤ x ∧ x < (M.h : Int) ∨ ((a.toNat : Nat) : Int) ≤ x ∧ x < (M.n : Int) := hx
    unfold zeroI
    by_cases hz : a ≤ x ∧ x < (M.f : Int)
    · rw [if_pos hz, if_pos (by omega)]
    · rw [if_neg hz, if_neg (by omega)]
      exact h x (there_iff.2 (by omega))
theorem eqv_alloc {M : Mem} {c : Int → Int} (ok : M.Ok) (h : Eqv M c) (n : Int) : Eqv (M.alloc n) (refAllocC M c n) ∧ (refAllocM M n).n = (M.alloc n).n ∧ (refAllocM M n).h = (M.alloc n).h ∧ (refAllocM M n).f = (M.alloc n).f := by
  obtain ⟨o1, o2, o3, o4⟩ := ok
  unfold Mem.alloc refAllocC refAllocM
  by_cases h1 : n < 0
  · rw [if_pos h1, if_pos h1, if_pos h1]; exact ⟨h, rfl, rfl, rfl⟩
  · rw [if_neg h1, if_neg h1, if_neg h1]
    by_cases h2 : (M.f : Int) - M.h < n
    · rw [if_pos h2, if_pos h2, if_pos h2]; exact ⟨h, rfl, rfl, rfl⟩
    · rw [if_neg h2, if_neg h2, if_neg h2]
      refine ⟨fun x hx => ?_, rfl, rfl, rfl⟩
      rw [there_iff] at hx
      show zeroI c M.h (M.h + n) x = (if M.h ≤ x.toNat ∧ x.toNat < M.h + n.toNat then 0 else M.c x.toNat)
      have hx' : 1 ≤ x ∧ x < ((M.h + n.toNat : Nat) : Int) ∨ (M.f : Int) ≤ x ∧ x < (M.n : Int) := hx
      unfold zeroI
      by_cases hz : (M.h : Int) ≤ x ∧ x < (M.h : Int) + n
      · rw [if_pos hz, if_pos (by omega)]
      · rw [if_neg hz, if_neg (by omega)]
        exact h x (there_iff.2 (by omega))
theorem eqv_store {M : Mem} {c : Int → Int} (ok : M.Ok) (h : Eqv M c) (a v : Int) : Eqv (M.store a v) (refStore M c a v) := by
  unfold Mem.store refStore
  by_cases ht : M.there a = true
  · rw [if_pos ht, if_pos ht]
    intro x hx
    have hx' : M.there x = true := hx
    show putI c a v x = (if x.toNat = a.toNat then v else M.c x.toNat)
    obtain ⟨k1, e1, _, _⟩ := there_nat ok ht
    obtain ⟨k2, e2, _, _⟩ := there_nat ok hx'
    unfold putI
    by_cases e : x = a
    · rw [if_pos e, if_pos (by rw [e])]
    · rw [if_neg e, if_neg (by omega)]; exact h x hx'
  · rw [if_neg ht, if_neg ht]; exact h
end Go.Proofs.Ytnanjbhdledilaa.Mem
