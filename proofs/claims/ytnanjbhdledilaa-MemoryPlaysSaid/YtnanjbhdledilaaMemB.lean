/- Contracts, walked by hand: SetFloor, Alloc. -/
import Derived.Test.YtnanjbhdledilaaMemA
set_option linter.unusedVariables false
set_option linter.unusedSimpArgs false
namespace Go.Proofs.Ytnanjbhdledilaa.Mem
open Go Go.RowKit Go.Proofs.YtnanjbhdledilaaW.PrintWords Go.Proofs.YtnanjbhdledilaaW.PrintLast Go.Proofs.YtnanjbhdledilaaW.PrintMore
def Mem.setFloor (M : Mem) (a : Int) : Mem := if a < (M.h : Int) ∨ (M.n : Int) < a then M else { M.zero a.toNat M.f with f := a.toNat }
def Mem.setFloorE (M : Mem) (a : Int) : Int := if a < (M.h : Int) ∨ (M.n : Int) < a then 8 else 0
theorem zero_none {M : Mem} {a b : Nat} (h : b ≤ a) : M.zero a b = M := by
  cases M; unfold Mem.zero; congr 1; funext i; rw [if_neg (by omega)]
theorem clear_run (w : World) (g B : Nat) (M : Mem) (hI : IsMem w g B M) (a n c ty : Nat) (hn : 0 < n) (ha : a + n ≤ M.n) :
    (Builtin.clear_ #[38] ty #[.slice (some ⟨B, a, none⟩) n c]).run Try.prog w = .ok (.tuple #[]) (w.setCells B a (List.replicate n (.int .i64 0))) :=
  Go.Lib.run_clear_slice w 38 3 ty (.int .i64 0) (by kernel_rfl) (fun w => by rfl) rfl rfl B a n c hn (fun j hj => by rw [hI.cs _ (by omega)]; rfl) (fun j hj => hI.fB _)
/-- The run of clear, and where it leads. -/
theorem clear_to (w : World) (g B : Nat) (M : Mem) (hI : IsMem w g B M) (a n : Nat) (hn : 0 < n) (ha : a + n ≤ M.n) :
    ∃ W, (∀ c ty, (Builtin.clear_ #[38] ty #[.slice (some ⟨B, a, none⟩) n c]).run Try.prog w.drew = .ok (.tuple #[]) W) ∧ IsMem W g B (M.zero a (a + n)) ∧ Only g B w W :=
  ⟨_, fun c ty => clear_run _ g B M hI.drew a n c ty hn ha, hI.drew.zero a n ha, (Only.drew g B w).trans (Only.setCells g B B (.inr rfl) _ _ _)⟩
set_option maxHeartbeats 4000000 in
theorem setFloor_any (g B : Nat) (M : Mem) (ok : M.Ok) (a : Int) (w : World) (hI : IsMem w g B M) : Calls Try.prog 17 #[.pointer (some ⟨g, 0, none⟩), .int .i64 a] w fun e w' => e = .returned (.int .i64 (M.setFloorE a)) ∧ IsMem w' g B (M.setFloor a) ∧ Only g B w w' := by
  have c0 := hI.c0
  have c1 := hI.c1
  have c2 := hI.c2
  have f2 := hI.fg 2
  unfold Mem.setFloor Mem.setFloorE
  obtain ⟨o1, o2, o3, o4⟩ := ok
  by_cases h1 : a < (M.h : Int)
  · have d1 : decide (a < (M.h : Int)) = true := decide_eq_true h1
    rw [if_pos (.inl h1), if_pos (.inl h1)]
    replace hI := Aside0.mk hI
    clear h1
    go_enter Try.func17, Try.ntmps17
    go_wp2
    go_ret
    exact ⟨rfl, hI.out, Only.refl g B _⟩
  have d1 : decide (a < (M.h : Int)) = false := decide_eq_false h1
  by_cases h2 : (M.n : Int) < a
  · have d2 : decide ((M.n : Int) < a) = true := decide_eq_true h2
    rw [if_pos (.inr h2), if_pos (.inr h2)]
    replace hI := Aside0.mk hI
    clear h1 h2
    go_enter Try.func17, Try.ntmps17
    go_wp2
    go_ret
    exact ⟨rfl, hI.out, Only.refl g B _⟩
  have d2 : decide ((M.n : Int) < a) = false := decide_eq_false h2
  rw [if_neg (by omega), if_neg (by omega)]
  obtain ⟨k, rfl⟩ : ∃ k : Nat, a = k := ⟨a.toNat, by omega⟩
  rw [Int.toNat_natCast]
  replace d1 : decide (k < M.h) = false := decide_eq_false (by omega)
  replace d2 : decide (M.n < k) = false := decide_eq_false (by omega)
  by_cases h3 : k < M.f
  · have d3 : decide (k < M.f) = true := decide_eq_true h3
    obtain ⟨W3, hcl, hI3, hO3⟩ := clear_to w g B M hI k (M.f - k) (by omega) (by omega)
    rw [show k + (M.f - k) = M.f from by omega] at hI3
    have P : IsMem (W3.setCell ⟨g, 2, none⟩ (.int .i64 (k : Nat))) g B { M.zero k M.f with f := k } := hI3.floor k
    have O : Only g B w (W3.setCell ⟨g, 2, none⟩ (.int .i64 (k : Nat))) := hO3.trans (Only.setCell g B _ _ _ (.inl rfl))
    have e2 := hI3.c2
    have k2 := hI3.fg 2
    have l1 : k ≤ M.f := by omega
    have l2 : M.f ≤ M.n := by omega
    have hnk : (M.n = k) = False := eq_false (by omega)
    clear h1 h2 h3 hI hI3 hO3 o1 o2 o3 o4
    replace P := Aside0.mk P
    replace O := Aside0.mk O
    go_enter Try.func17, Try.ntmps17
    go_wp2
    go_still_tail 10, (by kernel_rfl)
    change wpList _ _ _ _ _ w.drew
    generalize w.drew = w2 at *
    go_wp2
    go_ret
    exact ⟨rfl, P.out, O.out⟩
  · have d3 : decide (k < M.f) = false := decide_eq_false h3
    have P : IsMem (w.setCell ⟨g, 2, none⟩ (.int .i64 (k : Nat))) g B { M.zero k M.f with f := k } := by rw [zero_none (by omega)]; exact hI.floor k
    clear h1 h2 h3 hI o1 o2 o3 o4
    replace P := Aside0.mk P
    go_enter Try.func17, Try.ntmps17
    go_wp2
    go_ret
    exact ⟨rfl, P.out, Only.setCell g B _ _ _ (.inl rfl)⟩
/-- What Alloc answers, and what it leaves. -/
def Mem.allocR (M : Mem) (n : Int) : Int × Int := if n < 0 then (0, 1) else if (M.f : Int) - M.h < n then (0, 9) else (M.h, 0)
def Mem.alloc (M : Mem) (n : Int) : Mem := if n < 0 then M else if (M.f : Int) - M.h < n then M else { M.zero M.h (M.h + n.toNat) with h := M.h + n.toNat }
theorem clear_none (w : World) (A : Option Addr) (c ty : Nat) : (Builtin.clear_ #[38] ty #[.slice A 0 c]).run Try.prog w = .ok (.tuple #[]) w := by
  cases A <;> simp [Builtin.clear_, run_underlying (show Try.prog.underlying 38 = some (.slice 3) by kernel_rfl)] <;> rfl
set_option maxHeartbeats 4000000 in
theorem alloc_any (g B : Nat) (M : Mem) (ok : M.Ok) (n : Int) (w : World) (hI : IsMem w g B M) : Calls Try.prog 14 #[.pointer (some ⟨g, 0, none⟩), .int .i64 n] w fun e w' => e = .returned (.tuple #[.int .i64 (M.allocR n).1, .int .i64 (M.allocR n).2]) ∧ IsMem w' g B (M.alloc n) ∧ Only g B w w' := by
  have c0 := hI.c0
  have c1 := hI.c1
  have c2 := hI.c2
  have f1 := hI.fg 1
  unfold Mem.alloc Mem.allocR
  obtain ⟨o1, o2, o3, o4⟩ := ok
  by_cases h1 : n < 0
  · have d1 : decide (n < 0) = true := decide_eq_true h1
    rw [if_pos h1, if_pos h1]
    replace hI := Aside0.mk hI
    clear h1
    go_enter Try.func14, Try.ntmps14
    go_wp2
    go_ret2
    exact ⟨rfl, hI.out, Only.refl g B _⟩
  rw [if_neg h1, if_neg h1]
  obtain ⟨k, rfl⟩ : ∃ k : Nat, n = k := ⟨n.toNat, by omega⟩
  have d1 : decide ((k : Int) < 0) = false := decide_eq_false h1
  have hw0 : wrap64 ((M.f : Int) - (M.h : Int)) = (M.f : Int) - (M.h : Int) := by unfold wrap64; omega
  by_cases h2 : (M.f : Int) - M.h < (k : Int)
  · have d2 : decide ((M.f : Int) - M.h < (k : Int)) = true := decide_eq_true h2
    rw [if_pos h2, if_pos h2]
    replace hI := Aside0.mk hI
    clear h1 h2
    go_enter Try.func14, Try.ntmps14
    go_wp2
    go_quiet (fail)
    go_wp2
    go_ret2
    exact ⟨rfl, hI.out.drewN _, Only.drewN g B w _⟩
  have d2 : decide ((M.f : Int) - M.h < (k : Int)) = false := decide_eq_false h2
  rw [if_neg h2, if_neg h2, Int.toNat_natCast]
  have hw1 : wrap64 ((M.h : Int) + (k : Int)) = ((M.h + k : Nat) : Int) := by unfold wrap64; omega
  have hbd : M.h + k ≤ M.f := by omega
  replace hI := Aside0.mk hI
  clear h1 h2
  go_enter Try.func14, Try.ntmps14
  go_wp2
  go_quiet (fail)
  go_wp2
  have hI1 : IsMem ((w.drewN nq).setCell ⟨g, 1, none⟩ (.int .i64 ((M.h : Int) + (k : Int)))) g B { M with h := M.h + k } := by
    have := (hI.out.drewN nq).heap (M.h + k)
    rw [Int.natCast_add] at this
    exact this
  have hO1 : Only g B w ((w.drewN nq).setCell ⟨g, 1, none⟩ (.int .i64 ((M.h : Int) + (k : Int)))) := (Only.drewN g B w nq).trans (Only.setCell g B _ _ _ (.inl rfl))
  generalize (w.drewN nq).setCell ⟨g, 1, none⟩ (.int .i64 ((M.h : Int) + (k : Int))) = W1 at hI1 hO1 ⊢
  have c0' : W1.cell? ⟨g, 0, none⟩ = some (.slice (some ⟨B, 0, none⟩) M.n M.n) := hI1.c0
  have c1' : W1.cell? ⟨g, 1, none⟩ = some (.int .i64 ((M.h : Int) + (k : Int))) := by rw [← Int.natCast_add]; exact hI1.c1
  have l1 : M.h ≤ M.h + k := by omega
  have l2 : M.h + k ≤ M.n := by omega
  have l3 : (M.h : Int) ≤ (M.h : Int) + (k : Int) := by omega
  have l4 : (M.h : Int) + (k : Int) ≤ (M.n : Int) := by omega
  by_cases hk : k = 0
  · have hI2 : IsMem W1.drew g B { M.zero M.h (M.h + k) with h := M.h + k } := by
      rw [zero_none (by omega)]; exact hI1.drew
    have hO2 := hO1.trans (Only.drew g B W1)
    replace hI2 := Aside0.mk hI2
    replace hO2 := Aside0.mk hO2
    have hcl : ∀ A c ty, (Builtin.clear_ #[38] ty #[.slice A (M.h + k - M.h) c]).run Try.prog W1.drew = .ok (.tuple #[]) W1.drew := by
      rw [show M.h + k - M.h = 0 from by omega]; exact fun A c ty => clear_none W1.drew A c ty
    clear hI hI1 hO1 c0 c1 c2 f1 hw0 hw1 o1 o2 o3 o4 hbd d1 d2
    have hclk : ∀ A c ty, (Builtin.clear_ #[38] ty #[.slice A k c]).run Try.prog W1.drew = .ok (.tuple #[]) W1.drew := by
      rw [hk]; exact fun A c ty => clear_none W1.drew A c ty
    clear hk
    by_cases hnh : M.n = M.h
    · replace hnh := eq_true hnh
      go_still_tail 10, (by kernel_rfl)
      change wpList _ _ _ _ _ W1.drew
      generalize W1.drew = w2 at *
      go_wp2
      try ((first | rw [hcl] | rw [hclk]); go_wp2)
      go_ret2
      exact ⟨rfl, hI2.out, hO2.out⟩
    · replace hnh := eq_false hnh
      go_still_tail 10, (by kernel_rfl)
      change wpList _ _ _ _ _ W1.drew
      generalize W1.drew = w2 at *
      go_wp2
      try ((first | rw [hcl] | rw [hclk]); go_wp2)
      go_ret2
      exact ⟨rfl, hI2.out, hO2.out⟩
  · obtain ⟨W3, hcl, hI3, hO3⟩ := clear_to W1 g B _ hI1 M.h k (by omega) l2
    replace hcl : ∀ c ty, (Builtin.clear_ #[38] ty #[.slice (some ⟨B, M.h, none⟩) (M.h + k - M.h) c]).run Try.prog W1.drew = .ok (.tuple #[]) W3 := by
      rw [show M.h + k - M.h = k from by omega]; exact hcl
    have hnk : (M.n = M.h) = False := eq_false (by omega)
    replace hI3 := Aside0.mk hI3
    have hO := Aside0.mk (hO1.trans hO3)
    clear hI hI1 hO1 hO3 c0 c1 c2 f1 hw0 hw1 o1 o2 o3 o4 hbd d1 d2
    go_still_tail 10, (by kernel_rfl)
    change wpList _ _ _ _ _ W1.drew
    generalize W1.drew = w2 at *
    go_wp2
    rw [hcl]
    go_wp2
    go_ret2
    exact ⟨rfl, hI3.out, hO.out⟩
end Go.Proofs.Ytnanjbhdledilaa.Mem
