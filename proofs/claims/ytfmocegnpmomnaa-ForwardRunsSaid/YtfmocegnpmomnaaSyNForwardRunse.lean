/- Texts of this work, joined: TrG, TrF, TrH, SyF65, SyF91, SyF92, SyF66, SyF39, SyF40, SyF48, SyF41, SyF42, SyF20, SyF44, SyF21, SyF7, ThZ, ThA, ThB, ThC. -/
import Derived.Test.YtfmocegnpmomnaaSyNForwardRunsd
set_option linter.unusedVariables false
set_option linter.unusedSimpArgs false
namespace Go.Proofs.Ytfmocegnpmomnaa.Sy
open Go Go.RowKit Go.Proofs.YtfmocegnpmomnaaW.PrintWords Go.Proofs.Ytfmocegnpmomnaa.SyO
/-- Two runners: the second has more fuel; the cells up to the heap's end are alike. -/
structure Rl (m : Int) (s u : Ts) : Prop where
  h : u.h = s.h
  i : u.i = s.i
  f : u.f = s.f + m
  d : u.d = s.d
  o : u.o = s.o
  ld : u.ld = s.ld
  st : u.st = s.st
  c : u.c = s.c
  m : ∀ k : Int, k < s.h → at? u.m k = at? s.m k
structure Ex (s u : Ts) : Prop where
  o : ∃ t, u.o = s.o ++ t
  ld : s.ld ≤ u.ld
  st : s.st ≤ u.st
theorem Ex.go {s u u' : Ts} {k : Int} (h : Ex s u) (g : Gs k u u') : Ex s u' := by
  obtain ⟨t, ht⟩ := h.o
  obtain ⟨q, hq⟩ := g.o
  exact ⟨⟨t ++ q, by rw [hq, ht, List.append_assoc]⟩, Int.le_trans h.ld g.ld, Int.le_trans h.st g.st⟩
theorem Rl.ex {m : Int} {s u : Ts} (h : Rl m s u) : Ex s u := ⟨⟨[], by rw [h.o]; simp⟩, by rw [h.ld]; exact Int.le_refl _, by rw [h.st]; exact Int.le_refl _⟩
/-- Why two runs part. -/
def Dv (fl fl' m e : Int) : Prop := (e = 12 ∧ 0 < m) ∨ (e = 9 ∧ fl < fl')
def RV (fl fl' m v e : Int) (s : Ts) (v' e' : Int) (u : Ts) : Prop := (v = v' ∧ e = e' ∧ Rl m s u) ∨ (Dv fl fl' m e ∧ Ex s u)
def CallR (l : List S45) (fl fl' m : Int) (n : Nat) : Prop := ∀ B s u t us, Iv B fl s → Iv (B + m) fl' u → Rl m s u → B + m ≤ 90000 → t ∈ l → (us.length : Int) = t.f0 → 3 * (1000 - s.d) + 1 ≤ (n : Int) → ∃ v e s' v' e' u', Cf n l fl s t us = some (tv v e s') ∧ Cf n l fl' u t us = some (tv v' e' u') ∧ RV fl fl' m v e s' v' e' u'
def BlockR (l : List S45) (fl fl' m : Int) (n : Nat) : Prop := ∀ B s u (z : Nat) b r, Iv B fl s → Iv (B + m) fl' u → Rl m s u → B + m ≤ 90000 → b.f0.length ≤ 250 → (∀ o ∈ b.f0, Oz z o ∧ Oc l o) → r.length = z + 1 → 3 * (1000 - s.d) + 3 ≤ (n : Int) → ∃ e s' r1 e' u' r2, Bf n l fl s b r = some (tb e s' r1) ∧ Bf n l fl' u b r = some (tb e' u' r2) ∧ ((e = e' ∧ r1 = r2 ∧ Rl m s' u') ∨ (Dv fl fl' m e ∧ Ex s' u'))
def ValueR (l : List S45) (fl fl' m : Int) (n : Nat) : Prop := ∀ B s u (z : Nat) o r, Iv B fl s → Iv (B + m) fl' u → Rl m s u → B + m ≤ 90000 → Oz z o → Oc l o → r.length = z + 1 → 3 * (1000 - s.d) + 2 ≤ (n : Int) → ∃ v e s' v' e' u', Vf n l fl s o r = some (tv v e s') ∧ Vf n l fl' u o r = some (tv v' e' u') ∧ RV fl fl' m v e s' v' e' u'
/-! #### An operation, by its kind -/
section
variable {n : Nat} {l : List S45} {fl : Int} {s : Ts} {o : S37} {r : List Int}
theorem v1 (h : o.f0 = 1) : Vf (n + 1) l fl s o r = some (tv o.f4 0 s) := by
  show trace_runner_value.g (trace_runner_call.fix n).1 (trace_runner_call.fix n).2.1 (trace_runner_call.fix n).2.2 l s.m s.h fl s.i s.f s.d s.o 0 s.ld s.st s.c o r = _
  unfold trace_runner_value.g; rw [if_pos h]
theorem v2 {y w k e : Int} (h : o.f0 = 2) (hy : at? r o.f2 = some y) (hw : at? r o.f3 = some w) (hk : word_Do.f o.f4 y w = some (k, e)) : Vf (n + 1) l fl s o r = some (tv k e s) := by
  show trace_runner_value.g (trace_runner_call.fix n).1 (trace_runner_call.fix n).2.1 (trace_runner_call.fix n).2.2 l s.m s.h fl s.i s.f s.d s.o 0 s.ld s.st s.c o r = _
  unfold trace_runner_value.g
  rw [if_neg (by omega), if_neg (by omega), if_pos h, hy, Option.bind_some, hw, Option.bind_some, hk, Option.bind_some]
theorem v3 {y : Int} (h : o.f0 = 3) (hy : at? r o.f2 = some y) : Vf (n + 1) l fl s o r = some (tv y 0 s) := by
  show trace_runner_value.g (trace_runner_call.fix n).1 (trace_runner_call.fix n).2.1 (trace_runner_call.fix n).2.2 l s.m s.h fl s.i s.f s.d s.o 0 s.ld s.st s.c o r = _
  unfold trace_runner_value.g
  rw [if_neg (by omega), if_pos h, hy, Option.bind_some]
theorem v4 {y v e : Int} (h : o.f0 = 4) (hy : at? r o.f2 = some y) (hv : memory_Memory_Load.f s.m s.h fl (IntKind.i64.wrap (y + o.f4)) = some (v, e)) : Vf (n + 1) l fl s o r = some (tv v e { s with ld := if e = 0 then IntKind.i64.wrap (s.ld + 1) else s.ld }) := by
  show trace_runner_value.g (trace_runner_call.fix n).1 (trace_runner_call.fix n).2.1 (trace_runner_call.fix n).2.2 l s.m s.h fl s.i s.f s.d s.o 0 s.ld s.st s.c o r = _
  unfold trace_runner_value.g
  rw [if_neg (by omega), if_neg (by omega), if_neg (by omega), if_neg (by omega), if_neg (by omega), if_neg (by omega)]
  unfold trace_runner_cells.f
  rw [if_pos h, hy, Option.bind_some, hv, Option.bind_some]
  simp only [jn]
  by_cases he : e = 0
  · rw [if_pos he, Option.bind_some, if_pos he]
  · rw [if_neg he, Option.bind_some, if_neg he]
theorem v5 {y w e : Int} {m' : List Int} (h : o.f0 = 5) (hy : at? r o.f2 = some y) (hw : at? r o.f3 = some w) (hv : memory_Memory_Store.f s.m s.h fl (IntKind.i64.wrap (y + o.f4)) w = some (e, m')) : Vf (n + 1) l fl s o r = some (tv 0 e { s with m := m', st := if e = 0 then IntKind.i64.wrap (s.st + 1) else s.st }) := by
  show trace_runner_value.g (trace_runner_call.fix n).1 (trace_runner_call.fix n).2.1 (trace_runner_call.fix n).2.2 l s.m s.h fl s.i s.f s.d s.o 0 s.ld s.st s.c o r = _
  unfold trace_runner_value.g
  rw [if_neg (by omega), if_neg (by omega), if_neg (by omega), if_neg (by omega), if_neg (by omega), if_neg (by omega)]
  unfold trace_runner_cells.f
  rw [if_neg (by omega), if_pos h, hy, Option.bind_some, hw, Option.bind_some, hv, Option.bind_some]
  simp only [jn]
  by_cases he : e = 0
  · rw [if_pos he, Option.bind_some, if_pos he]
  · rw [if_neg he, Option.bind_some, if_neg he]
theorem v6 {v e h' : Int} {m' : List Int} (h : o.f0 = 6) (hv : memory_Memory_Alloc.f s.m s.h fl o.f4 = some (v, e, m', h')) : Vf (n + 1) l fl s o r = some (tv v e { s with m := m', h := h', c := if e = 0 then IntKind.i64.wrap (s.c + o.f4) else s.c }) := by
  show trace_runner_value.g (trace_runner_call.fix n).1 (trace_runner_call.fix n).2.1 (trace_runner_call.fix n).2.2 l s.m s.h fl s.i s.f s.d s.o 0 s.ld s.st s.c o r = _
  unfold trace_runner_value.g
  rw [if_neg (by omega), if_neg (by omega), if_neg (by omega), if_neg (by omega), if_neg (by omega), if_neg (by omega)]
  unfold trace_runner_cells.f
  rw [if_neg (by omega), if_neg (by omega), hv, Option.bind_some]
  simp only [jn]
  by_cases he : e = 0
  · rw [if_pos he, Option.bind_some, if_pos he]
  · rw [if_neg he, Option.bind_some, if_neg he]
theorem v7 {g : S45} {us : List Int} {v e : Int} {s' : Ts} (h : o.f0 = 7) (hl : o.f5.length ≤ 20) (ha : trace_runner_value.l0 o r (o.f5.length + 1) (List.replicate (o.f5.length : Int).toNat (0 : Int)) 0 = some us) (hg : at? l o.f4 = some g) (hs : Cf n l fl s g us = some (tv v e s')) : Vf (n + 1) l fl s o r = some (tv v e s') := by
  show trace_runner_value.g (trace_runner_call.fix n).1 (trace_runner_call.fix n).2.1 (trace_runner_call.fix n).2.2 l s.m s.h fl s.i s.f s.d s.o 0 s.ld s.st s.c o r = _
  unfold trace_runner_value.g
  have hs1' : (trace_runner_call.fix n).1 l s.m s.h fl s.i s.f s.d s.o 0 s.ld s.st s.c g us = some (tv v e s') := hs
  rw [if_neg (by omega), if_neg (by omega), if_neg (by omega), if_neg (by omega), if_neg (by omega), if_pos h, if_pos (by omega), ha, Option.bind_some, hg, Option.bind_some, hs1', Option.bind_some]
theorem v8 (h : o.f0 = 8) (hi : (s.i.length : Int) = 0) : Vf (n + 1) l fl s o r = some (tv 0 10 s) := by
  show trace_runner_value.g (trace_runner_call.fix n).1 (trace_runner_call.fix n).2.1 (trace_runner_call.fix n).2.2 l s.m s.h fl s.i s.f s.d s.o 0 s.ld s.st s.c o r = _
  unfold trace_runner_value.g
  rw [if_neg (by omega), if_neg (by omega), if_neg (by omega), if_pos h]
  unfold trace_runner_read.f
  rw [if_pos hi, Option.bind_some]
theorem v8' {y : Int} {u : List Int} (h : o.f0 = 8) (hi : ¬ (s.i.length : Int) = 0) (hy : at? s.i 0 = some y) (hu : cut? s.i (1 : Int) (s.i.length : Int) = some u) : Vf (n + 1) l fl s o r = some (tv y 0 { s with i := u }) := by
  show trace_runner_value.g (trace_runner_call.fix n).1 (trace_runner_call.fix n).2.1 (trace_runner_call.fix n).2.2 l s.m s.h fl s.i s.f s.d s.o 0 s.ld s.st s.c o r = _
  unfold trace_runner_value.g
  rw [if_neg (by omega), if_neg (by omega), if_neg (by omega), if_pos h]
  unfold trace_runner_read.f
  rw [if_neg hi, hy, Option.bind_some, hu, Option.bind_some, Option.bind_some]
theorem v9 {y : Int} (h : o.f0 = 9) (hy : at? r o.f2 = some y) (hl : s.o.length < 17592186044416) : Vf (n + 1) l fl s o r = some (tv 0 0 { s with o := s.o ++ [y] }) := by
  show trace_runner_value.g (trace_runner_call.fix n).1 (trace_runner_call.fix n).2.1 (trace_runner_call.fix n).2.2 l s.m s.h fl s.i s.f s.d s.o 0 s.ld s.st s.c o r = _
  unfold trace_runner_value.g
  rw [if_neg (by omega), if_neg (by omega), if_neg (by omega), if_neg (by omega), if_pos h, hy, Option.bind_some, if_pos hl]
end
/-! #### Cells, twice -/
theorem there_eq {m : List Int} {h fl a : Int} (hm : (m.length : Int) = fl) (h2 : h ≤ fl) : memory_Memory_there.f m h fl a = some (decide (1 ≤ a ∧ a < h)) := by
  unfold memory_Memory_there.f
  by_cases h1 : 1 ≤ a
  · rw [if_pos h1]
    by_cases h3 : a < h
    · rw [if_pos h3]; simp [h1, h3]
    · rw [if_neg h3]
      by_cases h4 : fl ≤ a
      · rw [if_pos h4]; simp [h3]; omega
      · rw [if_neg h4]; simp [h3]
  · rw [if_neg h1]
    by_cases h4 : fl ≤ a
    · rw [if_pos h4]; simp [h1]; omega
    · rw [if_neg h4]; simp [h1]
theorem at_clr_lo {xs : List Int} {l h k : Int} (h0 : 0 ≤ l) (h1 : l ≤ (xs.length : Int)) (hk : k < l) : at? (clrL xs l h) k = at? xs k := by
  unfold at? clrL
  by_cases h2 : 0 ≤ k
  · rw [if_pos h2, if_pos h2, List.append_assoc, List.getElem?_append_left (by simp; omega), List.getElem?_take_of_lt (by omega)]
  · rw [if_neg h2, if_neg h2]
theorem alloc_no {m : List Int} {h fl k : Int} (h0 : 0 ≤ k) (h1 : 0 ≤ h) (h2 : h ≤ fl) (h3 : fl ≤ 1048576) (hk : fl - h < k) : memory_Memory_Alloc.f m h fl k = some (0, 9, m, h) := by
  unfold memory_Memory_Alloc.f
  rw [if_neg (by omega), w64 (n := fl - h) (by omega) (by omega), if_pos hk]
theorem alloc_yes {m : List Int} {h fl k : Int} (h0 : 0 ≤ k) (h1 : 0 ≤ h) (h2 : h ≤ fl) (h3 : fl ≤ 1048576) (hm : (m.length : Int) = fl) (hk : ¬ fl - h < k) : memory_Memory_Alloc.f m h fl k = some (h, 0, clrL m h (h + k), h + k) := by
  unfold memory_Memory_Alloc.f
  rw [if_neg (by omega), w64 (n := fl - h) (by omega) (by omega), w64 (n := h + k) (by omega) (by omega), if_neg hk, if_pos (by omega), Option.bind_some]
end Go.Proofs.Ytfmocegnpmomnaa.Sy
set_option linter.unusedVariables false
set_option linter.unusedSimpArgs false
namespace Go.Proofs.Ytfmocegnpmomnaa.Sy
open Go Go.RowKit Go.Proofs.YtfmocegnpmomnaaW.PrintWords Go.Proofs.Ytfmocegnpmomnaa.SyO
/-! #### Rows -/
theorem sleq (xs ys : List Int) (hl : xs.length ≤ 140737488355328) : slices_Equal_int_int.f xs ys = some (decide (xs = ys)) := by
  unfold slices_Equal_int_int.f
  by_cases hlen : xs.length = ys.length
  · rw [if_neg (by simp [hlen])]
    have hz : (xs.zip ys).length = xs.length := by rw [List.length_zip]; omega
    have := loopd (xs := xs.zip ys) (F := fun n i => slices_Equal_int_int.l0 xs ys n i) (P := fun ps r => r = some (if (∀ p ∈ ps, p.1 = p.2) then .inr () else .inl false)) (by omega) (fun n => by
        show slices_Equal_int_int.l0 xs ys (n + 1) ((xs.zip ys).length : Int) = _
        rw [slices_Equal_int_int.l0, hz, if_neg (by omega)]; simp) (fun n i p r hd hlt hat hm hw ih => by
        obtain ⟨a1, a2⟩ := at_zip hat
        show slices_Equal_int_int.l0 xs ys (n + 1) (i : Int) = _
        rw [slices_Equal_int_int.l0, if_pos (by omega), a1, a2]
        simp only [Option.bind_some, hw]
        by_cases hp : p.1 = p.2
        · rw [if_neg (by simp [hp])]
          have ih' : slices_Equal_int_int.l0 xs ys n ((i + 1 : Nat) : Int) = _ := ih
          rw [ih']; simp only [List.forall_mem_cons, hp, true_and]
        · rw [if_pos (by simp [hp])]; simp only [List.forall_mem_cons, hp, false_and, if_false]) (xs.length + 1) (by omega)
    have this' : slices_Equal_int_int.l0 xs ys (xs.length + 1) 0 = _ := this
    rw [this']
    have hza := zip_all hlen
    by_cases he : xs = ys
    · rw [if_pos (hza.2 he)]; simp [he]
    · rw [if_neg (fun h => he (hza.1 h))]; simp [he]
  · rw [if_pos (by simp; omega)]
    have : ¬ xs = ys := fun h => hlen (by rw [h])
    simp [this]
theorem same_s (a b : S28) (hl : a.f0.length ≤ 140737488355328) : trace_Same.f a b = some (decide (a.f1 = b.f1 ∧ a.f0 = b.f0)) := by
  unfold trace_Same.f
  by_cases h : a.f1 = b.f1
  · rw [if_pos h, sleq _ _ hl]; simp [h]
  · rw [if_neg h]; simp [h]
/-! #### Few -/
theorem suses_f {o : S37} (hl : o.f5.length ≤ 20) : ∃ u, swageref14_Uses.f o = some u ∧ u.length ≤ 20 := by
  unfold swageref14_Uses.f
  simp only [jn]
  repeat' split
  all_goals first | (refine ⟨_, rfl, ?_⟩; first | exact hl | (simp; done)) | (exfalso; simp at *; omega)
theorem ssets_f (o : S37) : ∃ u, swageref14_Sets.f o = some u := by
  unfold swageref14_Sets.f
  simp only [jn]
  repeat' split
  all_goals exact ⟨_, rfl⟩
theorem stuses_f (t : S40) : ∃ u, swageref14_TermUses.f t = some u ∧ u.length ≤ 20 := by
  unfold swageref14_TermUses.f
  simp only [jn]
  repeat' split
  all_goals exact ⟨_, rfl, by simp⟩
theorem sreg_l3 {u : List Int} (hl : u.length ≤ 20) (x : Int) : ∃ z, swageref14_Regs.l3 u (u.length + 1) x 0 = some z := by
  have := loopd (xs := u) (F := fun n i w => swageref14_Regs.l3 u n w i) (P := fun _ f => ∀ w : Int, ∃ z, f w = some z) (by omega) (fun n w => ⟨w, by simp [swageref14_Regs.l3]⟩) (fun n i y r hd hlt hat hm hw ih w => by
    show ∃ z, swageref14_Regs.l3 u (n + 1) w i = some z
    rw [swageref14_Regs.l3, if_pos hlt, hat, Option.bind_some, hw]; exact ih _) (u.length + 1) (by omega)
  exact this x
theorem sreg_l2 {u : List Int} (hl : u.length ≤ 20) (x : Int) : ∃ z, swageref14_Regs.l2 u (u.length + 1) x 0 = some z := by
  have := loopd (xs := u) (F := fun n i w => swageref14_Regs.l2 u n w i) (P := fun _ f => ∀ w : Int, ∃ z, f w = some z) (by omega) (fun n w => ⟨w, by simp [swageref14_Regs.l2]⟩) (fun n i y r hd hlt hat hm hw ih w => by
    show ∃ z, swageref14_Regs.l2 u (n + 1) w i = some z
    rw [swageref14_Regs.l2, if_pos hlt, hat, Option.bind_some, hw]; exact ih _) (u.length + 1) (by omega)
  exact this x
theorem sreg_l1 {t : S45} {x : Int} {y : S42} (hy : at? t.f1 x = some y) (hl : y.f0.length ≤ 250) (ho : ∀ o ∈ y.f0, o.f5.length ≤ 20) (x0 : Int) : ∃ z, swageref14_Regs.l1 t x (y.f0.length + 1) x0 0 = some z := by
  have := loopd (xs := y.f0) (F := fun n i w => swageref14_Regs.l1 t x n w i) (P := fun _ f => ∀ w : Int, ∃ z, f w = some z) (by omega) (fun n w => ⟨w, by simp [swageref14_Regs.l1, hy]⟩) (fun n i o r hd hlt hat hm hw ih w => by
    obtain ⟨u, u1, u2⟩ := suses_f (ho o hm)
    obtain ⟨s, s1⟩ := ssets_f o
    show ∃ z, swageref14_Regs.l1 t x (n + 1) w i = some z
    obtain ⟨v, hv⟩ := sreg_l3 u2 (if w < s then s else w)
    rw [swageref14_Regs.l1, hy, Option.bind_some, if_pos hlt, hat, Option.bind_some, s1, Option.bind_some, u1, Option.bind_some, hv, Option.bind_some, hw]; exact ih _) (y.f0.length + 1) (by omega)
  exact this x0
theorem sreg_f {t : S45} (h : Fewp t) : ∃ z, swageref14_Regs.f t = some z := by
  obtain ⟨f1, f2, f3⟩ := h
  have := loopd (xs := t.f1) (F := fun n i w => swageref14_Regs.l0 t n w i) (P := fun _ f => ∀ w : Int, ∃ z, f w = some z) (by omega) (fun n w => ⟨w, by simp [swageref14_Regs.l0]⟩) (fun n i y r hd hlt hat hm hw ih w => by
    obtain ⟨v, hv⟩ := sreg_l1 hat (f3 y hm).1 (f3 y hm).2 w
    obtain ⟨u, u1, u2⟩ := stuses_f y.f1
    obtain ⟨q, hq⟩ := sreg_l2 u2 v
    show ∃ z, swageref14_Regs.l0 t (n + 1) w i = some z
    rw [swageref14_Regs.l0, if_pos hlt, hat]
    simp only [Option.elim_some]
    rw [hv, Option.bind_some, Option.bind_some, u1, Option.bind_some, hq, Option.bind_some, hw]; exact ih _) (t.f1.length + 1) (by omega)
  obtain ⟨z, hz⟩ := this (if t.f0 < 0 then 0 else t.f0)
  unfold swageref14_Regs.f
  have hz' : swageref14_Regs.l0 t (t.f1.length + 1) (if t.f0 < 0 then 0 else t.f0) 0 = some z := hz
  rw [hz']; exact ⟨_, rfl⟩
theorem few15 {l : List S45} (h : l.length * 32 ≤ 140737488351232 ∧ ∀ y ∈ l, ok45 y) : ∃ b, swagelaw15_Few.f l = some b ∧ (b = true → l.length ≤ 8 ∧ ∀ t ∈ l, Fewp t) := by
  have h0 : ∃ r, swagelaw15_Few.l0 l (l.length + 1) 0 = some r ∧ (r = .inl false ∨ (r = .inr () ∧ (l.length ≤ 20 → ∀ t ∈ l, Fewp t))) := by
    refine loopd (xs := l) (F := fun n i => swagelaw15_Few.l0 l n i) (P := fun ts f => ∃ r, f = some r ∧ (r = .inl false ∨ (r = .inr () ∧ (l.length ≤ 20 → ∀ t ∈ ts, Fewp t)))) (by have := h.1; omega) (fun n => ⟨.inr (), by simp [swagelaw15_Few.l0, jn], .inr ⟨rfl, by simp⟩⟩) (fun n i t r hd hlt hat hm hw ih => ?_) (l.length + 1) (by omega)
    show ∃ r, swagelaw15_Few.l0 l (n + 1) i = some r ∧ _
    obtain ⟨b, b1, b2⟩ := few_f (h.2 t hm)
    rw [swagelaw15_Few.l0]
    simp only [jn]
    rw [if_pos hlt]
    by_cases h20 : (i : Int) < 20
    · rw [if_pos (by simpa using h20), hat, Option.bind_some, b1, Option.bind_some]
      cases b with
      | false => exact ⟨.inl false, by simp, .inl rfl⟩
      | true =>
        obtain ⟨z, hz⟩ := sreg_f (b2 rfl)
        rw [if_neg (by simp), hz, Option.bind_some, hw]
        by_cases h60 : 60 < z
        · exact ⟨.inl false, by simp [h60], .inl rfl⟩
        · obtain ⟨q, q1, q2⟩ := ih
          refine ⟨q, by simp only [h60, decide_false, Bool.false_eq_true, if_false]; exact q1, ?_⟩
          rcases q2 with q2 | ⟨q2, q3⟩
          · exact .inl q2
          · refine .inr ⟨q2, fun hl u hu => ?_⟩
            rcases List.mem_cons.1 hu with rfl | hu
            · exact b2 rfl
            · exact q3 hl u hu
    · rw [if_neg (by simpa using h20)]
      exact ⟨.inr (), rfl, .inr ⟨rfl, fun hl => by omega⟩⟩
  obtain ⟨r, r1, r2⟩ := h0
  unfold swagelaw15_Few.f
  rw [r1, Option.bind_some]
  rcases r2 with rfl | ⟨rfl, r3⟩
  · exact ⟨false, rfl, fun h => by cases h⟩
  · exact ⟨decide ((l.length : Int) ≤ 8), rfl, fun h => by have := of_decide_eq_true h; exact ⟨by omega, r3 (by omega)⟩⟩
/-! #### Programs -/
def okProg (l : List S45) : Bool := l.all fun t => okFn t l.length && (t.f1.all fun y => y.f0.all fun o => okCall l o)
theorem prog_f {l : List S45} (h8 : l.length ≤ 8) (hf : ∀ t ∈ l, Fewp t) : ∃ b, code_Program.f l = some b ∧ (b = true → okProg l = true ∧ ∃ t, at? l 0 = some t ∧ t.f0 = 0) := by
  have h0 : code_Program.l0 l (l.length + 1) 0 = some (if okProg l then .inr () else .inl false) := by
    refine loopd (xs := l) (F := fun n i => code_Program.l0 l n i) (P := fun ts f => f = some (if (ts.all fun t => okFn t l.length && (t.f1.all fun y => y.f0.all fun o => okCall l o)) then .inr () else .inl false)) (by omega) (fun n => by simp [code_Program.l0]) (fun n i t r hd hlt hat hm hw ih => ?_) (l.length + 1) (by omega)
    rw [code_Program.l0, if_pos hlt, hat, Option.bind_some, cright_f (by omega) (by omega) (hf t hm), Option.bind_some]
    cases hr : okFn t (l.length : Int) with
    | false => rw [if_pos (by simp)]; simp [hr]
    | true =>
      rw [if_neg (by simp), cprog_l1 (hf t hm) hr, Option.bind_some, hw]
      cases hc : (t.f1.all fun y => y.f0.all fun o => okCall l o) with
      | false => simp [hr, hc]
      | true =>
        simp only [if_true, List.all_cons, hr, hc, Bool.true_and]
        exact ih
  unfold code_Program.f
  simp only [jn, within_f, Option.bind_some]
  by_cases hl : 1 ≤ (l.length : Int) ∧ (l.length : Int) ≤ 256
  · obtain ⟨t, ht⟩ := at_ok (r := l) (i := 0) (by omega) (by omega)
    rw [decide_eq_true hl, if_neg (by simp), ht, Option.bind_some]
    by_cases ht0 : t.f0 = 0
    · rw [if_neg (by simp [ht0]), h0, Option.bind_some]
      cases hp : okProg l with
      | false => exact ⟨false, rfl, fun h => by cases h⟩
      | true => exact ⟨true, rfl, fun _ => ⟨rfl, t, rfl, ht0⟩⟩
    · rw [if_pos (by simp [ht0])]; exact ⟨false, rfl, fun h => by cases h⟩
  · rw [decide_eq_false hl, if_pos (by simp)]; exact ⟨false, rfl, fun h => by cases h⟩
theorem wp_of {l : List S45} (h8 : l.length ≤ 8) (hf : ∀ t ∈ l, Fewp t) (hp : okProg l = true) : Wp l := by
  have hk : ∀ t ∈ l, okFn t l.length = true ∧ (∀ y ∈ t.f1, ∀ o ∈ y.f0, okCall l o = true) := fun t ht => by
    have := List.all_eq_true.1 hp t ht
    obtain ⟨h1, h2⟩ := (Bool.and_eq_true _ _).mp this
    exact ⟨h1, fun y hy o ho => List.all_eq_true.1 (List.all_eq_true.1 h2 y hy) o ho⟩
  refine ⟨fun t ht => ?_, fun t ht y hy => ⟨((hf t ht).2.2 y hy).1, fun o ho => ?_⟩⟩
  · obtain ⟨b, b1, b2⟩ := right_f (hf t ht) (l.length : Int)
    rw [cright_f (by omega) (by omega) (hf t ht), (hk t ht).1] at b1
    exact regs_full (hf t ht) (b2 (Option.some.inj b1).symm)
  · have hfn := (hk t ht).1
    unfold okFn at hfn
    obtain ⟨_, hr⟩ := (Bool.and_eq_true _ _).mp hfn
    have hop := List.all_eq_true.1 (List.all_eq_true.1 hr y hy) o ho
    refine ⟨fun h7 => ?_, fun h6 => ?_⟩
    · obtain ⟨g, hg⟩ := call_at hop h7
      have := (hk t ht).2 y hy o ho
      unfold okCall at this
      rw [if_pos h7, hg] at this
      exact ⟨g, hg, of_decide_eq_true this⟩
    · unfold okOp at hop
      simp only [h6] at hop
      simp at hop
      omega
/-! #### Runs -/
/-- What a runner holds at first. -/
abbrev ts0 (a1 : Int) (a2 : List Int) (a3 : Int) : Ts := ⟨List.replicate a1.toNat (0 : Int), 1, a2, a3, 0, [], 0, 0, 0⟩
abbrev none28 : S28 := ⟨[], 0, 0, 0, 0⟩
theorem run_f {l : List S45} (h8 : l.length ≤ 8) (hf : ∀ t ∈ l, Fewp t) : (∀ a1 a2 a3, 1 ≤ a1 → a1 ≤ 4096 → trace_Run.f l a1 a2 a3 = some (none28, 1)) ∨ (Wp l ∧ ∃ t, t ∈ l ∧ t.f0 = 0 ∧ ∀ a1 a2 a3, 1 ≤ a1 → a1 ≤ 4096 → ∀ v e s', Cf 100000 l a1 (ts0 a1 a2 a3) t [] = some (tv v e s') → trace_Run.f l a1 a2 a3 = some (⟨s'.o, e, s'.ld, s'.st, s'.c⟩, 0)) := by
  obtain ⟨b, b1, b2⟩ := prog_f h8 hf
  cases b with
  | false =>
    refine .inl fun a1 a2 a3 h1 h2 => ?_
    unfold trace_Run.f
    simp only [jn]
    rw [if_neg (by omega), if_neg (by simp; omega), if_pos (by omega), b1]; rfl
  | true =>
    obtain ⟨hp, t, ht, ht0⟩ := b2 rfl
    refine .inr ⟨wp_of h8 hf hp, t, at_mem ht, ht0, fun a1 a2 a3 h1 h2 v e s' hs => ?_⟩
    have hs' : trace_runner_call.f l (List.replicate a1.toNat (0 : Int)) 1 a1 a2 a3 0 ([] : List Int) 0 0 0 0 t ([] : List Int) = some (tv v e s') := hs
    unfold trace_Run.f
    simp only [jn]
    rw [if_neg (by omega), if_neg (by simp; omega), if_pos (by omega), b1, Option.bind_some, if_neg (by simp), ht, Option.bind_some, hs']; rfl
theorem iv0 {a1 a3 : Int} {a2 : List Int} (h1 : 1 ≤ a1) (h2 : a1 ≤ 4096) (h3 : 0 ≤ a3) : Iv a3 a1 (ts0 a1 a2 a3) :=
  ⟨h3, Int.le_refl _, by show (0 : Int) ≤ 1000; omega, by show ((List.replicate a1.toNat (0 : Int)).length : Int) = a1; rw [List.length_replicate]; omega, Int.le_refl _, h1, by omega, rfl, Int.le_refl _, Int.le_refl _, by show (([] : List Int).length : Int) + 0 + 0 + a3 ≤ a3; simp⟩
end Go.Proofs.Ytfmocegnpmomnaa.Sy
set_option linter.unusedVariables false
set_option linter.unusedSimpArgs false
namespace Go.Proofs.Ytfmocegnpmomnaa.Sy
open Go Go.RowKit Go.Proofs.YtfmocegnpmomnaaW.PrintWords Go.Proofs.Ytfmocegnpmomnaa.SyO
theorem tv_inj {v e v' e' : Int} {s s' : Ts} (h : (some (tv v e s) : Option _) = some (tv v' e' s')) : v = v' ∧ e = e' ∧ s = s' := by
  obtain ⟨⟩ := s; obtain ⟨⟩ := s'
  simp only [tv, Option.some.injEq, Prod.mk.injEq] at h
  obtain ⟨rfl, rfl, rfl, rfl, rfl, rfl, rfl, rfl, rfl, rfl, rfl⟩ := h
  exact ⟨rfl, rfl, rfl⟩
abbrev Bl (n : Nat) (l : List S45) (fl : Int) (b : S42) (N : Nat) (i : Int) (s : Ts) (r : List Int) := trace_runner_block.l0 (trace_runner_call.fix n).2.2 l fl 0 b N r i s.i s.f s.d s.o s.ld s.st s.c s.m s.h
section
variable {n : Nat} {l : List S45} {fl : Int} {b : S42} {N : Nat} {i : Int} {s : Ts} {r : List Int} {o : S37}
theorem b_lo (hlt : i < (b.f0.length : Int)) (hat : at? b.f0 i = some o) (hf : s.f < 1) : Bl n l fl b (N + 1) i s r = some (.inl (tb 12 s r)) := by
  show trace_runner_block.l0 (trace_runner_call.fix n).2.2 l fl 0 b (N + 1) r i s.i s.f s.d s.o s.ld s.st s.c s.m s.h = _
  rw [trace_runner_block.l0, if_pos hlt, hat, Option.bind_some, pay_lo hf, Option.bind_some, if_pos (show (!decide ((12 : Int) = 0)) = true by decide)]
theorem b_hi {v e : Int} {s' : Ts} (hlt : i < (b.f0.length : Int)) (hat : at? b.f0 i = some o) (hf : ¬ s.f < 1) (h1 : s.f ≤ 100000) (hv : Vf n l fl (less s) o r = some (tv v e s')) (he : ¬ e = 0) : Bl n l fl b (N + 1) i s r = some (.inl (tb e s' r)) := by
  show trace_runner_block.l0 (trace_runner_call.fix n).2.2 l fl 0 b (N + 1) r i s.i s.f s.d s.o s.ld s.st s.c s.m s.h = _
  have e1' : (trace_runner_call.fix n).2.2 l s.m s.h fl s.i (s.f - 1) s.d s.o 0 s.ld s.st s.c o r = some (tv v e s') := hv
  rw [trace_runner_block.l0, if_pos hlt, hat, Option.bind_some, pay_hi hf h1, Option.bind_some, if_neg (show ¬ (!decide ((0 : Int) = 0)) = true by decide), e1', Option.bind_some]
  simp only [jn]
  rw [if_pos (by simp [he])]
theorem b_go {v : Int} {s' : Ts} (hlt : i < (b.f0.length : Int)) (hat : at? b.f0 i = some o) (hw : IntKind.i64.wrap (i + 1) = i + 1) (hf : ¬ s.f < 1) (h1 : s.f ≤ 100000) (hv : Vf n l fl (less s) o r = some (tv v 0 s')) (ho : 0 ≤ o.f1) (ho1 : o.f1 < (r.length : Int)) : Bl n l fl b (N + 1) i s r = Bl n l fl b N (i + 1) s' (if o.f1 = 0 then r else r.set o.f1.toNat v) := by
  show trace_runner_block.l0 (trace_runner_call.fix n).2.2 l fl 0 b (N + 1) r i s.i s.f s.d s.o s.ld s.st s.c s.m s.h = trace_runner_block.l0 (trace_runner_call.fix n).2.2 l fl 0 b N _ (i + 1) s'.i s'.f s'.d s'.o s'.ld s'.st s'.c s'.m s'.h
  have e1' : (trace_runner_call.fix n).2.2 l s.m s.h fl s.i (s.f - 1) s.d s.o 0 s.ld s.st s.c o r = some (tv v 0 s') := hv
  rw [trace_runner_block.l0, if_pos hlt, hat, Option.bind_some, pay_hi hf h1, Option.bind_some, if_neg (show ¬ (!decide ((0 : Int) = 0)) = true by decide), e1', Option.bind_some]
  simp only [jn]
  rw [if_neg (show ¬ (!decide True) = true by decide), hw]
  by_cases h0 : o.f1 = 0
  · rw [if_neg (by simp [h0]), if_pos h0]
  · obtain ⟨y, hy⟩ := at_ok (r := r) (i := o.f1) ho ho1
    rw [if_pos (by simp [h0]), hy, Option.bind_some, if_neg h0]
end
/-- What a block's loop comes to. -/
def BO (B fl : Int) (z : Nat) (s : Ts) (q : Option (Sum (Int × List Int × Int × List Int × Int × Int × List Int × Int × Int × Int × List Int) (List Int × Int × Int × List Int × Int × Int × Int × List Int × Int × List Int))) : Prop :=
  (∃ e s' r', ¬ e = 0 ∧ q = some (.inl (tb e s' r')) ∧ Iv B fl s' ∧ Gs 0 s s' ∧ r'.length = z + 1) ∨ (∃ s' r', q = some (.inr (tr s' r')) ∧ Iv B fl s' ∧ Gs 0 s s' ∧ r'.length = z + 1)
theorem BO.after {B fl : Int} {z : Nat} {s s1 : Ts} {q} (h : BO B fl z s1 q) (g : Gs 0 s s1) : BO B fl z s q := by
  rcases h with ⟨e, s', r', a, b, c, d, f⟩ | ⟨s', r', b, c, d, f⟩
  · exact .inl ⟨e, s', r', a, b, c, g.trans d, f⟩
  · exact .inr ⟨s', r', b, c, g.trans d, f⟩
/-- What two block loops come to. -/
def BR (fl fl' m B d : Int) (z : Nat) (q q' : Option (Sum (Int × List Int × Int × List Int × Int × Int × List Int × Int × Int × Int × List Int) (List Int × Int × Int × List Int × Int × Int × Int × List Int × Int × List Int))) : Prop :=
  (∃ e s' u' r', ¬ e = 0 ∧ q = some (.inl (tb e s' r')) ∧ q' = some (.inl (tb e u' r')) ∧ Rl m s' u') ∨
  (∃ e s' r' u', Dv fl fl' m e ∧ q = some (.inl (tb e s' r')) ∧ Ex s' u' ∧ BO (B + m) fl' z u' q') ∨
  (∃ s' u' r', q = some (.inr (tr s' r')) ∧ q' = some (.inr (tr u' r')) ∧ Rl m s' u' ∧ Iv B fl s' ∧ Iv (B + m) fl' u' ∧ s'.d = d)
theorem Rl.less {m : Int} {s u : Ts} (h : Rl m s u) : Rl m (less s) (less u) := { h with f := by show u.f - 1 = s.f - 1 + m; have := h.f; omega }
section
variable {n : Nat} {l : List S45} {fl : Int} {b : S42} {s : Ts} {r : List Int}
theorem bf_l {e : Int} {s' : Ts} {r' : List Int} (h : Bl n l fl b (b.f0.length + 1) 0 s r = some (.inl (tb e s' r'))) : Bf (n + 1) l fl s b r = some (tb e s' r') := by
  show trace_runner_block.g (trace_runner_call.fix n).1 (trace_runner_call.fix n).2.1 (trace_runner_call.fix n).2.2 l s.m s.h fl s.i s.f s.d s.o 0 s.ld s.st s.c b r = _
  unfold trace_runner_block.g
  have h' : trace_runner_block.l0 (trace_runner_call.fix n).2.2 l fl 0 b (b.f0.length + 1) r 0 s.i s.f s.d s.o s.ld s.st s.c s.m s.h = _ := h
  rw [h', Option.bind_some]
theorem bf_lo {s' : Ts} {r' : List Int} (h : Bl n l fl b (b.f0.length + 1) 0 s r = some (.inr (tr s' r'))) (hf : s'.f < 1) : Bf (n + 1) l fl s b r = some (tb 12 s' r') := by
  show trace_runner_block.g (trace_runner_call.fix n).1 (trace_runner_call.fix n).2.1 (trace_runner_call.fix n).2.2 l s.m s.h fl s.i s.f s.d s.o 0 s.ld s.st s.c b r = _
  unfold trace_runner_block.g
  have h' : trace_runner_block.l0 (trace_runner_call.fix n).2.2 l fl 0 b (b.f0.length + 1) r 0 s.i s.f s.d s.o s.ld s.st s.c s.m s.h = _ := h
  rw [h', Option.bind_some]
  simp only []
  rw [pay_lo hf, Option.bind_some]
theorem bf_hi {s' : Ts} {r' : List Int} (h : Bl n l fl b (b.f0.length + 1) 0 s r = some (.inr (tr s' r'))) (hf : ¬ s'.f < 1) (h1 : s'.f ≤ 100000) : Bf (n + 1) l fl s b r = some (tb 0 (less s') r') := by
  show trace_runner_block.g (trace_runner_call.fix n).1 (trace_runner_call.fix n).2.1 (trace_runner_call.fix n).2.2 l s.m s.h fl s.i s.f s.d s.o 0 s.ld s.st s.c b r = _
  unfold trace_runner_block.g
  have h' : trace_runner_block.l0 (trace_runner_call.fix n).2.2 l fl 0 b (b.f0.length + 1) r 0 s.i s.f s.d s.o s.ld s.st s.c s.m s.h = _ := h
  rw [h', Option.bind_some]
  simp only []
  rw [pay_hi hf h1, Option.bind_some]
end
abbrev Kl (n : Nat) (l : List S45) (fl : Int) (t : S45) (N : Nat) (x : Int) (s : Ts) (r : List Int) := trace_runner_call.l0 (trace_runner_call.fix n).2.1 l fl 0 t N r x s.i s.f s.d s.o s.ld s.st s.c s.m s.h
section
variable {n : Nat} {l : List S45} {fl : Int} {t : S45} {N : Nat} {x : Int} {s s' : Ts} {r r' : List Int} {y : S42} {e : Int}
theorem c_err (hy : at? t.f1 x = some y) (hb : Bf n l fl s y r = some (tb e s' r')) (he : ¬ e = 0) : Kl n l fl t (N + 1) x s r = some (tv 0 e (back s')) := by
  show trace_runner_call.l0 (trace_runner_call.fix n).2.1 l fl 0 t (N + 1) r x s.i s.f s.d s.o s.ld s.st s.c s.m s.h = _
  have q1' : (trace_runner_call.fix n).2.1 l s.m s.h fl s.i s.f s.d s.o 0 s.ld s.st s.c y r = some (tb e s' r') := hb
  rw [trace_runner_call.l0, hy, Option.bind_some, q1', Option.bind_some]
  simp only [jn]
  rw [if_pos (by simp [he])]
end
theorem Ex.back {s u : Ts} (h : Ex s u) : Ex (back s) (back u) := ⟨h.o, h.ld, h.st⟩
theorem Rl.back {m : Int} {s u : Ts} (h : Rl m s u) : Rl m (back s) (back u) := { h with d := by show IntKind.i64.wrap (u.d - 1) = IntKind.i64.wrap (s.d - 1); rw [h.d] }
theorem cf_hi {l : List S45} {fl : Int} {n : Nat} {s : Ts} {t : S45} {us : List Int} (hd : 1000 ≤ s.d) : Cf (n + 1) l fl s t us = some (tv 0 8 s) := by
  show trace_runner_call.g (trace_runner_call.fix n).1 (trace_runner_call.fix n).2.1 (trace_runner_call.fix n).2.2 l s.m s.h fl s.i s.f s.d s.o 0 s.ld s.st s.c t us = _
  unfold trace_runner_call.g
  rw [if_pos hd]
abbrev rg (z : Nat) (us : List Int) : List Int := cpyL (List.replicate ((z : Int) + 1).toNat (0 : Int)) 1 (((z : Int) + 1).toNat : Int) us
theorem rg_len (z : Nat) (us : List Int) : (rg z us).length = z + 1 := by
  have := cpy_len (xs := List.replicate ((z : Int) + 1).toNat (0 : Int)) (ys := us) (l := 1) (by omega) (by simp; omega)
  rw [List.length_replicate] at this
  show (cpyL (List.replicate ((z : Int) + 1).toNat (0 : Int)) 1 (((z : Int) + 1).toNat : Int) us).length = _
  rw [this]; omega
theorem cf_lo {l : List S45} {fl : Int} {n z : Nat} {s : Ts} {t : S45} {us : List Int} (hd0 : 0 ≤ s.d) (hd : ¬ 1000 ≤ s.d) (hz : Fz z t) {v e : Int} {s' : Ts} (h : Kl n l fl t 100000 0 { s with d := s.d + 1 } (rg z us) = some (tv v e s')) : Cf (n + 1) l fl s t us = some (tv v e s') := by
  show trace_runner_call.g (trace_runner_call.fix n).1 (trace_runner_call.fix n).2.1 (trace_runner_call.fix n).2.2 l s.m s.h fl s.i s.f s.d s.o 0 s.ld s.st s.c t us = _
  unfold trace_runner_call.g
  have hle := hz.le
  rw [if_neg hd, hz.regs, Option.bind_some, w64 (n := (z : Int) + 1) (by omega) (by omega), if_pos (by omega), List.length_replicate, if_pos (by omega), Option.bind_some, w64 (n := s.d + 1) (by omega) (by omega)]
  have h' : trace_runner_call.l0 (trace_runner_call.fix n).2.1 l fl 0 t 100000 (cpyL (List.replicate ((z : Int) + 1).toNat (0 : Int)) 1 (((z : Int) + 1).toNat : Int) us) 0 s.i s.f (s.d + 1) s.o s.ld s.st s.c s.m s.h = some (tv v e s') := h
  rw [h', Option.bind_some]
end Go.Proofs.Ytfmocegnpmomnaa.Sy
set_option linter.unusedVariables false
set_option linter.unusedSimpArgs false
set_option maxRecDepth 100000
set_option maxHeartbeats 4000000
namespace Go.Proofs.Ytfmocegnpmomnaa.Sy
open Go Go.RowKit Go.Proofs.YtfmocegnpmomnaaW.PrintWords 
def slices_Clone_int_int.f (a0:(List Int)):Option (List Int):=(if ([]:List Int).length + a0.length ≤ 17592186044416 then some (([]:List Int) ++ a0) else none)
def slices_Clone_int_int.post (G:Gd)  (r:(List Int)) (v:Value) (G':Gd) (Lr:List Ch):Prop:=G=G'∧∃ (A_1:Option Addr) (c_1:Nat),v=.slice A_1 r.length c_1∧Lr=[Row kI 3 (.slice A_1 r.length c_1) r]
theorem slices_Clone_int_int.calls {G:Gd} {r:(List Int)} {a0:(List Int)} {A1:Option Addr} {c2:Nat} (hr3:Rd G kI A1 a0) (hl4:a0.length ≤ c2) (h:slices_Clone_int_int.f a0=some r):Fn Try.prog 65 G [] [.slice A1 a0.length c2] (slices_Clone_int_int.post G  r):=by
 refine Fn.intro (e:=[(0,.slice A1 a0.length c2)]) 8 Try.func65 rfl Try.ntmps65 rfl rfl (Nat.le_of_ble_eq_true rfl) (fun L=>?_)
 unfold slices_Clone_int_int.f at h
 refine TC.seq ?_
 refine TC.region ?_
 refine TV rfl rfl rfl (Val.assign rfl) ?_
 refine TL.nil ?_
 refine TQ.then_ ?_
 refine TC.seq ?_
 refine TC.seq ?_
 refine TC.region ?_
 refine TV rfl rfl rfl (Val.move rfl) ?_
 refine TV rfl rfl rfl (Val.eqNil Try.underlying23 rfl) ?_
 refine TL.nil ?_
 refine TQ.then_ ?_
 refine TC.cond rfl (fun hc6=>?_) (fun hc6=>?_)
 ·
  have hn:=Rd.nilEq hr3 hc6
  have h:some ([]:List Int)=some r:=by first | (simpa [hn] using h) | (simp [hn] at h; simp [h,hn])
  refine TC.seq ?_
  refine TC.region ?_
  refine TV rfl rfl rfl (Val.assign rfl) ?_
  refine TL.nil ?_
  refine TQ.then_ ?_
  refine TC.ret ?_
  refine TQ.thenR ?_
  refine TQ.nilRow kI 3 ?_
  obtain rfl:=Option.some.inj h
  exact TQ.fin (.inl rfl) rfl Try.results65 (.tmp rfl .nil) rfl (FRel.mk (Ls:=[Row kI 3 (.slice none 0 0) ([]:List Int)]) [0] 1 (Gd.le.refl _) rfl rfl rfl ⟨rfl,none,0,rfl,rfl⟩)
 ·
  refine TC.skip ?_
  refine TQ.then_ ?_
  refine TC.seq ?_
  refine TC.region ?_
  refine TL.cons (TL.buildSlice0 kI rfl rfl Try.underlying23 zs3 (fun b8=>?_))
  refine TV rfl rfl rfl (Val.move rfl) ?_
  obtain ⟨ha10,h⟩:=ite_no h
  refine TL.cons (TL.appendR (xs:=([]:List Int)) (ys:=a0) kI kI rfl rfl Try.underlying23 inf3 rfl (Nat.le_of_ble_eq_true rfl) (Nat.le_of_ble_eq_true rfl) rfl rfl (by omega) hr3 rfl (fun _ _ _ _ _ h=>h) (fun A11 c12=>?_))
  refine TV rfl rfl rfl (Val.assign rfl) ?_
  refine TL.nil ?_
  refine TQ.then_ ?_
  refine TC.ret ?_
  obtain rfl:=Option.some.inj h
  exact TQ.fin (.inl rfl) rfl Try.results65 (.tmp rfl .nil) rfl (FRel.mk (Ls:=[Row kI 3 (.slice A11 (([]:List Int) ++ a0).length c12) (([]:List Int) ++ a0)]) [0] 1 (Gd.le.refl _) rfl rfl rfl ⟨rfl,A11,c12,rfl,rfl⟩)
def forward_known_stored.f (a0_0:MqS) (a1:S37) (a2:(List Int)):Option MqS:=some (qdelf a0_0 (fun k _=>storedP a1.f2 a1.f4 a2 k))
def forward_known_stored.post (G:Gd) (b1:Nat) (A2:Option Addr) (c3:Nat) (A6:Option Addr) (c7:Nat) (a0_0:MqS) (a1:S37) (a2:(List Int)) (r:MqS) (v:Value) (G':Gd) (Lr:List Ch):Prop:=G=G'∧v=.tuple #[]∧Lr=[Mq Try.prog 106 3 b1 r]
theorem forward_known_stored.calls {G:Gd} {r:MqS} {a0_0:MqS} {a1:S37} {a2:(List Int)} {b1:Nat} {A2:Option Addr} {c3:Nat} {A6:Option Addr} {c7:Nat} (hr4:Rd G kI A2 a1.f5) (hl5:a1.f5.length ≤ c3) (hr8:Rd G kI A6 a2) (hl9:a2.length ≤ c7) (h:forward_known_stored.f a0_0 a1 a2=some r):Fn Try.prog 91 G [Mq Try.prog 106 3 b1 a0_0] [.map (some b1),.agg #[VI a1.f0,VI a1.f1,VI a1.f2,VI a1.f3,VI a1.f4,.slice A2 a1.f5.length c3],.slice A6 a2.length c7] (forward_known_stored.post G b1 A2 c3 A6 c7 a0_0 a1 a2 r):=by
 refine Fn.intro (e:=[(0,.map (some b1)),(1,.agg #[VI a1.f0,VI a1.f1,VI a1.f2,VI a1.f3,VI a1.f4,.slice A2 a1.f5.length c3]),(2,.slice A6 a2.length c7)]) 9 Try.func91 rfl Try.ntmps91 rfl rfl (Nat.le_of_ble_eq_true rfl) (fun L=>?_)
 unfold forward_known_stored.f at h
 refine TC.seq ?_
 refine TC.region ?_
 refine TL.cons (TL.box (cs:=[VI a1.f0,VI a1.f1,VI a1.f2,VI a1.f3,VI a1.f4,.slice A2 a1.f5.length c3]) rfl rfl rfl rfl (fun b10=>?_))
 refine TL.cons (TL.box (cs:=[.slice A6 a2.length c7]) rfl rfl rfl rfl (fun b11=>?_))
 refine TL.nil ?_
 refine TQ.then_ ?_
 refine TC.region ?_
 refine TV rfl rfl rfl (Val.move rfl) ?_
 refine TV rfl rfl rfl (Val.makeFunc (xs:=[]) (ys:=[VP b10 0,VP b11 0]) rfl rfl) ?_
 refine TK.sel (Ls:=[Mq Try.prog 106 3 b1 a0_0,Blk b10 [VI a1.f0,VI a1.f1,VI a1.f2,VI a1.f3,VI a1.f4,.slice A2 a1.f5.length c3] 37,Blk b11 [.slice A6 a2.length c7] 23]) [2,1,0] 3 rfl rfl rfl ?_
 refine TL.cons (TL.callV (Lin:=[Mq Try.prog 106 3 b1 a0_0,Blk b10 [VI a1.f0,VI a1.f1,VI a1.f2,VI a1.f3,VI a1.f4,.slice A2 a1.f5.length c3] 37,Blk b11 [.slice A6 a2.length c7] 23]) (args:=[.map (some b1),.func (.func 114) #[] #[VP b10 0,VP b11 0]]) rfl rfl rfl hbd113 rfl rfl (del_stored hr8 hl9 hr4 hl5) rfl ?_)
 rintro _ _ _ _ ⟨rfl,rfl,rfl⟩
 refine TL.nil ?_
 obtain rfl:=Option.some.inj h
 exact TQ.fin (.inr rfl) rfl Try.results91 .nil rfl (FRel.mk (Ls:=[Mq Try.prog 106 3 b1 (qdelf a0_0 (fun k _=>storedP a1.f2 a1.f4 a2 k))]) [0] 3 (Gd.le.refl _) rfl rfl rfl ⟨rfl,rfl,rfl⟩)
def forward_known_set.f (a0_0:MqS) (a1:Int):Option MqS:=some (qdelf a0_0 (fun k v=>setP a1 k v))
def forward_known_set.post (G:Gd) (b1:Nat) (a0_0:MqS) (a1:Int) (r:MqS) (v:Value) (G':Gd) (Lr:List Ch):Prop:=G=G'∧v=.tuple #[]∧Lr=[Mq Try.prog 106 3 b1 r]
theorem forward_known_set.calls {G:Gd} {r:MqS} {a0_0:MqS} {a1:Int} {b1:Nat} (h:forward_known_set.f a0_0 a1=some r):Fn Try.prog 92 G [Mq Try.prog 106 3 b1 a0_0] [.map (some b1),VI a1] (forward_known_set.post G b1 a0_0 a1 r):=by
 refine Fn.intro (e:=[(0,.map (some b1)),(1,VI a1)]) 7 Try.func92 rfl Try.ntmps92 rfl rfl (Nat.le_of_ble_eq_true rfl) (fun L=>?_)
 unfold forward_known_set.f at h
 refine TC.seq ?_
 refine TC.region ?_
 refine TL.cons (TL.box (cs:=[VI a1]) rfl rfl rfl rfl (fun b2=>?_))
 refine TL.nil ?_
 refine TQ.then_ ?_
 refine TC.region ?_
 refine TV rfl rfl rfl (Val.move rfl) ?_
 refine TV rfl rfl rfl (Val.makeFunc (xs:=[]) (ys:=[VP b2 0]) rfl rfl) ?_
 refine TK.sel (Ls:=[Mq Try.prog 106 3 b1 a0_0,Blk b2 [VI a1] 3]) [1,0] 2 rfl rfl rfl ?_
 refine TL.cons (TL.callV (Lin:=[Mq Try.prog 106 3 b1 a0_0,Blk b2 [VI a1] 3]) (args:=[.map (some b1),.func (.func 115) #[] #[VP b2 0]]) rfl rfl rfl hbd113 rfl rfl (del_set) rfl ?_)
 rintro _ _ _ _ ⟨rfl,rfl,rfl⟩
 refine TL.nil ?_
 obtain rfl:=Option.some.inj h
 exact TQ.fin (.inr rfl) rfl Try.results92 .nil rfl (FRel.mk (Ls:=[Mq Try.prog 106 3 b1 (qdelf a0_0 (fun k v=>setP a1 k v))]) [0] 2 (Gd.le.refl _) rfl rfl rfl ⟨rfl,rfl,rfl⟩)
def forward_known_learn.f (a0_0:MqS) (a1:S37) (a2:(List Int)):Option MqS:=jn (γ:=MqS) (fun (x28:MqS)=>(code_Sets.f a1).bind fun (y30:Int)=>(forward_known_set.f x28 y30).bind fun (y32:MqS)=>(if a1.f0=5 then (if y32.1 < 17592186044416∧wf2 (a1.f2,a1.f4)∧wfi a1.f3 then some (qput y32 (a1.f2,a1.f4) a1.f3) else none) else jn (γ:=MqS) (fun (x80:Bool)=>(if x80=true then (if y32.1 < 17592186044416∧wf2 (a1.f2,a1.f4)∧wfi a1.f1 then some (qput y32 (a1.f2,a1.f4) a1.f1) else none) else some y32)) (fun (j81:(Bool → Option MqS))=>(if a1.f0=4 then j81 (!decide (a1.f1=a1.f2)) else j81 false)))) (fun (j29:(MqS → Option MqS))=>(if a1.f0=7 then j29 (qclr a0_0) else (if a1.f0=5 then (forward_known_stored.f a0_0 a1 a2).bind fun (y94:MqS)=>j29 y94 else j29 a0_0)))
def forward_known_learn.post (G:Gd) (b1:Nat) (A2:Option Addr) (c3:Nat) (A6:Option Addr) (c7:Nat) (a0_0:MqS) (a1:S37) (a2:(List Int)) (r:MqS) (v:Value) (G':Gd) (Lr:List Ch):Prop:=G=G'∧v=.tuple #[]∧Lr=[Mq Try.prog 106 3 b1 r]
theorem forward_known_learn.calls {G:Gd} {r:MqS} {a0_0:MqS} {a1:S37} {a2:(List Int)} {b1:Nat} {A2:Option Addr} {c3:Nat} {A6:Option Addr} {c7:Nat} (hr4:Rd G kI A2 a1.f5) (hl5:a1.f5.length ≤ c3) (hr8:Rd G kI A6 a2) (hl9:a2.length ≤ c7) (h:forward_known_learn.f a0_0 a1 a2=some r):Fn Try.prog 66 G [Mq Try.prog 106 3 b1 a0_0] [.map (some b1),.agg #[VI a1.f0,VI a1.f1,VI a1.f2,VI a1.f3,VI a1.f4,.slice A2 a1.f5.length c3],.slice A6 a2.length c7] (forward_known_learn.post G b1 A2 c3 A6 c7 a0_0 a1 a2 r):=by
 refine Fn.intro (e:=[(0,.map (some b1)),(1,.agg #[VI a1.f0,VI a1.f1,VI a1.f2,VI a1.f3,VI a1.f4,.slice A2 a1.f5.length c3]),(2,.slice A6 a2.length c7)]) 50 Try.func66 rfl Try.ntmps66 rfl rfl (Nat.le_of_ble_eq_true rfl) (fun L=>?_)
 unfold forward_known_learn.f at h
 refine TC.seq ?_
 refine TC.region ?_
 refine TL.cons (TL.box (cs:=[VI a1.f0,VI a1.f1,VI a1.f2,VI a1.f3,VI a1.f4,.slice A2 a1.f5.length c3]) rfl rfl rfl rfl (fun b10=>?_))
 refine TL.nil ?_
 refine TQ.then_ ?_
 refine TC.seq ?_
 refine TC.seq ?_
 refine TC.region ?_
 refine TV rfl rfl rfl (Val.fieldAddrB Try.underlying37 rfl fsz3 rfl rfl rfl) ?_
 refine TV rfl rfl rfl (Val.loadB 0 agg3 rfl rfl rfl) ?_
 refine TL.nil ?_
 refine TQ.then_ ?_
 refine TC.block ?_
 refine TC.seq ?_
 refine TC.region ?_
 refine TV rfl rfl rfl (Val.cmp rfl rfl run_eql) ?_
 refine TV rfl rfl rfl (Val.assign rfl) ?_
 refine TL.nil ?_
 refine TQ.then_ ?_
 obtain ⟨j29,hj29,h⟩:=jn_no h
 refine TC.tail (fun a W=>∃ (x28:MqS),j29 x28=some r∧Fr 50 a [(0,.map (some b1)),(4,VP b10 0)]∧Own G (Mq Try.prog 106 3 b1 x28::Blk b10 [VI a1.f0,VI a1.f1,VI a1.f2,VI a1.f3,VI a1.f4,.slice A2 a1.f5.length c3] 37::L) W) ?_ ?_
 ·
  rintro a W ⟨x28,h,hF,hO⟩
  rw [hj29] at h
  refine TQ.use ?_ hF hO
  clear hF hO
  refine TQ.inB ?_
  refine TQ.then_ ?_
  refine TC.seq ?_
  refine TC.region ?_
  refine TV rfl rfl rfl (Val.move rfl) ?_
  refine TV rfl rfl rfl (Val.loadsB 1 (cs:=[VI a1.f0,VI a1.f1,VI a1.f2,VI a1.f3,VI a1.f4,.slice A2 a1.f5.length c3]) agg37 fsz37 rfl rfl rfl rfl) ?_
  obtain ⟨y30,hy31,h⟩:=bind_no h
  refine TL.cons (TL.callV (Lin:=[]) (args:=[.agg #[VI a1.f0,VI a1.f1,VI a1.f2,VI a1.f3,VI a1.f4,.slice A2 a1.f5.length c3]]) rfl rfl rfl hbd78 rfl rfl (code_Sets.calls (a0:=a1) hr4 hl5 hy31) rfl ?_)
  rintro _ _ _ _ ⟨rfl,rfl,rfl⟩
  obtain ⟨y32,hy33,h⟩:=bind_no h
  refine TL.cons (TL.callV (Lin:=[Mq Try.prog 106 3 b1 x28]) (args:=[.map (some b1),VI y30]) rfl rfl rfl hbd92 rfl rfl (forward_known_set.calls (a0_0:=x28) (a1:=y30) hy33) rfl ?_)
  rintro _ _ _ _ ⟨rfl,rfl,rfl⟩
  refine TL.nil ?_
  refine TQ.then_ ?_
  refine TC.seq ?_
  refine TC.region ?_
  refine TV rfl rfl rfl (Val.fieldAddrB Try.underlying37 rfl fsz3 rfl rfl rfl) ?_
  refine TV rfl rfl rfl (Val.loadB 1 agg3 rfl rfl rfl) ?_
  refine TV rfl rfl rfl (Val.fieldAddrB Try.underlying37 rfl fsz3 rfl rfl rfl) ?_
  refine TV rfl rfl rfl (Val.loadB 1 agg3 rfl rfl rfl) ?_
  refine TV rfl rfl rfl (Val.build (cs:=[VI a1.f2,VI a1.f4]) (is:=[0,1]) (xs:=[.tmp 23,.tmp 25]) Try.underlying106 zr106 bld106 rfl rfl rfl rfl) ?_
  refine TL.cons (TL.alloc (cs:=[VI 0,VI 0]) rfl rfl zr106 rfl (fun b34=>?_))
  refine TL.cons (TL.store 0 (ds:=[VI a1.f2,VI a1.f4]) (cs':=[VI a1.f2,VI a1.f4]) (L':=(Blk b34 [VI a1.f2,VI a1.f4] 106::Mq Try.prog 106 3 b1 y32::Blk b10 [VI a1.f0,VI a1.f1,VI a1.f2,VI a1.f3,VI a1.f4,.slice A2 a1.f5.length c3] 37::L)) rfl fsz106 rfl rfl rfl rfl rfl (Nat.le_of_ble_eq_true rfl) rfl rfl ?_)
  refine TL.nil ?_
  refine TQ.then_ ?_
  refine TC.block ?_
  refine TC.seq ?_
  refine TC.region ?_
  refine TV rfl rfl rfl (Val.fieldAddrB Try.underlying37 rfl fsz3 rfl rfl rfl) ?_
  refine TV rfl rfl rfl (Val.loadB 2 agg3 rfl rfl rfl) ?_
  refine TV rfl rfl rfl (Val.cmp rfl rfl run_eql) ?_
  refine TV rfl rfl rfl (Val.assign rfl) ?_
  refine TL.nil ?_
  refine TQ.then_ ?_
  refine TC.cond_p rfl h (fun hc75 h=>?_) (fun hc75 h=>?_)
  ·
   refine TC.region ?_
   refine TV rfl rfl rfl (Val.move rfl) ?_
   refine TV rfl rfl rfl (Val.loadsB 0 (cs:=[VI a1.f2,VI a1.f4]) agg106 fsz106 rfl rfl rfl rfl) ?_
   refine TV rfl rfl rfl (Val.fieldAddrB Try.underlying37 rfl fsz3 rfl rfl rfl) ?_
   refine TV rfl rfl rfl (Val.loadB 2 agg3 rfl rfl rfl) ?_
   obtain ⟨hz76,h⟩:=ite_no h
   refine TL.cons (TL.mapUpdateQ (a:=(a1.f2,a1.f4)) 1 (L':=(Blk b34 [VI a1.f2,VI a1.f4] 106::Mq Try.prog 106 3 b1 (qput y32 (a1.f2,a1.f4) a1.f3)::Blk b10 [VI a1.f0,VI a1.f1,VI a1.f2,VI a1.f3,VI a1.f4,.slice A2 a1.f5.length c3] 37::L)) rfl Try.underlying102 kq106 Try.underlying3 rfl rfl rfl rfl rfl hz76 ?_)
   refine TL.nil ?_
   refine TQ.inB ?_
   obtain rfl:=Option.some.inj h
   exact TQ.fin (.inr rfl) rfl Try.results66 .nil rfl (FRel.mk (Ls:=[Mq Try.prog 106 3 b1 (qput y32 (a1.f2,a1.f4) a1.f3)]) [1] 3 (Gd.le.refl _) rfl rfl rfl ⟨rfl,rfl,rfl⟩)
  ·
   refine TC.seq ?_
   obtain ⟨j81,hj81,h⟩:=jn_no h
   refine TC.tail (fun a W=>∃ (x80:Bool),j81 x80=some r∧Fr 50 a [(0,.map (some b1)),(4,VP b10 0),(6,VP b34 0),(35,.bool x80)]∧Own G (Mq Try.prog 106 3 b1 y32::Blk b10 [VI a1.f0,VI a1.f1,VI a1.f2,VI a1.f3,VI a1.f4,.slice A2 a1.f5.length c3] 37::Blk b34 [VI a1.f2,VI a1.f4] 106::L) W) ?_ ?_
   ·
    rintro a W ⟨x80,h,hF,hO⟩
    rw [hj81] at h
    refine TQ.use ?_ hF hO
    clear hF hO
    refine TQ.then_ ?_
    refine TC.cond_b rfl h (fun hc84 h=>?_) (fun hc84 h=>?_)
    ·
     refine TC.region ?_
     refine TV rfl rfl rfl (Val.move rfl) ?_
     refine TV rfl rfl rfl (Val.loadsB 2 (cs:=[VI a1.f2,VI a1.f4]) agg106 fsz106 rfl rfl rfl rfl) ?_
     refine TV rfl rfl rfl (Val.fieldAddrB Try.underlying37 rfl fsz3 rfl rfl rfl) ?_
     refine TV rfl rfl rfl (Val.loadB 1 agg3 rfl rfl rfl) ?_
     obtain ⟨hz85,h⟩:=ite_no h
     refine TL.cons (TL.mapUpdateQ (a:=(a1.f2,a1.f4)) 0 (L':=(Mq Try.prog 106 3 b1 (qput y32 (a1.f2,a1.f4) a1.f1)::Blk b10 [VI a1.f0,VI a1.f1,VI a1.f2,VI a1.f3,VI a1.f4,.slice A2 a1.f5.length c3] 37::Blk b34 [VI a1.f2,VI a1.f4] 106::L)) rfl Try.underlying102 kq106 Try.underlying3 rfl rfl rfl rfl rfl hz85 ?_)
     refine TL.nil ?_
     refine TQ.inB ?_
     obtain rfl:=Option.some.inj h
     exact TQ.fin (.inr rfl) rfl Try.results66 .nil rfl (FRel.mk (Ls:=[Mq Try.prog 106 3 b1 (qput y32 (a1.f2,a1.f4) a1.f1)]) [0] 3 (Gd.le.refl _) rfl rfl rfl ⟨rfl,rfl,rfl⟩)
    ·
     refine TC.skip ?_
     refine TQ.inB ?_
     obtain rfl:=Option.some.inj h
     exact TQ.fin (.inr rfl) rfl Try.results66 .nil rfl (FRel.mk (Ls:=[Mq Try.prog 106 3 b1 y32]) [0] 3 (Gd.le.refl _) rfl rfl rfl ⟨rfl,rfl,rfl⟩)
   ·
    refine TC.region ?_
    refine TV rfl rfl rfl (Val.fieldAddrB Try.underlying37 rfl fsz3 rfl rfl rfl) ?_
    refine TV rfl rfl rfl (Val.loadB 2 agg3 rfl rfl rfl) ?_
    refine TV rfl rfl rfl (Val.cmp rfl rfl run_eql) ?_
    refine TV rfl rfl rfl (Val.move rfl) ?_
    refine TK.split (p:=a1.f0=4) h (fun hg86 h=>?_) (fun hg86 h=>?_)
    ·
     have hk87:decide (a1.f0=4)=true:=decide_eq_true hg86
     refine TV (Wt.yes rfl rfl rfl hk87) rfl rfl (Val.fieldAddrB Try.underlying37 rfl fsz3 rfl rfl rfl) ?_
     refine TV (Wt.yes rfl rfl rfl hk87) rfl rfl (Val.loadB 2 agg3 rfl rfl rfl) ?_
     refine TV (Wt.yes rfl rfl rfl hk87) rfl rfl (Val.fieldAddrB Try.underlying37 rfl fsz3 rfl rfl rfl) ?_
     refine TV (Wt.yes rfl rfl rfl hk87) rfl rfl (Val.loadB 2 agg3 rfl rfl rfl) ?_
     refine TV (Wt.yes rfl rfl rfl hk87) rfl rfl (Val.cmp rfl rfl run_neq) ?_
     refine TV rfl rfl rfl (Val.pickY rfl hk87 rfl) ?_
     refine TV rfl rfl rfl (Val.assign rfl) ?_
     refine TL.nil ?_
     exact fun a W hF hO=>⟨(!decide (a1.f1=a1.f2)),h,hF.sub ⟨rfl,rfl,rfl,rfl,trivial⟩,hO.selT (Ls:=[Mq Try.prog 106 3 b1 y32,Blk b10 [VI a1.f0,VI a1.f1,VI a1.f2,VI a1.f3,VI a1.f4,.slice A2 a1.f5.length c3] 37,Blk b34 [VI a1.f2,VI a1.f4] 106]) [1,2,0] 3 rfl rfl rfl⟩
    ·
     have hk88:decide (a1.f0=4)=false:=decide_eq_false hg86
     refine TL.cons (TL.not (Wt.no rfl rfl rfl hk88) rfl ?_)
     refine TL.cons (TL.not (Wt.no rfl rfl rfl hk88) rfl ?_)
     refine TL.cons (TL.not (Wt.no rfl rfl rfl hk88) rfl ?_)
     refine TL.cons (TL.not (Wt.no rfl rfl rfl hk88) rfl ?_)
     refine TL.cons (TL.not (Wt.no rfl rfl rfl hk88) rfl ?_)
     refine TV rfl rfl rfl (Val.pickN rfl hk88 rfl) ?_
     refine TV rfl rfl rfl (Val.assign rfl) ?_
     refine TL.nil ?_
     exact fun a W hF hO=>⟨false,h,hF.sub ⟨rfl,rfl,rfl,rfl,trivial⟩,hO.selT (Ls:=[Mq Try.prog 106 3 b1 y32,Blk b10 [VI a1.f0,VI a1.f1,VI a1.f2,VI a1.f3,VI a1.f4,.slice A2 a1.f5.length c3] 37,Blk b34 [VI a1.f2,VI a1.f4] 106]) [1,2,0] 3 rfl rfl rfl⟩
 ·
  refine TC.cond_p rfl h (fun hc89 h=>?_) (fun hc89 h=>?_)
  ·
   refine TC.region ?_
   refine TV rfl rfl rfl (Val.move rfl) ?_
   refine TL.cons (TL.mapClearQ 1 (L':=(Blk b10 [VI a1.f0,VI a1.f1,VI a1.f2,VI a1.f3,VI a1.f4,.slice A2 a1.f5.length c3] 37::Mq Try.prog 106 3 b1 (qclr a0_0)::L)) rfl Try.underlying102 rfl rfl rfl ?_)
   refine TL.nil ?_
   exact fun a W hF hO=>⟨(qclr a0_0),h,hF.sub ⟨rfl,rfl,trivial⟩,hO.selT (Ls:=[Mq Try.prog 106 3 b1 (qclr a0_0),Blk b10 [VI a1.f0,VI a1.f1,VI a1.f2,VI a1.f3,VI a1.f4,.slice A2 a1.f5.length c3] 37]) [1,0] 2 rfl rfl rfl⟩
  ·
   refine TC.seq ?_
   refine TC.region ?_
   refine TV rfl rfl rfl (Val.cmp rfl rfl run_eql) ?_
   refine TV rfl rfl rfl (Val.assign rfl) ?_
   refine TL.nil ?_
   refine TQ.then_ ?_
   refine TC.cond_p rfl h (fun hc93 h=>?_) (fun hc93 h=>?_)
   ·
    refine TC.region ?_
    refine TV rfl rfl rfl (Val.move rfl) ?_
    refine TV rfl rfl rfl (Val.loadsB 0 (cs:=[VI a1.f0,VI a1.f1,VI a1.f2,VI a1.f3,VI a1.f4,.slice A2 a1.f5.length c3]) agg37 fsz37 rfl rfl rfl rfl) ?_
    refine TV rfl rfl rfl (Val.move rfl) ?_
    refine TK.sel (Ls:=[Mq Try.prog 106 3 b1 a0_0,Blk b10 [VI a1.f0,VI a1.f1,VI a1.f2,VI a1.f3,VI a1.f4,.slice A2 a1.f5.length c3] 37]) [1,0] 2 rfl rfl rfl ?_
    obtain ⟨y94,hy95,h⟩:=bind_no h
    refine TL.cons (TL.callV (Lin:=[Mq Try.prog 106 3 b1 a0_0]) (args:=[.map (some b1),.agg #[VI a1.f0,VI a1.f1,VI a1.f2,VI a1.f3,VI a1.f4,.slice A2 a1.f5.length c3],.slice A6 a2.length c7]) rfl rfl rfl hbd91 rfl rfl (forward_known_stored.calls (a0_0:=a0_0) (a1:=a1) (a2:=a2) hr4 hl5 hr8 hl9 hy95) rfl ?_)
    rintro _ _ _ _ ⟨rfl,rfl,rfl⟩
    refine TL.nil ?_
    exact fun a W hF hO=>⟨y94,h,hF.sub ⟨rfl,rfl,trivial⟩,hO.selT (Ls:=[Mq Try.prog 106 3 b1 y94,Blk b10 [VI a1.f0,VI a1.f1,VI a1.f2,VI a1.f3,VI a1.f4,.slice A2 a1.f5.length c3] 37]) [0,1] 2 rfl rfl rfl⟩
   ·
    refine TC.skip ?_
    exact fun a W hF hO=>⟨a0_0,h,hF.sub ⟨rfl,rfl,trivial⟩,hO.selT (Ls:=[Mq Try.prog 106 3 b1 a0_0,Blk b10 [VI a1.f0,VI a1.f1,VI a1.f2,VI a1.f3,VI a1.f4,.slice A2 a1.f5.length c3] 37]) [1,0] 2 rfl rfl rfl⟩
def forward_Block.l0 (a0:S42) (a1:(List Int)):Nat → Int → (List S37) → MqS → Option ((List S37))
 | 0,_,_,_=>none
 | n344 + 1,x229,l230,x234=>(if x229 < (a0.f0.length:Int) then (at? a0.f0 x229).bind fun y502=>(slices_Clone_int_int.f y502.f5).bind fun (y516:(List Int))=>(if wf2 (y502.f2,y502.f4) then jn (γ:=((List S37))) (fun (x525:Bool)=>jn (γ:=((List S37))) (fun (x528:Int) (x529:Int) (x530:Int) (x531:Int) (l532:(List Int))=>(forward_known_learn.f x234 (⟨x528,y502.f1,x529,x530,x531,l532⟩:S37) a1).bind fun (y543:MqS)=>(if l230.length < 2199023255552 then forward_Block.l0 a0 a1 n344 (IntKind.i64.wrap (x229 + 1)) (l230 ++ [(⟨x528,y502.f1,x529,x530,x531,l532⟩:S37)]) y543 else none)) (fun (j536:(Int → Int → Int → Int → (List Int) → Option ((List S37))))=>(if x525=true then j536 3 (qget x234 (y502.f2,y502.f4)) 0 0 [] else j536 y502.f0 y502.f2 y502.f3 y502.f4 y516))) (fun (j526:(Bool → Option ((List S37))))=>(if (qhas x234 (y502.f2,y502.f4))=true then j526 (decide (y502.f0=4)) else j526 false)) else none) else some l230)
def forward_Block.f (a0:S42) (a1:(List Int)):Option S42:=(forward_Block.l0 a0 a1 (a0.f0.length + 1) 0 [] qnil).bind fun (l339:(List S37))=>some (⟨l339,a0.f1⟩:S42)
def forward_Block.post (G:Gd)  (r:S42) (v:Value) (G':Gd) (Lr:List Ch):Prop:=G=G'∧∃ (A_1:Option Addr) (c_1:Nat),v=.agg #[.slice A_1 r.f0.length c_1,VI r.f1.f0,VI r.f1.f1,VI r.f1.f2,VI r.f1.f3]∧Lr=[Row k37 37 (.slice A_1 r.f0.length c_1) r.f0]
theorem forward_Block.calls {G:Gd} {r:S42} {a0:S42} {a1:(List Int)} {A1:Option Addr} {c2:Nat} {A5:Option Addr} {c6:Nat} (hr3:Rd G k37 A1 a0.f0) (hl4:a0.f0.length ≤ c2) (hr7:Rd G kI A5 a1) (hl8:a1.length ≤ c6) (h:forward_Block.f a0 a1=some r):Fn Try.prog 39 G [] [.agg #[.slice A1 a0.f0.length c2,VI a0.f1.f0,VI a0.f1.f1,VI a0.f1.f2,VI a0.f1.f3],.slice A5 a1.length c6] (forward_Block.post G  r):=by
 refine Fn.intro (e:=[(0,.agg #[.slice A1 a0.f0.length c2,VI a0.f1.f0,VI a0.f1.f1,VI a0.f1.f2,VI a0.f1.f3]),(1,.slice A5 a1.length c6)]) 58 Try.func39 rfl Try.ntmps39 rfl rfl (Nat.le_of_ble_eq_true rfl) (fun L=>?_)
 unfold forward_Block.f at h
 refine TC.seq ?_
 refine TC.region ?_
 refine TL.cons (TL.box (cs:=[.slice A1 a0.f0.length c2,VI a0.f1.f0,VI a0.f1.f1,VI a0.f1.f2,VI a0.f1.f3]) rfl rfl rfl rfl (fun b9=>?_))
 refine TL.cons (TL.alloc (cs:=[.slice none 0 0,VI 0,VI 0,VI 0,VI 0]) rfl rfl zr42 rfl (fun b10=>?_))
 refine TL.nil ?_
 refine TQ.then_ ?_
 refine TC.seq ?_
 refine TC.region ?_
 refine TV rfl rfl rfl (Val.fieldAddrB Try.underlying42 rfl fsz40 rfl rfl rfl) ?_
 refine TV rfl rfl rfl (Val.loadsB 1 (cs:=[VI a0.f1.f0,VI a0.f1.f1,VI a0.f1.f2,VI a0.f1.f3]) agg40 fsz40 rfl rfl rfl rfl) ?_
 refine TV rfl rfl rfl (Val.build (cs:=[.slice none 0 0,VI a0.f1.f0,VI a0.f1.f1,VI a0.f1.f2,VI a0.f1.f3]) (is:=[1]) (xs:=[.tmp 12]) Try.underlying42 zr42 bld42 rfl rfl rfl rfl) ?_
 refine TL.cons (TL.alloc (cs:=[.slice none 0 0,VI 0,VI 0,VI 0,VI 0]) rfl rfl zr42 rfl (fun b11=>?_))
 refine TL.cons (TL.store 0 (ds:=[.slice none 0 0,VI a0.f1.f0,VI a0.f1.f1,VI a0.f1.f2,VI a0.f1.f3]) (cs':=[.slice none 0 0,VI a0.f1.f0,VI a0.f1.f1,VI a0.f1.f2,VI a0.f1.f3]) (L':=(Blk b11 [.slice none 0 0,VI a0.f1.f0,VI a0.f1.f1,VI a0.f1.f2,VI a0.f1.f3] 42::Blk b10 [.slice none 0 0,VI 0,VI 0,VI 0,VI 0] 42::Blk b9 [.slice A1 a0.f0.length c2,VI a0.f1.f0,VI a0.f1.f1,VI a0.f1.f2,VI a0.f1.f3] 42::L)) rfl fsz42 rfl rfl rfl rfl rfl (Nat.le_of_ble_eq_true rfl) rfl rfl ?_)
 refine TL.nil ?_
 refine TQ.then_ ?_
 refine TC.seq ?_
 refine TC.region ?_
 refine TL.cons (TL.makeMapQ (k:=106) (el:=3) rfl rfl (fun b12=>?_))
 refine TV rfl rfl rfl (Val.assign rfl) ?_
 refine TL.nil ?_
 refine TQ.then_ ?_
 refine TC.seq ?_
 refine TC.seq ?_
 refine TC.region ?_
 refine TV rfl rfl rfl (Val.fieldAddrB Try.underlying42 rfl fsz38 rfl rfl rfl) ?_
 refine TV rfl rfl rfl (Val.loadB 3 agg38 rfl rfl rfl) ?_
 refine TV rfl rfl rfl (Val.len Try.underlying38 rfl) ?_
 refine TV rfl rfl rfl (Val.move rfl) ?_
 refine TL.nil ?_
 refine TQ.then_ ?_
 obtain ⟨o343,ho343,ko343⟩:=bind_no h
 clear h
 refine TC.tail (fun a W=>∃ (l339:(List S37)) (A340:Option Addr) (c341:Nat),l339=o343∧Fr 58 a [(4,VP b10 0),(5,VP b11 0)]∧Own G (Blk b10 [.slice none 0 0,VI 0,VI 0,VI 0,VI 0] 42::Blk b11 [.slice A340 l339.length c341,VI a0.f1.f0,VI a0.f1.f1,VI a0.f1.f2,VI a0.f1.f3] 42::Row k37 37 (.slice A340 l339.length c341) l339::L) W) ?_ ?_
 ·
  rintro a W ⟨l339,A340,c341,rfl,hF,hO⟩
  have h:=ko343
  clear ko343 ho343
  refine TQ.use ?_ hF hO
  clear hF hO
  refine TQ.then_ ?_
  refine TC.seq ?_
  refine TC.region ?_
  refine TV rfl rfl rfl (Val.loadsB 1 (cs:=[.slice A340 l339.length c341,VI a0.f1.f0,VI a0.f1.f1,VI a0.f1.f2,VI a0.f1.f3]) agg42 fsz42 rfl rfl rfl rfl) ?_
  refine TL.cons (TL.store 0 (ds:=[.slice A340 l339.length c341,VI a0.f1.f0,VI a0.f1.f1,VI a0.f1.f2,VI a0.f1.f3]) (cs':=[.slice A340 l339.length c341,VI a0.f1.f0,VI a0.f1.f1,VI a0.f1.f2,VI a0.f1.f3]) (L':=(Blk b10 [.slice A340 l339.length c341,VI a0.f1.f0,VI a0.f1.f1,VI a0.f1.f2,VI a0.f1.f3] 42::Blk b11 [.slice A340 l339.length c341,VI a0.f1.f0,VI a0.f1.f1,VI a0.f1.f2,VI a0.f1.f3] 42::Row k37 37 (.slice A340 l339.length c341) l339::L)) rfl fsz42 rfl rfl rfl rfl rfl (Nat.le_of_ble_eq_true rfl) rfl rfl ?_)
  refine TL.nil ?_
  refine TQ.then_ ?_
  refine TC.ret ?_
  obtain rfl:=Option.some.inj h
  exact TQ.fin (.inl rfl) rfl Try.results39 (.cells 0 rfl rfl agg42 fsz42 .nil) rfl (FRel.mk (Ls:=[Row k37 37 (.slice A340 l339.length c341) l339]) [2] 3 (Gd.le.refl _) rfl rfl rfl ⟨rfl,A340,c341,rfl,rfl⟩)
 ·
  refine TC.block ?_
  intro a W hF hO
  have hS:∃ (x229:Int) (l230:(List S37)) (x234:MqS) (A231:Option Addr) (c232:Nat),forward_Block.l0 a0 a1 (a0.f0.length + 1) x229 l230 x234=some o343∧Fr 58 a [(1,.slice A5 a1.length c6),(4,VP b10 0),(5,VP b11 0),(6,.map (some b12)),(16,.slice A1 a0.f0.length c2),(17,VI (a0.f0.length:Int)),(18,VI x229)]∧Own G (Blk b10 [.slice none 0 0,VI 0,VI 0,VI 0,VI 0] 42::Blk b11 [.slice A231 l230.length c232,VI a0.f1.f0,VI a0.f1.f1,VI a0.f1.f2,VI a0.f1.f3] 42::Mq Try.prog 106 3 b12 x234::Row k37 37 (.slice A231 l230.length c232) l230::L) W:=by
   exact ⟨0,[],qnil,none,0,ho343,hF.sub ⟨rfl,rfl,rfl,rfl,rfl,rfl,rfl,trivial⟩,(Own.nilRow k37 37 hO).selT (Ls:=[Blk b10 [.slice none 0 0,VI 0,VI 0,VI 0,VI 0] 42,Blk b11 [.slice none ([]:List S37).length 0,VI a0.f1.f0,VI a0.f1.f1,VI a0.f1.f2,VI a0.f1.f3] 42,Mq Try.prog 106 3 b12 qnil,Row k37 37 (.slice none ([]:List S37).length 0) ([]:List S37)]) [3,2,1,0] 5 rfl rfl rfl⟩
  clear hF hO ho343 ko343
  refine TC.loop (fun n344 a W=>∃ (x229:Int) (l230:(List S37)) (x234:MqS) (A231:Option Addr) (c232:Nat),forward_Block.l0 a0 a1 n344 x229 l230 x234=some o343∧Fr 58 a [(1,.slice A5 a1.length c6),(4,VP b10 0),(5,VP b11 0),(6,.map (some b12)),(16,.slice A1 a0.f0.length c2),(17,VI (a0.f0.length:Int)),(18,VI x229)]∧Own G (Blk b10 [.slice none 0 0,VI 0,VI 0,VI 0,VI 0] 42::Blk b11 [.slice A231 l230.length c232,VI a0.f1.f0,VI a0.f1.f1,VI a0.f1.f2,VI a0.f1.f3] 42::Mq Try.prog 106 3 b12 x234::Row k37 37 (.slice A231 l230.length c232) l230::L) W) ?_ ?_ hS
  ·
   rintro a W ⟨x229,l230,x234,A231,c232,h,hF,hO⟩
   exact none_no h
  ·
   clear hS
   rintro n344 a W ⟨x229,l230,x234,A231,c232,h,hF,hO⟩
   rw [forward_Block.l0] at h
   refine TC.use ?_ hF hO
   clear hF hO
   refine TC.seq ?_
   refine TC.region ?_
   refine TV rfl rfl rfl (Val.cmp rfl rfl run_lss) ?_
   refine TL.nil ?_
   refine TQ.then_ ?_
   refine TC.seq ?_
   refine TC.cond_p rfl h (fun hc450 h=>?_) (fun hc450 h=>?_)
   ·
    refine TC.skip ?_
    refine TQ.then_ ?_
    refine TC.seq ?_
    refine TC.block ?_
    refine TC.seq ?_
    refine TC.region ?_
    obtain ⟨y502,hx503,h⟩:=bind_no h
    obtain ⟨ad504,cs510,hA505,hi506,hj507,hcl508,hK509⟩:=Rd.at hr3 hx503
    obtain ⟨A511,c512,rfl,hr513,hl514⟩:=k37_openR hK509
    refine TV rfl rfl rfl (Val.indexAddr Try.underlying38 fsz37 rfl hA505 rfl hi506 hj507) ?_
    refine TV rfl rfl rfl (Val.loadsS (cs:=[VI y502.f0,VI y502.f1,VI y502.f2,VI y502.f3,VI y502.f4,.slice A511 y502.f5.length c512]) agg37 fsz37 rfl rfl (Cl.sub (off:=0) (n:=6) hcl508 rfl)) ?_
    refine TL.cons (TL.alloc (cs:=[VI 0,VI 0,VI 0,VI 0,VI 0,.slice none 0 0]) rfl rfl zr37 rfl (fun b515=>?_))
    refine TL.cons (TL.store 0 (ds:=[VI y502.f0,VI y502.f1,VI y502.f2,VI y502.f3,VI y502.f4,.slice A511 y502.f5.length c512]) (cs':=[VI y502.f0,VI y502.f1,VI y502.f2,VI y502.f3,VI y502.f4,.slice A511 y502.f5.length c512]) (L':=(Blk b515 [VI y502.f0,VI y502.f1,VI y502.f2,VI y502.f3,VI y502.f4,.slice A511 y502.f5.length c512] 37::Blk b10 [.slice none 0 0,VI 0,VI 0,VI 0,VI 0] 42::Blk b11 [.slice A231 l230.length c232,VI a0.f1.f0,VI a0.f1.f1,VI a0.f1.f2,VI a0.f1.f3] 42::Mq Try.prog 106 3 b12 x234::Row k37 37 (.slice A231 l230.length c232) l230::L)) rfl fsz37 rfl rfl rfl rfl rfl (Nat.le_of_ble_eq_true rfl) rfl rfl ?_)
    refine TL.nil ?_
    refine TQ.then_ ?_
    refine TC.seq ?_
    refine TC.region ?_
    refine TV rfl rfl rfl (Val.fieldAddrB Try.underlying37 rfl fsz23 rfl rfl rfl) ?_
    refine TV rfl rfl rfl (Val.loadB 0 agg23 rfl rfl rfl) ?_
    obtain ⟨y516,hy517,h⟩:=bind_no h
    refine TL.cons (TL.callV (Lin:=[]) (args:=[.slice A511 y502.f5.length c512]) rfl rfl rfl hbd65 rfl rfl (slices_Clone_int_int.calls (a0:=y502.f5) hr513 hl514 hy517) rfl ?_)
    rintro _ _ _ _ ⟨rfl,A518,c519,rfl,rfl⟩
    refine TV rfl rfl rfl (Val.fieldAddrB Try.underlying37 rfl fsz23 rfl rfl rfl) ?_
    refine TL.cons (TL.store 1 (ds:=[.slice A518 y516.length c519]) (cs':=[VI y502.f0,VI y502.f1,VI y502.f2,VI y502.f3,VI y502.f4,.slice A518 y516.length c519]) (L':=(Row kI 3 (.slice A518 y516.length c519) y516::Blk b515 [VI y502.f0,VI y502.f1,VI y502.f2,VI y502.f3,VI y502.f4,.slice A518 y516.length c519] 37::Blk b10 [.slice none 0 0,VI 0,VI 0,VI 0,VI 0] 42::Blk b11 [.slice A231 l230.length c232,VI a0.f1.f0,VI a0.f1.f1,VI a0.f1.f2,VI a0.f1.f3] 42::Mq Try.prog 106 3 b12 x234::Row k37 37 (.slice A231 l230.length c232) l230::L)) rfl fsz23 rfl rfl rfl rfl rfl (Nat.le_of_ble_eq_true rfl) rfl rfl ?_)
    refine TL.nil ?_
    refine TQ.then_ ?_
    refine TC.seq ?_
    refine TC.seq ?_
    refine TC.region ?_
    refine TV rfl rfl rfl (Val.move rfl) ?_
    refine TV rfl rfl rfl (Val.fieldAddrB Try.underlying37 rfl fsz3 rfl rfl rfl) ?_
    refine TV rfl rfl rfl (Val.loadB 1 agg3 rfl rfl rfl) ?_
    refine TV rfl rfl rfl (Val.fieldAddrB Try.underlying37 rfl fsz3 rfl rfl rfl) ?_
    refine TV rfl rfl rfl (Val.loadB 1 agg3 rfl rfl rfl) ?_
    refine TV rfl rfl rfl (Val.build (cs:=[VI y502.f2,VI y502.f4]) (is:=[0,1]) (xs:=[.tmp 29,.tmp 31]) Try.underlying106 zr106 bld106 rfl rfl rfl rfl) ?_
    obtain ⟨hz521,h⟩:=ite_no h
    refine TV rfl rfl rfl (Val.lookupOkQ (a:=(y502.f2,y502.f4)) 4 Try.underlying102 kq106 Try.underlying3 zr3 rfl rfl rfl hz521) ?_
    refine TV rfl rfl rfl (Val.move rfl) ?_
    refine TV rfl rfl rfl (Val.extract rfl rfl) ?_
    refine TV rfl rfl rfl (Val.extract rfl rfl) ?_
    refine TV rfl rfl rfl (Val.assign rfl) ?_
    refine TV rfl rfl rfl (Val.assign rfl) ?_
    refine TL.nil ?_
    refine TQ.then_ ?_
    refine TC.seq ?_
    obtain ⟨j526,hj526,h⟩:=jn_no h
    refine TC.tail (fun a W=>∃ (x525:Bool),j526 x525=some o343∧Fr 58 a [(1,.slice A5 a1.length c6),(4,VP b10 0),(5,VP b11 0),(6,.map (some b12)),(8,VP b515 0),(9,VI (qget x234 (y502.f2,y502.f4))),(16,.slice A1 a0.f0.length c2),(17,VI (a0.f0.length:Int)),(18,VI x229),(41,.bool x525)]∧Own G (Blk b10 [.slice none 0 0,VI 0,VI 0,VI 0,VI 0] 42::Blk b11 [.slice A231 l230.length c232,VI a0.f1.f0,VI a0.f1.f1,VI a0.f1.f2,VI a0.f1.f3] 42::Mq Try.prog 106 3 b12 x234::Blk b515 [VI y502.f0,VI y502.f1,VI y502.f2,VI y502.f3,VI y502.f4,.slice A518 y516.length c519] 37::Row k37 37 (.slice A231 l230.length c232) l230::Row kI 3 (.slice A518 y516.length c519) y516::L) W) ?_ ?_
    ·
     rintro a W ⟨x525,h,hF,hO⟩
     rw [hj526] at h
     refine TQ.use ?_ hF hO
     clear hF hO
     refine TQ.then_ ?_
     obtain ⟨j536,hj536,h⟩:=jn_no h
     refine TC.tail (fun a W=>∃ (x528:Int) (x529:Int) (x530:Int) (x531:Int) (l532:(List Int)) (A533:Option Addr) (c534:Nat),j536 x528 x529 x530 x531 l532=some o343∧Fr 58 a [(1,.slice A5 a1.length c6),(4,VP b10 0),(5,VP b11 0),(6,.map (some b12)),(8,VP b515 0),(16,.slice A1 a0.f0.length c2),(17,VI (a0.f0.length:Int)),(18,VI x229)]∧Own G (Blk b10 [.slice none 0 0,VI 0,VI 0,VI 0,VI 0] 42::Blk b11 [.slice A231 l230.length c232,VI a0.f1.f0,VI a0.f1.f1,VI a0.f1.f2,VI a0.f1.f3] 42::Mq Try.prog 106 3 b12 x234::Blk b515 [VI x528,VI y502.f1,VI x529,VI x530,VI x531,.slice A533 l532.length c534] 37::Row k37 37 (.slice A231 l230.length c232) l230::Row kI 3 (.slice A533 l532.length c534) l532::L) W) ?_ ?_
     ·
      rintro a W ⟨x528,x529,x530,x531,l532,A533,c534,h,hF,hO⟩
      rw [hj536] at h
      refine TQ.use ?_ hF hO
      clear hF hO
      refine TQ.then_ ?_
      refine TC.seq ?_
      refine TC.region ?_
      refine TV rfl rfl rfl (Val.move rfl) ?_
      refine TV rfl rfl rfl (Val.loadsB 3 (cs:=[VI x528,VI y502.f1,VI x529,VI x530,VI x531,.slice A533 l532.length c534]) agg37 fsz37 rfl rfl rfl rfl) ?_
      refine TV rfl rfl rfl (Val.move rfl) ?_
      refine TK.sel (Ls:=[Row kI 3 (.slice A533 l532.length c534) l532,Blk b10 [.slice none 0 0,VI 0,VI 0,VI 0,VI 0] 42,Blk b11 [.slice A231 l230.length c232,VI a0.f1.f0,VI a0.f1.f1,VI a0.f1.f2,VI a0.f1.f3] 42,Mq Try.prog 106 3 b12 x234,Blk b515 [VI x528,VI y502.f1,VI x529,VI x530,VI x531,.slice A533 l532.length c534] 37,Row k37 37 (.slice A231 l230.length c232) l230]) [5,0,1,2,3,4] 6 rfl rfl rfl ?_
      refine TK.share (fun G537 e538 hs539 hb540=>?_)
      have rd541:Rd G537 kI A533 l532:=Rd.row hs539
      have le542:l532.length ≤ c534:=Row.le hs539
      refine TK.sel (Ls:=[Mq Try.prog 106 3 b12 x234,Blk b10 [.slice none 0 0,VI 0,VI 0,VI 0,VI 0] 42,Blk b11 [.slice A231 l230.length c232,VI a0.f1.f0,VI a0.f1.f1,VI a0.f1.f2,VI a0.f1.f3] 42,Blk b515 [VI x528,VI y502.f1,VI x529,VI x530,VI x531,.slice A533 l532.length c534] 37,Row k37 37 (.slice A231 l230.length c232) l230]) [2,0,1,3,4] 5 rfl rfl rfl ?_
      obtain ⟨y543,hy544,h⟩:=bind_no h
      refine TL.cons (TL.callV (Lin:=[Mq Try.prog 106 3 b12 x234]) (args:=[.map (some b12),.agg #[VI x528,VI y502.f1,VI x529,VI x530,VI x531,.slice A533 l532.length c534],.slice A5 a1.length c6]) rfl rfl rfl hbd66 rfl rfl (forward_known_learn.calls (a0_0:=x234) (a1:=(⟨x528,y502.f1,x529,x530,x531,l532⟩:S37)) (a2:=a1) rd541 le542 (hr7.up e538) hl8 hy544) rfl ?_)
      rintro _ _ _ _ ⟨rfl,rfl,rfl⟩
      refine TL.nil ?_
      refine TQ.then_ ?_
      refine TC.region ?_
      refine TV rfl rfl rfl (Val.fieldAddrB Try.underlying42 rfl fsz38 rfl rfl rfl) ?_
      refine TV rfl rfl rfl (Val.loadB 2 agg38 rfl rfl rfl) ?_
      refine TV rfl rfl rfl (Val.loadsB 3 (cs:=[VI x528,VI y502.f1,VI x529,VI x530,VI x531,.slice A533 l532.length c534]) agg37 fsz37 rfl rfl rfl rfl) ?_
      refine TL.cons (TL.buildSlice (xs:=[.tmp 52]) (vs:=[.agg #[VI x528,VI y502.f1,VI x529,VI x530,VI x531,.slice A533 l532.length c534]]) (cs:=[VI x528,VI y502.f1,VI x529,VI x530,VI x531,.slice A533 l532.length c534]) rfl rfl Try.underlying38 zs37 rfl rfl rfl rfl rfl rfl rfl rfl (fun b545=>?_))
      refine TK.back hb540 ?_
      refine TK.conv (ch':=El k37 (⟨x528,y502.f1,x529,x530,x531,l532⟩:S37) [VI x528,VI y502.f1,VI x529,VI x530,VI x531,.slice A533 l532.length c534]) (fun B W F hh=>k37_mkM W B F (⟨x528,y502.f1,x529,x530,x531,l532⟩:S37) hh) ?_
      refine TK.sel (Ls:=[Row k37 37 (.slice A231 l230.length c232) l230,El k37 (⟨x528,y502.f1,x529,x530,x531,l532⟩:S37) [VI x528,VI y502.f1,VI x529,VI x530,VI x531,.slice A533 l532.length c534],Blk b545 [VI x528,VI y502.f1,VI x529,VI x530,VI x531,.slice A533 l532.length c534] 37,Mq Try.prog 106 3 b12 y543,Blk b10 [.slice none 0 0,VI 0,VI 0,VI 0,VI 0] 42,Blk b11 [.slice A231 l230.length c232,VI a0.f1.f0,VI a0.f1.f1,VI a0.f1.f2,VI a0.f1.f3] 42,Blk b515 [VI x528,VI y502.f1,VI x529,VI x530,VI x531,.slice A533 l532.length c534] 37]) [6,0,1,2,3,4,5] 7 rfl rfl rfl ?_
      obtain ⟨ha546,h⟩:=ite_no h
      refine TL.cons (TL.append (xs:=l230) k37 rfl rfl Try.underlying38 inf37 rfl (Nat.le_of_ble_eq_true rfl) (Nat.le_of_ble_eq_true rfl) rfl rfl (by omega) (fun A547 c548=>?_))
      refine TV rfl rfl rfl (Val.fieldAddrB Try.underlying42 rfl fsz38 rfl rfl rfl) ?_
      refine TL.cons (TL.store 3 (ds:=[.slice A547 (l230 ++ [(⟨x528,y502.f1,x529,x530,x531,l532⟩:S37)]).length c548]) (cs':=[.slice A547 (l230 ++ [(⟨x528,y502.f1,x529,x530,x531,l532⟩:S37)]).length c548,VI a0.f1.f0,VI a0.f1.f1,VI a0.f1.f2,VI a0.f1.f3]) (L':=(Row k37 37 (.slice A547 (l230 ++ [(⟨x528,y502.f1,x529,x530,x531,l532⟩:S37)]).length c548) (l230 ++ [(⟨x528,y502.f1,x529,x530,x531,l532⟩:S37)])::Mq Try.prog 106 3 b12 y543::Blk b10 [.slice none 0 0,VI 0,VI 0,VI 0,VI 0] 42::Blk b11 [.slice A547 (l230 ++ [(⟨x528,y502.f1,x529,x530,x531,l532⟩:S37)]).length c548,VI a0.f1.f0,VI a0.f1.f1,VI a0.f1.f2,VI a0.f1.f3] 42::Blk b515 [VI x528,VI y502.f1,VI x529,VI x530,VI x531,.slice A533 l532.length c534] 37::L)) rfl fsz38 rfl rfl rfl rfl rfl (Nat.le_of_ble_eq_true rfl) rfl rfl ?_)
      refine TL.nil ?_
      refine TQ.inB ?_
      refine TQ.then_ ?_
      refine TC.region ?_
      refine TV rfl rfl rfl (Val.cmp rfl rfl run_add) ?_
      refine TV rfl rfl rfl (Val.move rfl) ?_
      refine TL.nil ?_
      exact fun a W hF hO=>⟨IntKind.i64.wrap (x229 + 1),(l230 ++ [(⟨x528,y502.f1,x529,x530,x531,l532⟩:S37)]),y543,A547,c548,h,hF.sub ⟨rfl,rfl,rfl,rfl,rfl,rfl,rfl,trivial⟩,hO.selT (Ls:=[Blk b10 [.slice none 0 0,VI 0,VI 0,VI 0,VI 0] 42,Blk b11 [.slice A547 (l230 ++ [(⟨x528,y502.f1,x529,x530,x531,l532⟩:S37)]).length c548,VI a0.f1.f0,VI a0.f1.f1,VI a0.f1.f2,VI a0.f1.f3] 42,Mq Try.prog 106 3 b12 y543,Row k37 37 (.slice A547 (l230 ++ [(⟨x528,y502.f1,x529,x530,x531,l532⟩:S37)]).length c548) (l230 ++ [(⟨x528,y502.f1,x529,x530,x531,l532⟩:S37)])]) [2,3,1,0] 5 rfl rfl rfl⟩
     ·
      refine TC.cond_b rfl h (fun hc549 h=>?_) (fun hc549 h=>?_)
      ·
       refine TC.region ?_
       refine TV rfl rfl rfl (Val.fieldAddrB Try.underlying37 rfl fsz3 rfl rfl rfl) ?_
       refine TV rfl rfl rfl (Val.loadB 3 agg3 rfl rfl rfl) ?_
       refine TV rfl rfl rfl (Val.move rfl) ?_
       refine TV rfl rfl rfl (Val.build (cs:=[VI 3,VI y502.f1,VI (qget x234 (y502.f2,y502.f4)),VI 0,VI 0,.slice none 0 0]) (is:=[0,1,2]) (xs:=[.const (VI 3),.tmp 43,.tmp 44]) Try.underlying37 zr37 bld37 rfl rfl rfl rfl) ?_
       refine TL.cons (TL.store 3 (ds:=[VI 3,VI y502.f1,VI (qget x234 (y502.f2,y502.f4)),VI 0,VI 0,.slice none 0 0]) (cs':=[VI 3,VI y502.f1,VI (qget x234 (y502.f2,y502.f4)),VI 0,VI 0,.slice none 0 0]) (L':=(Blk b10 [.slice none 0 0,VI 0,VI 0,VI 0,VI 0] 42::Blk b11 [.slice A231 l230.length c232,VI a0.f1.f0,VI a0.f1.f1,VI a0.f1.f2,VI a0.f1.f3] 42::Mq Try.prog 106 3 b12 x234::Blk b515 [VI 3,VI y502.f1,VI (qget x234 (y502.f2,y502.f4)),VI 0,VI 0,.slice none 0 0] 37::Row k37 37 (.slice A231 l230.length c232) l230::Row kI 3 (.slice A518 y516.length c519) y516::L)) rfl fsz37 rfl rfl rfl rfl rfl (Nat.le_of_ble_eq_true rfl) rfl rfl ?_)
       refine TL.nil ?_
       exact fun a W hF hO=>⟨3,(qget x234 (y502.f2,y502.f4)),0,0,[],none,0,h,hF.sub ⟨rfl,rfl,rfl,rfl,rfl,rfl,rfl,rfl,trivial⟩,(Own.nilRow kI 3 hO).selT (Ls:=[Blk b10 [.slice none 0 0,VI 0,VI 0,VI 0,VI 0] 42,Blk b11 [.slice A231 l230.length c232,VI a0.f1.f0,VI a0.f1.f1,VI a0.f1.f2,VI a0.f1.f3] 42,Mq Try.prog 106 3 b12 x234,Blk b515 [VI 3,VI y502.f1,VI (qget x234 (y502.f2,y502.f4)),VI 0,VI 0,.slice none ([]:List Int).length 0] 37,Row k37 37 (.slice A231 l230.length c232) l230,Row kI 3 (.slice none ([]:List Int).length 0) ([]:List Int)]) [1,2,3,4,5,0] 7 rfl rfl rfl⟩
      ·
       refine TC.skip ?_
       exact fun a W hF hO=>⟨y502.f0,y502.f2,y502.f3,y502.f4,y516,A518,c519,h,hF.sub ⟨rfl,rfl,rfl,rfl,rfl,rfl,rfl,rfl,trivial⟩,hO.selT (Ls:=[Blk b10 [.slice none 0 0,VI 0,VI 0,VI 0,VI 0] 42,Blk b11 [.slice A231 l230.length c232,VI a0.f1.f0,VI a0.f1.f1,VI a0.f1.f2,VI a0.f1.f3] 42,Mq Try.prog 106 3 b12 x234,Blk b515 [VI y502.f0,VI y502.f1,VI y502.f2,VI y502.f3,VI y502.f4,.slice A518 y516.length c519] 37,Row k37 37 (.slice A231 l230.length c232) l230,Row kI 3 (.slice A518 y516.length c519) y516]) [0,1,2,3,4,5] 6 rfl rfl rfl⟩
    ·
     refine TC.region ?_
     refine TV rfl rfl rfl (Val.move rfl) ?_
     refine TV rfl rfl rfl (Val.move rfl) ?_
     refine TK.split (p:=(qhas x234 (y502.f2,y502.f4))=true) h (fun hg550 h=>?_) (fun hg550 h=>?_)
     ·
      have hk551:(qhas x234 (y502.f2,y502.f4))=true:=hg550
      refine TV (Wt.yes rfl rfl rfl hk551) rfl rfl (Val.fieldAddrB Try.underlying37 rfl fsz3 rfl rfl rfl) ?_
      refine TV (Wt.yes rfl rfl rfl hk551) rfl rfl (Val.loadB 1 agg3 rfl rfl rfl) ?_
      refine TV (Wt.yes rfl rfl rfl hk551) rfl rfl (Val.cmp rfl rfl run_eql) ?_
      refine TV rfl rfl rfl (Val.pickY rfl hk551 rfl) ?_
      refine TL.nil ?_
      exact fun a W hF hO=>⟨decide (y502.f0=4),h,hF.sub ⟨rfl,rfl,rfl,rfl,rfl,rfl,rfl,rfl,rfl,rfl,trivial⟩,hO.selT (Ls:=[Blk b10 [.slice none 0 0,VI 0,VI 0,VI 0,VI 0] 42,Blk b11 [.slice A231 l230.length c232,VI a0.f1.f0,VI a0.f1.f1,VI a0.f1.f2,VI a0.f1.f3] 42,Mq Try.prog 106 3 b12 x234,Blk b515 [VI y502.f0,VI y502.f1,VI y502.f2,VI y502.f3,VI y502.f4,.slice A518 y516.length c519] 37,Row k37 37 (.slice A231 l230.length c232) l230,Row kI 3 (.slice A518 y516.length c519) y516]) [2,3,4,1,5,0] 6 rfl rfl rfl⟩
     ·
      have hk552:(qhas x234 (y502.f2,y502.f4))=false:=(by simpa using hg550)
      refine TL.cons (TL.not (Wt.no rfl rfl rfl hk552) rfl ?_)
      refine TL.cons (TL.not (Wt.no rfl rfl rfl hk552) rfl ?_)
      refine TL.cons (TL.not (Wt.no rfl rfl rfl hk552) rfl ?_)
      refine TV rfl rfl rfl (Val.pickN rfl hk552 rfl) ?_
      refine TL.nil ?_
      exact fun a W hF hO=>⟨false,h,hF.sub ⟨rfl,rfl,rfl,rfl,rfl,rfl,rfl,rfl,rfl,rfl,trivial⟩,hO.selT (Ls:=[Blk b10 [.slice none 0 0,VI 0,VI 0,VI 0,VI 0] 42,Blk b11 [.slice A231 l230.length c232,VI a0.f1.f0,VI a0.f1.f1,VI a0.f1.f2,VI a0.f1.f3] 42,Mq Try.prog 106 3 b12 x234,Blk b515 [VI y502.f0,VI y502.f1,VI y502.f2,VI y502.f3,VI y502.f4,.slice A518 y516.length c519] 37,Row k37 37 (.slice A231 l230.length c232) l230,Row kI 3 (.slice A518 y516.length c519) y516]) [2,3,4,1,5,0] 6 rfl rfl rfl⟩
   ·
    refine TC.exit ?_
    refine TQ.thenX ?_
    refine TQ.thenX ?_
    refine TQ.inBX ?_
    exact fun a W hF hO=>⟨l230,A231,c232,Option.some.inj h,hF.sub ⟨rfl,rfl,trivial⟩,hO.selT (Ls:=[Blk b10 [.slice none 0 0,VI 0,VI 0,VI 0,VI 0] 42,Blk b11 [.slice A231 l230.length c232,VI a0.f1.f0,VI a0.f1.f1,VI a0.f1.f2,VI a0.f1.f3] 42,Row k37 37 (.slice A231 l230.length c232) l230]) [0,1,3] 4 rfl rfl rfl⟩
def swagelaw22_some.f:Option S42:=some (⟨([(⟨5,0,1,2,0,([]:List Int)⟩:S37),(⟨4,3,1,0,0,([]:List Int)⟩:S37),(⟨4,4,1,0,1,([]:List Int)⟩:S37),(⟨4,5,1,0,1,([]:List Int)⟩:S37)]:List S37),(⟨3,5,0,0⟩:S40)⟩:S42)
def swagelaw22_some.post (G:Gd)  (r:S42) (v:Value) (G':Gd) (Lr:List Ch):Prop:=G=G'∧∃ (A_1:Option Addr) (c_1:Nat),v=.agg #[.slice A_1 r.f0.length c_1,VI r.f1.f0,VI r.f1.f1,VI r.f1.f2,VI r.f1.f3]∧Lr=[Row k37 37 (.slice A_1 r.f0.length c_1) r.f0]
theorem swagelaw22_some.calls {G:Gd} {r:S42} (h:swagelaw22_some.f=some r):Fn Try.prog 40 G [] [] (swagelaw22_some.post G  r):=by
 refine Fn.intro (e:=[]) 8 Try.func40 rfl Try.ntmps40 rfl rfl (Nat.le_of_ble_eq_true rfl) (fun L=>?_)
 unfold swagelaw22_some.f at h
 refine TC.seq ?_
 refine TC.region ?_
 refine TL.cons (TL.alloc (cs:=[.slice none 0 0,VI 0,VI 0,VI 0,VI 0]) rfl rfl zr42 rfl (fun b1=>?_))
 refine TL.nil ?_
 refine TQ.then_ ?_
 refine TC.seq ?_
 refine TC.region ?_
 refine TV rfl rfl rfl (Val.build (cs:=[VI 5,VI 0,VI 1,VI 2,VI 0,.slice none 0 0]) (is:=[0,2,3]) (xs:=[.const (VI 5),.const (VI 1),.const (VI 2)]) Try.underlying37 zr37 bld37 rfl rfl rfl rfl) ?_
 refine TV rfl rfl rfl (Val.build (cs:=[VI 4,VI 3,VI 1,VI 0,VI 0,.slice none 0 0]) (is:=[0,1,2]) (xs:=[.const (VI 4),.const (VI 3),.const (VI 1)]) Try.underlying37 zr37 bld37 rfl rfl rfl rfl) ?_
 refine TV rfl rfl rfl (Val.build (cs:=[VI 4,VI 4,VI 1,VI 0,VI 1,.slice none 0 0]) (is:=[0,1,2,4]) (xs:=[.const (VI 4),.const (VI 4),.const (VI 1),.const (VI 1)]) Try.underlying37 zr37 bld37 rfl rfl rfl rfl) ?_
 refine TV rfl rfl rfl (Val.build (cs:=[VI 4,VI 5,VI 1,VI 0,VI 1,.slice none 0 0]) (is:=[0,1,2,4]) (xs:=[.const (VI 4),.const (VI 5),.const (VI 1),.const (VI 1)]) Try.underlying37 zr37 bld37 rfl rfl rfl rfl) ?_
 refine TL.cons (TL.buildSlice (xs:=[.tmp 1,.tmp 2,.tmp 3,.tmp 4]) (vs:=[.agg #[VI 5,VI 0,VI 1,VI 2,VI 0,.slice none 0 0],.agg #[VI 4,VI 3,VI 1,VI 0,VI 0,.slice none 0 0],.agg #[VI 4,VI 4,VI 1,VI 0,VI 1,.slice none 0 0],.agg #[VI 4,VI 5,VI 1,VI 0,VI 1,.slice none 0 0]]) (cs:=[VI 5,VI 0,VI 1,VI 2,VI 0,.slice none 0 0,VI 4,VI 3,VI 1,VI 0,VI 0,.slice none 0 0,VI 4,VI 4,VI 1,VI 0,VI 1,.slice none 0 0,VI 4,VI 5,VI 1,VI 0,VI 1,.slice none 0 0]) rfl rfl Try.underlying38 zs37 rfl rfl rfl rfl rfl rfl rfl rfl (fun b2=>?_))
 refine TV rfl rfl rfl (Val.build (cs:=[VI 3,VI 5,VI 0,VI 0]) (is:=[0,1]) (xs:=[.const (VI 3),.const (VI 5)]) Try.underlying40 zr40 bld40 rfl rfl rfl rfl) ?_
 refine TV rfl rfl rfl (Val.build (cs:=[.slice (some ⟨b2,0,none⟩) 4 4,VI 3,VI 5,VI 0,VI 0]) (is:=[0,1]) (xs:=[.tmp 5,.tmp 6]) Try.underlying42 zr42 bld42 rfl rfl rfl rfl) ?_
 refine TL.cons (TL.store 1 (ds:=[.slice (some ⟨b2,0,none⟩) 4 4,VI 3,VI 5,VI 0,VI 0]) (cs':=[.slice (some ⟨b2,0,none⟩) 4 4,VI 3,VI 5,VI 0,VI 0]) (L':=(Blk b2 [VI 5,VI 0,VI 1,VI 2,VI 0,.slice none 0 0,VI 4,VI 3,VI 1,VI 0,VI 0,.slice none 0 0,VI 4,VI 4,VI 1,VI 0,VI 1,.slice none 0 0,VI 4,VI 5,VI 1,VI 0,VI 1,.slice none 0 0] 37::Blk b1 [.slice (some ⟨b2,0,none⟩) 4 4,VI 3,VI 5,VI 0,VI 0] 42::L)) rfl fsz42 rfl rfl rfl rfl rfl (Nat.le_of_ble_eq_true rfl) rfl rfl ?_)
 refine TL.nil ?_
 refine TQ.then_ ?_
 refine TC.ret ?_
 refine TQ.new (Els.nil k37) ?_
 refine TQ.new (Row.nil kI 3) ?_
 refine TQ.conv (ch':=El k37 (⟨5,0,1,2,0,([]:List Int)⟩:S37) [VI 5,VI 0,VI 1,VI 2,VI 0,.slice none 0 0]) (fun B W F hh=>k37_mkM W B F (⟨5,0,1,2,0,([]:List Int)⟩:S37) hh) ?_
 refine TQ.sel (Ls:=[Els k37 [] [],El k37 (⟨5,0,1,2,0,([]:List Int)⟩:S37) [VI 5,VI 0,VI 1,VI 2,VI 0,.slice none 0 0],Blk b2 [VI 5,VI 0,VI 1,VI 2,VI 0,.slice none 0 0,VI 4,VI 3,VI 1,VI 0,VI 0,.slice none 0 0,VI 4,VI 4,VI 1,VI 0,VI 1,.slice none 0 0,VI 4,VI 5,VI 1,VI 0,VI 1,.slice none 0 0] 37,Blk b1 [.slice (some ⟨b2,0,none⟩) 4 4,VI 3,VI 5,VI 0,VI 0] 42]) [1,0,2,3] 4 rfl rfl rfl ?_
 refine TQ.two (ch:=Els k37 [(⟨5,0,1,2,0,([]:List Int)⟩:S37)] [VI 5,VI 0,VI 1,VI 2,VI 0,.slice none 0 0]) (Els.snoc k37) ?_
 refine TQ.new (Row.nil kI 3) ?_
 refine TQ.conv (ch':=El k37 (⟨4,3,1,0,0,([]:List Int)⟩:S37) [VI 4,VI 3,VI 1,VI 0,VI 0,.slice none 0 0]) (fun B W F hh=>k37_mkM W B F (⟨4,3,1,0,0,([]:List Int)⟩:S37) hh) ?_
 refine TQ.sel (Ls:=[Els k37 [(⟨5,0,1,2,0,([]:List Int)⟩:S37)] [VI 5,VI 0,VI 1,VI 2,VI 0,.slice none 0 0],El k37 (⟨4,3,1,0,0,([]:List Int)⟩:S37) [VI 4,VI 3,VI 1,VI 0,VI 0,.slice none 0 0],Blk b2 [VI 5,VI 0,VI 1,VI 2,VI 0,.slice none 0 0,VI 4,VI 3,VI 1,VI 0,VI 0,.slice none 0 0,VI 4,VI 4,VI 1,VI 0,VI 1,.slice none 0 0,VI 4,VI 5,VI 1,VI 0,VI 1,.slice none 0 0] 37,Blk b1 [.slice (some ⟨b2,0,none⟩) 4 4,VI 3,VI 5,VI 0,VI 0] 42]) [1,0,2,3] 4 rfl rfl rfl ?_
 refine TQ.two (ch:=Els k37 [(⟨5,0,1,2,0,([]:List Int)⟩:S37),(⟨4,3,1,0,0,([]:List Int)⟩:S37)] [VI 5,VI 0,VI 1,VI 2,VI 0,.slice none 0 0,VI 4,VI 3,VI 1,VI 0,VI 0,.slice none 0 0]) (Els.snoc k37) ?_
 refine TQ.new (Row.nil kI 3) ?_
 refine TQ.conv (ch':=El k37 (⟨4,4,1,0,1,([]:List Int)⟩:S37) [VI 4,VI 4,VI 1,VI 0,VI 1,.slice none 0 0]) (fun B W F hh=>k37_mkM W B F (⟨4,4,1,0,1,([]:List Int)⟩:S37) hh) ?_
 refine TQ.sel (Ls:=[Els k37 [(⟨5,0,1,2,0,([]:List Int)⟩:S37),(⟨4,3,1,0,0,([]:List Int)⟩:S37)] [VI 5,VI 0,VI 1,VI 2,VI 0,.slice none 0 0,VI 4,VI 3,VI 1,VI 0,VI 0,.slice none 0 0],El k37 (⟨4,4,1,0,1,([]:List Int)⟩:S37) [VI 4,VI 4,VI 1,VI 0,VI 1,.slice none 0 0],Blk b2 [VI 5,VI 0,VI 1,VI 2,VI 0,.slice none 0 0,VI 4,VI 3,VI 1,VI 0,VI 0,.slice none 0 0,VI 4,VI 4,VI 1,VI 0,VI 1,.slice none 0 0,VI 4,VI 5,VI 1,VI 0,VI 1,.slice none 0 0] 37,Blk b1 [.slice (some ⟨b2,0,none⟩) 4 4,VI 3,VI 5,VI 0,VI 0] 42]) [1,0,2,3] 4 rfl rfl rfl ?_
 refine TQ.two (ch:=Els k37 [(⟨5,0,1,2,0,([]:List Int)⟩:S37),(⟨4,3,1,0,0,([]:List Int)⟩:S37),(⟨4,4,1,0,1,([]:List Int)⟩:S37)] [VI 5,VI 0,VI 1,VI 2,VI 0,.slice none 0 0,VI 4,VI 3,VI 1,VI 0,VI 0,.slice none 0 0,VI 4,VI 4,VI 1,VI 0,VI 1,.slice none 0 0]) (Els.snoc k37) ?_
 refine TQ.new (Row.nil kI 3) ?_
 refine TQ.conv (ch':=El k37 (⟨4,5,1,0,1,([]:List Int)⟩:S37) [VI 4,VI 5,VI 1,VI 0,VI 1,.slice none 0 0]) (fun B W F hh=>k37_mkM W B F (⟨4,5,1,0,1,([]:List Int)⟩:S37) hh) ?_
 refine TQ.sel (Ls:=[Els k37 [(⟨5,0,1,2,0,([]:List Int)⟩:S37),(⟨4,3,1,0,0,([]:List Int)⟩:S37),(⟨4,4,1,0,1,([]:List Int)⟩:S37)] [VI 5,VI 0,VI 1,VI 2,VI 0,.slice none 0 0,VI 4,VI 3,VI 1,VI 0,VI 0,.slice none 0 0,VI 4,VI 4,VI 1,VI 0,VI 1,.slice none 0 0],El k37 (⟨4,5,1,0,1,([]:List Int)⟩:S37) [VI 4,VI 5,VI 1,VI 0,VI 1,.slice none 0 0],Blk b2 [VI 5,VI 0,VI 1,VI 2,VI 0,.slice none 0 0,VI 4,VI 3,VI 1,VI 0,VI 0,.slice none 0 0,VI 4,VI 4,VI 1,VI 0,VI 1,.slice none 0 0,VI 4,VI 5,VI 1,VI 0,VI 1,.slice none 0 0] 37,Blk b1 [.slice (some ⟨b2,0,none⟩) 4 4,VI 3,VI 5,VI 0,VI 0] 42]) [1,0,2,3] 4 rfl rfl rfl ?_
 refine TQ.two (ch:=Els k37 [(⟨5,0,1,2,0,([]:List Int)⟩:S37),(⟨4,3,1,0,0,([]:List Int)⟩:S37),(⟨4,4,1,0,1,([]:List Int)⟩:S37),(⟨4,5,1,0,1,([]:List Int)⟩:S37)] [VI 5,VI 0,VI 1,VI 2,VI 0,.slice none 0 0,VI 4,VI 3,VI 1,VI 0,VI 0,.slice none 0 0,VI 4,VI 4,VI 1,VI 0,VI 1,.slice none 0 0,VI 4,VI 5,VI 1,VI 0,VI 1,.slice none 0 0]) (Els.snoc k37) ?_
 refine TQ.sel (Ls:=[Blk b2 [VI 5,VI 0,VI 1,VI 2,VI 0,.slice none 0 0,VI 4,VI 3,VI 1,VI 0,VI 0,.slice none 0 0,VI 4,VI 4,VI 1,VI 0,VI 1,.slice none 0 0,VI 4,VI 5,VI 1,VI 0,VI 1,.slice none 0 0] 37,Els k37 [(⟨5,0,1,2,0,([]:List Int)⟩:S37),(⟨4,3,1,0,0,([]:List Int)⟩:S37),(⟨4,4,1,0,1,([]:List Int)⟩:S37),(⟨4,5,1,0,1,([]:List Int)⟩:S37)] [VI 5,VI 0,VI 1,VI 2,VI 0,.slice none 0 0,VI 4,VI 3,VI 1,VI 0,VI 0,.slice none 0 0,VI 4,VI 4,VI 1,VI 0,VI 1,.slice none 0 0,VI 4,VI 5,VI 1,VI 0,VI 1,.slice none 0 0],Blk b1 [.slice (some ⟨b2,0,none⟩) 4 4,VI 3,VI 5,VI 0,VI 0] 42]) [1,0,2] 3 rfl rfl rfl ?_
 refine TQ.two (ch:=Row k37 37 (.slice (some ⟨b2,0,none⟩) 4 4) ([(⟨5,0,1,2,0,([]:List Int)⟩:S37),(⟨4,3,1,0,0,([]:List Int)⟩:S37),(⟨4,4,1,0,1,([]:List Int)⟩:S37),(⟨4,5,1,0,1,([]:List Int)⟩:S37)]:List S37)) (Row.lit k37 rfl rfl) ?_
 obtain rfl:=Option.some.inj h
 exact TQ.fin (.inl rfl) rfl Try.results40 (.cells 1 rfl rfl agg42 fsz42 .nil) rfl (FRel.mk (Ls:=[Row k37 37 (.slice (some ⟨b2,0,none⟩) 4 4) ([(⟨5,0,1,2,0,([]:List Int)⟩:S37),(⟨4,3,1,0,0,([]:List Int)⟩:S37),(⟨4,4,1,0,1,([]:List Int)⟩:S37),(⟨4,5,1,0,1,([]:List Int)⟩:S37)]:List S37)]) [0] 2 (Gd.le.refl _) rfl rfl rfl ⟨rfl,(some ⟨b2,0,none⟩),4,rfl,rfl⟩)
def swageref14_SameOp.f (a0:S37) (a1:S37):Option Bool:=(swageref02_Ints.f a0.f5 a1.f5).bind fun (y11:Bool)=>(if y11=true then (if a0.f0=a1.f0 then (if a0.f1=a1.f1 then (if a0.f2=a1.f2 then (if a0.f3=a1.f3 then some (decide (a0.f4=a1.f4)) else some false) else some false) else some false) else some false) else some false)
def swageref14_SameOp.post (G:Gd)  (r:Bool) (v:Value) (G':Gd) (Lr:List Ch):Prop:=G=G'∧v=.bool r∧Lr=[]
theorem swageref14_SameOp.calls {G:Gd} {r:Bool} {a0:S37} {a1:S37} {A1:Option Addr} {c2:Nat} {A5:Option Addr} {c6:Nat} (hr3:Rd G kI A1 a0.f5) (hl4:a0.f5.length ≤ c2) (hr7:Rd G kI A5 a1.f5) (hl8:a1.f5.length ≤ c6) (h:swageref14_SameOp.f a0 a1=some r):Fn Try.prog 48 G [] [.agg #[VI a0.f0,VI a0.f1,VI a0.f2,VI a0.f3,VI a0.f4,.slice A1 a0.f5.length c2],.agg #[VI a1.f0,VI a1.f1,VI a1.f2,VI a1.f3,VI a1.f4,.slice A5 a1.f5.length c6]] (swageref14_SameOp.post G  r):=by
 refine Fn.intro (e:=[(0,.agg #[VI a0.f0,VI a0.f1,VI a0.f2,VI a0.f3,VI a0.f4,.slice A1 a0.f5.length c2]),(1,.agg #[VI a1.f0,VI a1.f1,VI a1.f2,VI a1.f3,VI a1.f4,.slice A5 a1.f5.length c6])]) 47 Try.func48 rfl Try.ntmps48 rfl rfl (Nat.le_of_ble_eq_true rfl) (fun L=>?_)
 unfold swageref14_SameOp.f at h
 refine TC.seq ?_
 refine TC.region ?_
 refine TL.cons (TL.box (cs:=[VI a0.f0,VI a0.f1,VI a0.f2,VI a0.f3,VI a0.f4,.slice A1 a0.f5.length c2]) rfl rfl rfl rfl (fun b9=>?_))
 refine TL.cons (TL.box (cs:=[VI a1.f0,VI a1.f1,VI a1.f2,VI a1.f3,VI a1.f4,.slice A5 a1.f5.length c6]) rfl rfl rfl rfl (fun b10=>?_))
 refine TV rfl rfl rfl (Val.assign rfl) ?_
 refine TL.nil ?_
 refine TQ.then_ ?_
 refine TC.seq ?_
 refine TC.region ?_
 refine TV rfl rfl rfl (Val.fieldAddrB Try.underlying37 rfl fsz23 rfl rfl rfl) ?_
 refine TV rfl rfl rfl (Val.loadB 1 agg23 rfl rfl rfl) ?_
 refine TV rfl rfl rfl (Val.fieldAddrB Try.underlying37 rfl fsz23 rfl rfl rfl) ?_
 refine TV rfl rfl rfl (Val.loadB 0 agg23 rfl rfl rfl) ?_
 obtain ⟨y11,hy12,h⟩:=bind_no h
 refine TL.cons (TL.callV (Lin:=[]) (args:=[.slice A1 a0.f5.length c2,.slice A5 a1.f5.length c6]) rfl rfl rfl hbd14 rfl rfl (swageref02_Ints.calls (a0:=a0.f5) (a1:=a1.f5) hr3 hl4 hr7 hl8 hy12) rfl ?_)
 rintro _ _ _ _ ⟨rfl,rfl,rfl⟩
 refine TV rfl rfl rfl (Val.assign rfl) ?_
 refine TL.nil ?_
 refine TQ.then_ ?_
 refine TC.seq ?_
 refine TC.region ?_
 refine TV rfl rfl rfl (Val.move rfl) ?_
 refine TV rfl rfl rfl (Val.move rfl) ?_
 refine TK.split (p:=y11=true) h (fun hg28 h=>?_) (fun hg28 h=>?_)
 ·
  have hk29:y11=true:=hg28
  refine TV (Wt.yes rfl rfl rfl hk29) rfl rfl (Val.fieldAddrB Try.underlying37 rfl fsz3 rfl rfl rfl) ?_
  refine TV (Wt.yes rfl rfl rfl hk29) rfl rfl (Val.loadB 1 agg3 rfl rfl rfl) ?_
  refine TV (Wt.yes rfl rfl rfl hk29) rfl rfl (Val.fieldAddrB Try.underlying37 rfl fsz3 rfl rfl rfl) ?_
  refine TV (Wt.yes rfl rfl rfl hk29) rfl rfl (Val.loadB 0 agg3 rfl rfl rfl) ?_
  refine TV (Wt.yes rfl rfl rfl hk29) rfl rfl (Val.cmp rfl rfl run_eql) ?_
  refine TV rfl rfl rfl (Val.pickY rfl hk29 rfl) ?_
  refine TV rfl rfl rfl (Val.move rfl) ?_
  refine TK.split (p:=a0.f0=a1.f0) h (fun hg30 h=>?_) (fun hg30 h=>?_)
  ·
   have hk31:decide (a0.f0=a1.f0)=true:=decide_eq_true hg30
   refine TV (Wt.yes rfl rfl rfl hk31) rfl rfl (Val.fieldAddrB Try.underlying37 rfl fsz3 rfl rfl rfl) ?_
   refine TV (Wt.yes rfl rfl rfl hk31) rfl rfl (Val.loadB 1 agg3 rfl rfl rfl) ?_
   refine TV (Wt.yes rfl rfl rfl hk31) rfl rfl (Val.fieldAddrB Try.underlying37 rfl fsz3 rfl rfl rfl) ?_
   refine TV (Wt.yes rfl rfl rfl hk31) rfl rfl (Val.loadB 0 agg3 rfl rfl rfl) ?_
   refine TV (Wt.yes rfl rfl rfl hk31) rfl rfl (Val.cmp rfl rfl run_eql) ?_
   refine TV rfl rfl rfl (Val.pickY rfl hk31 rfl) ?_
   refine TV rfl rfl rfl (Val.move rfl) ?_
   refine TK.split (p:=a0.f1=a1.f1) h (fun hg32 h=>?_) (fun hg32 h=>?_)
   ·
    have hk33:decide (a0.f1=a1.f1)=true:=decide_eq_true hg32
    refine TV (Wt.yes rfl rfl rfl hk33) rfl rfl (Val.fieldAddrB Try.underlying37 rfl fsz3 rfl rfl rfl) ?_
    refine TV (Wt.yes rfl rfl rfl hk33) rfl rfl (Val.loadB 1 agg3 rfl rfl rfl) ?_
    refine TV (Wt.yes rfl rfl rfl hk33) rfl rfl (Val.fieldAddrB Try.underlying37 rfl fsz3 rfl rfl rfl) ?_
    refine TV (Wt.yes rfl rfl rfl hk33) rfl rfl (Val.loadB 0 agg3 rfl rfl rfl) ?_
    refine TV (Wt.yes rfl rfl rfl hk33) rfl rfl (Val.cmp rfl rfl run_eql) ?_
    refine TV rfl rfl rfl (Val.pickY rfl hk33 rfl) ?_
    refine TV rfl rfl rfl (Val.move rfl) ?_
    refine TK.split (p:=a0.f2=a1.f2) h (fun hg34 h=>?_) (fun hg34 h=>?_)
    ·
     have hk35:decide (a0.f2=a1.f2)=true:=decide_eq_true hg34
     refine TV (Wt.yes rfl rfl rfl hk35) rfl rfl (Val.fieldAddrB Try.underlying37 rfl fsz3 rfl rfl rfl) ?_
     refine TV (Wt.yes rfl rfl rfl hk35) rfl rfl (Val.loadB 1 agg3 rfl rfl rfl) ?_
     refine TV (Wt.yes rfl rfl rfl hk35) rfl rfl (Val.fieldAddrB Try.underlying37 rfl fsz3 rfl rfl rfl) ?_
     refine TV (Wt.yes rfl rfl rfl hk35) rfl rfl (Val.loadB 0 agg3 rfl rfl rfl) ?_
     refine TV (Wt.yes rfl rfl rfl hk35) rfl rfl (Val.cmp rfl rfl run_eql) ?_
     refine TV rfl rfl rfl (Val.pickY rfl hk35 rfl) ?_
     refine TV rfl rfl rfl (Val.move rfl) ?_
     refine TK.split (p:=a0.f3=a1.f3) h (fun hg36 h=>?_) (fun hg36 h=>?_)
     ·
      have hk37:decide (a0.f3=a1.f3)=true:=decide_eq_true hg36
      refine TV (Wt.yes rfl rfl rfl hk37) rfl rfl (Val.fieldAddrB Try.underlying37 rfl fsz3 rfl rfl rfl) ?_
      refine TV (Wt.yes rfl rfl rfl hk37) rfl rfl (Val.loadB 1 agg3 rfl rfl rfl) ?_
      refine TV (Wt.yes rfl rfl rfl hk37) rfl rfl (Val.fieldAddrB Try.underlying37 rfl fsz3 rfl rfl rfl) ?_
      refine TV (Wt.yes rfl rfl rfl hk37) rfl rfl (Val.loadB 0 agg3 rfl rfl rfl) ?_
      refine TV (Wt.yes rfl rfl rfl hk37) rfl rfl (Val.cmp rfl rfl run_eql) ?_
      refine TV rfl rfl rfl (Val.pickY rfl hk37 rfl) ?_
      refine TV rfl rfl rfl (Val.assign rfl) ?_
      refine TL.nil ?_
      refine TQ.then_ ?_
      refine TC.ret ?_
      obtain rfl:=Option.some.inj h
      exact TQ.fin (.inl rfl) rfl Try.results48 (.tmp rfl .nil) rfl (FRel.mk (Ls:=[]) [] 2 (Gd.le.refl _) rfl rfl rfl ⟨rfl,rfl,rfl⟩)
     ·
      have hk38:decide (a0.f3=a1.f3)=false:=decide_eq_false hg36
      refine TL.cons (TL.not (Wt.no rfl rfl rfl hk38) rfl ?_)
      refine TL.cons (TL.not (Wt.no rfl rfl rfl hk38) rfl ?_)
      refine TL.cons (TL.not (Wt.no rfl rfl rfl hk38) rfl ?_)
      refine TL.cons (TL.not (Wt.no rfl rfl rfl hk38) rfl ?_)
      refine TL.cons (TL.not (Wt.no rfl rfl rfl hk38) rfl ?_)
      refine TV rfl rfl rfl (Val.pickN rfl hk38 rfl) ?_
      refine TV rfl rfl rfl (Val.assign rfl) ?_
      refine TL.nil ?_
      refine TQ.then_ ?_
      refine TC.ret ?_
      obtain rfl:=Option.some.inj h
      exact TQ.fin (.inl rfl) rfl Try.results48 (.tmp rfl .nil) rfl (FRel.mk (Ls:=[]) [] 2 (Gd.le.refl _) rfl rfl rfl ⟨rfl,rfl,rfl⟩)
    ·
     have hk39:decide (a0.f2=a1.f2)=false:=decide_eq_false hg34
     refine TL.cons (TL.not (Wt.no rfl rfl rfl hk39) rfl ?_)
     refine TL.cons (TL.not (Wt.no rfl rfl rfl hk39) rfl ?_)
     refine TL.cons (TL.not (Wt.no rfl rfl rfl hk39) rfl ?_)
     refine TL.cons (TL.not (Wt.no rfl rfl rfl hk39) rfl ?_)
     refine TL.cons (TL.not (Wt.no rfl rfl rfl hk39) rfl ?_)
     refine TV rfl rfl rfl (Val.pickN rfl hk39 rfl) ?_
     refine TV rfl rfl rfl (Val.move rfl) ?_
     refine TL.cons (TL.not (Wt.no rfl rfl rfl rfl) rfl ?_)
     refine TL.cons (TL.not (Wt.no rfl rfl rfl rfl) rfl ?_)
     refine TL.cons (TL.not (Wt.no rfl rfl rfl rfl) rfl ?_)
     refine TL.cons (TL.not (Wt.no rfl rfl rfl rfl) rfl ?_)
     refine TL.cons (TL.not (Wt.no rfl rfl rfl rfl) rfl ?_)
     refine TV rfl rfl rfl (Val.pickN rfl rfl rfl) ?_
     refine TV rfl rfl rfl (Val.assign rfl) ?_
     refine TL.nil ?_
     refine TQ.then_ ?_
     refine TC.ret ?_
     obtain rfl:=Option.some.inj h
     exact TQ.fin (.inl rfl) rfl Try.results48 (.tmp rfl .nil) rfl (FRel.mk (Ls:=[]) [] 2 (Gd.le.refl _) rfl rfl rfl ⟨rfl,rfl,rfl⟩)
   ·
    have hk40:decide (a0.f1=a1.f1)=false:=decide_eq_false hg32
    refine TL.cons (TL.not (Wt.no rfl rfl rfl hk40) rfl ?_)
    refine TL.cons (TL.not (Wt.no rfl rfl rfl hk40) rfl ?_)
    refine TL.cons (TL.not (Wt.no rfl rfl rfl hk40) rfl ?_)
    refine TL.cons (TL.not (Wt.no rfl rfl rfl hk40) rfl ?_)
    refine TL.cons (TL.not (Wt.no rfl rfl rfl hk40) rfl ?_)
    refine TV rfl rfl rfl (Val.pickN rfl hk40 rfl) ?_
    refine TV rfl rfl rfl (Val.move rfl) ?_
    refine TL.cons (TL.not (Wt.no rfl rfl rfl rfl) rfl ?_)
    refine TL.cons (TL.not (Wt.no rfl rfl rfl rfl) rfl ?_)
    refine TL.cons (TL.not (Wt.no rfl rfl rfl rfl) rfl ?_)
    refine TL.cons (TL.not (Wt.no rfl rfl rfl rfl) rfl ?_)
    refine TL.cons (TL.not (Wt.no rfl rfl rfl rfl) rfl ?_)
    refine TV rfl rfl rfl (Val.pickN rfl rfl rfl) ?_
    refine TV rfl rfl rfl (Val.move rfl) ?_
    refine TL.cons (TL.not (Wt.no rfl rfl rfl rfl) rfl ?_)
    refine TL.cons (TL.not (Wt.no rfl rfl rfl rfl) rfl ?_)
    refine TL.cons (TL.not (Wt.no rfl rfl rfl rfl) rfl ?_)
    refine TL.cons (TL.not (Wt.no rfl rfl rfl rfl) rfl ?_)
    refine TL.cons (TL.not (Wt.no rfl rfl rfl rfl) rfl ?_)
    refine TV rfl rfl rfl (Val.pickN rfl rfl rfl) ?_
    refine TV rfl rfl rfl (Val.assign rfl) ?_
    refine TL.nil ?_
    refine TQ.then_ ?_
    refine TC.ret ?_
    obtain rfl:=Option.some.inj h
    exact TQ.fin (.inl rfl) rfl Try.results48 (.tmp rfl .nil) rfl (FRel.mk (Ls:=[]) [] 2 (Gd.le.refl _) rfl rfl rfl ⟨rfl,rfl,rfl⟩)
  ·
   have hk41:decide (a0.f0=a1.f0)=false:=decide_eq_false hg30
   refine TL.cons (TL.not (Wt.no rfl rfl rfl hk41) rfl ?_)
   refine TL.cons (TL.not (Wt.no rfl rfl rfl hk41) rfl ?_)
   refine TL.cons (TL.not (Wt.no rfl rfl rfl hk41) rfl ?_)
   refine TL.cons (TL.not (Wt.no rfl rfl rfl hk41) rfl ?_)
   refine TL.cons (TL.not (Wt.no rfl rfl rfl hk41) rfl ?_)
   refine TV rfl rfl rfl (Val.pickN rfl hk41 rfl) ?_
   refine TV rfl rfl rfl (Val.move rfl) ?_
   refine TL.cons (TL.not (Wt.no rfl rfl rfl rfl) rfl ?_)
   refine TL.cons (TL.not (Wt.no rfl rfl rfl rfl) rfl ?_)
   refine TL.cons (TL.not (Wt.no rfl rfl rfl rfl) rfl ?_)
   refine TL.cons (TL.not (Wt.no rfl rfl rfl rfl) rfl ?_)
   refine TL.cons (TL.not (Wt.no rfl rfl rfl rfl) rfl ?_)
   refine TV rfl rfl rfl (Val.pickN rfl rfl rfl) ?_
   refine TV rfl rfl rfl (Val.move rfl) ?_
   refine TL.cons (TL.not (Wt.no rfl rfl rfl rfl) rfl ?_)
   refine TL.cons (TL.not (Wt.no rfl rfl rfl rfl) rfl ?_)
   refine TL.cons (TL.not (Wt.no rfl rfl rfl rfl) rfl ?_)
   refine TL.cons (TL.not (Wt.no rfl rfl rfl rfl) rfl ?_)
   refine TL.cons (TL.not (Wt.no rfl rfl rfl rfl) rfl ?_)
   refine TV rfl rfl rfl (Val.pickN rfl rfl rfl) ?_
   refine TV rfl rfl rfl (Val.move rfl) ?_
   refine TL.cons (TL.not (Wt.no rfl rfl rfl rfl) rfl ?_)
   refine TL.cons (TL.not (Wt.no rfl rfl rfl rfl) rfl ?_)
   refine TL.cons (TL.not (Wt.no rfl rfl rfl rfl) rfl ?_)
   refine TL.cons (TL.not (Wt.no rfl rfl rfl rfl) rfl ?_)
   refine TL.cons (TL.not (Wt.no rfl rfl rfl rfl) rfl ?_)
   refine TV rfl rfl rfl (Val.pickN rfl rfl rfl) ?_
   refine TV rfl rfl rfl (Val.assign rfl) ?_
   refine TL.nil ?_
   refine TQ.then_ ?_
   refine TC.ret ?_
   obtain rfl:=Option.some.inj h
   exact TQ.fin (.inl rfl) rfl Try.results48 (.tmp rfl .nil) rfl (FRel.mk (Ls:=[]) [] 2 (Gd.le.refl _) rfl rfl rfl ⟨rfl,rfl,rfl⟩)
 ·
  have hk42:y11=false:=(by simpa using hg28)
  refine TL.cons (TL.not (Wt.no rfl rfl rfl hk42) rfl ?_)
  refine TL.cons (TL.not (Wt.no rfl rfl rfl hk42) rfl ?_)
  refine TL.cons (TL.not (Wt.no rfl rfl rfl hk42) rfl ?_)
  refine TL.cons (TL.not (Wt.no rfl rfl rfl hk42) rfl ?_)
  refine TL.cons (TL.not (Wt.no rfl rfl rfl hk42) rfl ?_)
  refine TV rfl rfl rfl (Val.pickN rfl hk42 rfl) ?_
  refine TV rfl rfl rfl (Val.move rfl) ?_
  refine TL.cons (TL.not (Wt.no rfl rfl rfl rfl) rfl ?_)
  refine TL.cons (TL.not (Wt.no rfl rfl rfl rfl) rfl ?_)
  refine TL.cons (TL.not (Wt.no rfl rfl rfl rfl) rfl ?_)
  refine TL.cons (TL.not (Wt.no rfl rfl rfl rfl) rfl ?_)
  refine TL.cons (TL.not (Wt.no rfl rfl rfl rfl) rfl ?_)
  refine TV rfl rfl rfl (Val.pickN rfl rfl rfl) ?_
  refine TV rfl rfl rfl (Val.move rfl) ?_
  refine TL.cons (TL.not (Wt.no rfl rfl rfl rfl) rfl ?_)
  refine TL.cons (TL.not (Wt.no rfl rfl rfl rfl) rfl ?_)
  refine TL.cons (TL.not (Wt.no rfl rfl rfl rfl) rfl ?_)
  refine TL.cons (TL.not (Wt.no rfl rfl rfl rfl) rfl ?_)
  refine TL.cons (TL.not (Wt.no rfl rfl rfl rfl) rfl ?_)
  refine TV rfl rfl rfl (Val.pickN rfl rfl rfl) ?_
  refine TV rfl rfl rfl (Val.move rfl) ?_
  refine TL.cons (TL.not (Wt.no rfl rfl rfl rfl) rfl ?_)
  refine TL.cons (TL.not (Wt.no rfl rfl rfl rfl) rfl ?_)
  refine TL.cons (TL.not (Wt.no rfl rfl rfl rfl) rfl ?_)
  refine TL.cons (TL.not (Wt.no rfl rfl rfl rfl) rfl ?_)
  refine TL.cons (TL.not (Wt.no rfl rfl rfl rfl) rfl ?_)
  refine TV rfl rfl rfl (Val.pickN rfl rfl rfl) ?_
  refine TV rfl rfl rfl (Val.move rfl) ?_
  refine TL.cons (TL.not (Wt.no rfl rfl rfl rfl) rfl ?_)
  refine TL.cons (TL.not (Wt.no rfl rfl rfl rfl) rfl ?_)
  refine TL.cons (TL.not (Wt.no rfl rfl rfl rfl) rfl ?_)
  refine TL.cons (TL.not (Wt.no rfl rfl rfl rfl) rfl ?_)
  refine TL.cons (TL.not (Wt.no rfl rfl rfl rfl) rfl ?_)
  refine TV rfl rfl rfl (Val.pickN rfl rfl rfl) ?_
  refine TV rfl rfl rfl (Val.assign rfl) ?_
  refine TL.nil ?_
  refine TQ.then_ ?_
  refine TC.ret ?_
  obtain rfl:=Option.some.inj h
  exact TQ.fin (.inl rfl) rfl Try.results48 (.tmp rfl .nil) rfl (FRel.mk (Ls:=[]) [] 2 (Gd.le.refl _) rfl rfl rfl ⟨rfl,rfl,rfl⟩)
def swageref14_Same.l1 (a0:S45) (a1:S45) (x2185:Int):Nat → Int → Option (Sum (Sum Bool (Unit)) (Unit))
 | 0,_=>none
 | n5638 + 1,x5453=>(at? a0.f1 x2185).bind fun y5822=>(if x5453 < (y5822.f0.length:Int) then (at? y5822.f0 x5453).bind fun y5962=>(at? a1.f1 x2185).bind fun y5975=>(at? y5975.f0 x5453).bind fun y5988=>(swageref14_SameOp.f y5962 y5988).bind fun (y6001:Bool)=>(if (!y6001)=true then some (.inl (.inl false)) else swageref14_Same.l1 a0 a1 x2185 n5638 (IntKind.i64.wrap (x5453 + 1))) else some (.inr ()))
def swageref14_Same.l0 (a0:S45) (a1:S45):Nat → Int → Option (Sum Bool (Unit))
 | 0,_=>none
 | n3270 + 1,x2185=>(if x2185 < (a0.f1.length:Int) then jn (γ:=(Sum Bool (Unit))) (fun (x5082:Bool)=>(if x5082=true then some (.inl false) else (swageref14_Same.l1 a0 a1 x2185 ((at? a0.f1 x2185).elim 0 (fun vy5639=>vy5639.f0.length) + 1) 0).bind fun | .inl q_=>some q_ | .inr _=>(swageref14_Same.l0 a0 a1 n3270 (IntKind.i64.wrap (x2185 + 1))))) (fun (j5083:(Bool → Option (Sum Bool (Unit))))=>(at? a0.f1 x2185).bind fun y6034=>(at? a1.f1 x2185).bind fun y6047=>(if (!((y6034.f1.f0 == y6047.f1.f0) && ((y6034.f1.f1 == y6047.f1.f1) && ((y6034.f1.f2 == y6047.f1.f2) && (y6034.f1.f3 == y6047.f1.f3)))))=true then j5083 true else j5083 (!decide ((y6034.f0.length:Int)=(y6047.f0.length:Int))))) else some (.inr ()))
def swageref14_Same.f (a0:S45) (a1:S45):Option Bool:=jn (γ:=Bool) (fun (x14:Bool)=>(if x14=true then some false else (swageref14_Same.l0 a0 a1 (a0.f1.length + 1) 0).bind fun | .inl q_=>some q_ | .inr _=>(some true))) (fun (j15:(Bool → Option Bool))=>(if (!decide (a0.f0=a1.f0))=true then j15 true else j15 (!decide ((a0.f1.length:Int)=(a1.f1.length:Int)))))
def swageref14_Same.post (G:Gd)  (r:Bool) (v:Value) (G':Gd) (Lr:List Ch):Prop:=G=G'∧v=.bool r∧Lr=[]
theorem swageref14_Same.calls {G:Gd} {r:Bool} {a0:S45} {a1:S45} {A1:Option Addr} {c2:Nat} {A5:Option Addr} {c6:Nat} (hr3:Rd G k42 A1 a0.f1) (hl4:a0.f1.length ≤ c2) (hr7:Rd G k42 A5 a1.f1) (hl8:a1.f1.length ≤ c6) (h:swageref14_Same.f a0 a1=some r):Fn Try.prog 41 G [] [.agg #[VI a0.f0,.slice A1 a0.f1.length c2],.agg #[VI a1.f0,.slice A5 a1.f1.length c6]] (swageref14_Same.post G  r):=by
 refine Fn.intro (e:=[(0,.agg #[VI a0.f0,.slice A1 a0.f1.length c2]),(1,.agg #[VI a1.f0,.slice A5 a1.f1.length c6])]) 91 Try.func41 rfl Try.ntmps41 rfl rfl (Nat.le_of_ble_eq_true rfl) (fun L=>?_)
 unfold swageref14_Same.f at h
 refine TC.seq ?_
 refine TC.region ?_
 refine TL.cons (TL.box (cs:=[VI a0.f0,.slice A1 a0.f1.length c2]) rfl rfl rfl rfl (fun b9=>?_))
 refine TL.cons (TL.box (cs:=[VI a1.f0,.slice A5 a1.f1.length c6]) rfl rfl rfl rfl (fun b10=>?_))
 refine TV rfl rfl rfl (Val.assign rfl) ?_
 refine TL.nil ?_
 refine TQ.then_ ?_
 refine TC.seq ?_
 refine TC.seq ?_
 obtain ⟨j15,hj15,h⟩:=jn_no h
 refine TC.tail (fun a W=>∃ (x14:Bool),j15 x14=some r∧Fr 91 a [(2,VP b9 0),(3,VP b10 0),(21,.bool x14)]∧Own G (Blk b10 [VI a1.f0,.slice A5 a1.f1.length c6] 45::Blk b9 [VI a0.f0,.slice A1 a0.f1.length c2] 45::L) W) ?_ ?_
 ·
  rintro a W ⟨x14,h,hF,hO⟩
  rw [hj15] at h
  refine TQ.use ?_ hF hO
  clear hF hO
  refine TQ.then_ ?_
  refine TC.cond_b rfl h (fun hc17 h=>?_) (fun hc17 h=>?_)
  ·
   refine TC.seq ?_
   refine TC.region ?_
   refine TV rfl rfl rfl (Val.assign rfl) ?_
   refine TL.nil ?_
   refine TQ.then_ ?_
   refine TC.ret ?_
   refine TQ.thenR ?_
   obtain rfl:=Option.some.inj h
   exact TQ.fin (.inl rfl) rfl Try.results41 (.tmp rfl .nil) rfl (FRel.mk (Ls:=[]) [] 2 (Gd.le.refl _) rfl rfl rfl ⟨rfl,rfl,rfl⟩)
  ·
   refine TC.skip ?_
   refine TQ.then_ ?_
   refine TC.seq ?_
   refine TC.seq ?_
   refine TC.region ?_
   refine TV rfl rfl rfl (Val.assign rfl) ?_
   refine TL.nil ?_
   refine TQ.then_ ?_
   obtain ⟨o3269,ho3269,ko3269⟩:=bind_no h
   clear h
   refine TC.tail (fun a W=>(.inr ())=o3269∧Fr 91 a []∧Own G (L) W) ?_ ?_
   ·
    rintro a W ⟨rfl,hF,hO⟩
    have h:=ko3269
    clear ko3269 ho3269
    refine TQ.use ?_ hF hO
    clear hF hO
    refine TQ.then_ ?_
    refine TC.seq ?_
    refine TC.region ?_
    refine TV rfl rfl rfl (Val.assign rfl) ?_
    refine TL.nil ?_
    refine TQ.then_ ?_
    refine TC.ret ?_
    obtain rfl:=Option.some.inj h
    exact TQ.fin (.inl rfl) rfl Try.results41 (.tmp rfl .nil) rfl (FRel.mk (Ls:=[]) [] 0 (Gd.le.refl _) rfl rfl rfl ⟨rfl,rfl,rfl⟩)
   ·
    refine TC.block ?_
    intro a W hF hO
    have hS:∃ (x2185:Int),swageref14_Same.l0 a0 a1 (a0.f1.length + 1) x2185=some o3269∧Fr 91 a [(2,VP b9 0),(3,VP b10 0),(5,VI x2185)]∧Own G (Blk b10 [VI a1.f0,.slice A5 a1.f1.length c6] 45::Blk b9 [VI a0.f0,.slice A1 a0.f1.length c2] 45::L) W:=by
     exact ⟨0,ho3269,hF.sub ⟨rfl,rfl,rfl,trivial⟩,hO.selT (Ls:=[Blk b10 [VI a1.f0,.slice A5 a1.f1.length c6] 45,Blk b9 [VI a0.f0,.slice A1 a0.f1.length c2] 45]) [0,1] 2 rfl rfl rfl⟩
    clear hF hO ho3269
    refine TC.loop (fun n3270 a W=>∃ (x2185:Int),swageref14_Same.l0 a0 a1 n3270 x2185=some o3269∧Fr 91 a [(2,VP b9 0),(3,VP b10 0),(5,VI x2185)]∧Own G (Blk b10 [VI a1.f0,.slice A5 a1.f1.length c6] 45::Blk b9 [VI a0.f0,.slice A1 a0.f1.length c2] 45::L) W) ?_ ?_ hS
    ·
     rintro a W ⟨x2185,h,hF,hO⟩
     exact none_no h
    ·
     clear hS
     rintro n3270 a W ⟨x2185,h,hF,hO⟩
     rw [swageref14_Same.l0] at h
     refine TC.use ?_ hF hO
     clear hF hO
     refine TC.seq ?_
     refine TC.seq ?_
     refine TC.region ?_
     refine TV rfl rfl rfl (Val.move rfl) ?_
     refine TV rfl rfl rfl (Val.fieldAddrB Try.underlying45 rfl fsz43 rfl rfl rfl) ?_
     refine TV rfl rfl rfl (Val.loadB 1 agg43 rfl rfl rfl) ?_
     refine TV rfl rfl rfl (Val.len Try.underlying43 rfl) ?_
     refine TV rfl rfl rfl (Val.cmp rfl rfl run_lss) ?_
     refine TL.nil ?_
     refine TQ.then_ ?_
     refine TC.cond_p rfl h (fun hc4355 h=>?_) (fun hc4355 h=>?_)
     ·
      refine TC.skip ?_
      refine TQ.then_ ?_
      refine TC.seq ?_
      refine TC.block ?_
      refine TC.seq ?_
      refine TC.seq ?_
      obtain ⟨j5083,hj5083,h⟩:=jn_no h
      refine TC.tail (fun a W=>∃ (x5082:Bool),j5083 x5082=some o3269∧Fr 91 a [(2,VP b9 0),(3,VP b10 0),(5,VI x2185),(58,.bool x5082)]∧Own G (Blk b10 [VI a1.f0,.slice A5 a1.f1.length c6] 45::Blk b9 [VI a0.f0,.slice A1 a0.f1.length c2] 45::L) W) ?_ ?_
      ·
       rintro a W ⟨x5082,h,hF,hO⟩
       rw [hj5083] at h
       refine TQ.use ?_ hF hO
       clear hF hO
       refine TQ.then_ ?_
       refine TC.cond_b rfl h (fun hc5085 h=>?_) (fun hc5085 h=>?_)
       ·
        refine TC.seq ?_
        refine TC.region ?_
        refine TV rfl rfl rfl (Val.assign rfl) ?_
        refine TL.nil ?_
        refine TQ.then_ ?_
        refine TC.ret ?_
        refine TQ.thenR ?_
        refine TQ.inBR ?_
        refine TQ.thenR ?_
        refine TQ.thenR ?_
        refine TQ.inBR ?_
        refine TQ.thenR ?_
        refine TQ.thenR ?_
        obtain rfl:=Option.some.inj h
        have h:=ko3269
        obtain rfl:=Option.some.inj h
        exact TQ.fin (.inl rfl) rfl Try.results41 (.tmp rfl .nil) rfl (FRel.mk (Ls:=[]) [] 2 (Gd.le.refl _) rfl rfl rfl ⟨rfl,rfl,rfl⟩)
       ·
        refine TC.skip ?_
        refine TQ.then_ ?_
        refine TC.seq ?_
        refine TC.region ?_
        refine TV rfl rfl rfl (Val.assign rfl) ?_
        refine TL.nil ?_
        refine TQ.then_ ?_
        obtain ⟨o5637,ho5637,ko5637⟩:=bind_no h
        clear h
        refine TC.tail (fun a W=>(.inr ())=o5637∧Fr 91 a [(2,VP b9 0),(3,VP b10 0),(5,VI x2185)]∧Own G (Blk b10 [VI a1.f0,.slice A5 a1.f1.length c6] 45::Blk b9 [VI a0.f0,.slice A1 a0.f1.length c2] 45::L) W) ?_ ?_
        ·
         rintro a W ⟨rfl,hF,hO⟩
         have h:=ko5637
         clear ko5637 ho5637
         refine TQ.use ?_ hF hO
         clear hF hO
         refine TQ.inB ?_
         refine TQ.then_ ?_
         refine TC.region ?_
         refine TV rfl rfl rfl (Val.move rfl) ?_
         refine TV rfl rfl rfl (Val.cmp rfl rfl run_add) ?_
         refine TV rfl rfl rfl (Val.assign rfl) ?_
         refine TL.nil ?_
         exact fun a W hF hO=>⟨IntKind.i64.wrap (x2185 + 1),h,hF.sub ⟨rfl,rfl,rfl,trivial⟩,hO.selT (Ls:=[Blk b10 [VI a1.f0,.slice A5 a1.f1.length c6] 45,Blk b9 [VI a0.f0,.slice A1 a0.f1.length c2] 45]) [0,1] 2 rfl rfl rfl⟩
        ·
         refine TC.block ?_
         intro a W hF hO
         have hS:∃ (x5453:Int),swageref14_Same.l1 a0 a1 x2185 ((at? a0.f1 x2185).elim 0 (fun vy5639=>vy5639.f0.length) + 1) x5453=some o5637∧Fr 91 a [(2,VP b9 0),(3,VP b10 0),(5,VI x2185),(6,VI x5453)]∧Own G (Blk b10 [VI a1.f0,.slice A5 a1.f1.length c6] 45::Blk b9 [VI a0.f0,.slice A1 a0.f1.length c2] 45::L) W:=by
          exact ⟨0,ho5637,hF.sub ⟨rfl,rfl,rfl,rfl,trivial⟩,hO.selT (Ls:=[Blk b10 [VI a1.f0,.slice A5 a1.f1.length c6] 45,Blk b9 [VI a0.f0,.slice A1 a0.f1.length c2] 45]) [0,1] 2 rfl rfl rfl⟩
         clear hF hO ho5637
         refine TC.loop (fun n5638 a W=>∃ (x5453:Int),swageref14_Same.l1 a0 a1 x2185 n5638 x5453=some o5637∧Fr 91 a [(2,VP b9 0),(3,VP b10 0),(5,VI x2185),(6,VI x5453)]∧Own G (Blk b10 [VI a1.f0,.slice A5 a1.f1.length c6] 45::Blk b9 [VI a0.f0,.slice A1 a0.f1.length c2] 45::L) W) ?_ ?_ hS
         ·
          rintro a W ⟨x5453,h,hF,hO⟩
          exact none_no h
         ·
          clear hS
          rintro n5638 a W ⟨x5453,h,hF,hO⟩
          rw [swageref14_Same.l1] at h
          refine TC.use ?_ hF hO
          clear hF hO
          refine TC.seq ?_
          refine TC.seq ?_
          refine TC.region ?_
          refine TV rfl rfl rfl (Val.move rfl) ?_
          refine TV rfl rfl rfl (Val.fieldAddrB Try.underlying45 rfl fsz43 rfl rfl rfl) ?_
          refine TV rfl rfl rfl (Val.loadB 1 agg43 rfl rfl rfl) ?_
          refine TV rfl rfl rfl (Val.move rfl) ?_
          obtain ⟨y5822,hx5823,h⟩:=bind_no h
          obtain ⟨ad5824,cs5830,hA5825,hi5826,hj5827,hcl5828,hK5829⟩:=Rd.at hr3 hx5823
          obtain ⟨A5831,c5832,rfl,hr5833,hl5834⟩:=k42_openR hK5829
          refine TV rfl rfl rfl (Val.indexAddr Try.underlying43 fsz42 rfl hA5825 rfl hi5826 hj5827) ?_
          refine TV rfl rfl rfl (Val.fieldAddrE Try.underlying42 rfl fsz38 rfl rfl) ?_
          refine TV rfl rfl rfl (Val.loadS agg38 rfl (hcl5828 0 _ rfl)) ?_
          refine TV rfl rfl rfl (Val.len Try.underlying38 rfl) ?_
          refine TV rfl rfl rfl (Val.cmp rfl rfl run_lss) ?_
          refine TL.nil ?_
          refine TQ.then_ ?_
          refine TC.cond_p rfl h (fun hc5836 h=>?_) (fun hc5836 h=>?_)
          ·
           refine TC.skip ?_
           refine TQ.then_ ?_
           refine TC.seq ?_
           refine TC.block ?_
           refine TC.seq ?_
           refine TC.regionAny [] [0,1,2,3,4,5,6,7,8,9,10,11,12,13,14,15,16,17,19] mixed (by kernel_rfl) ?_
           refine TA.take 0 rfl (by kernel_rfl) rfl (PQ.then_ (PQ.inB (PQ.then_ (PQ.then_ (PQ.inB (PQ.then_ (PQ.inB (PQ.then_ (PQ.then_ (PQ.inB (PQ.then_ (PQ.then_ PQ.body)))))))))))) rfl (Val.fieldAddrB Try.underlying45 rfl fsz43 rfl rfl rfl) (fun W hO=>hO) ?_
           refine TA.take 1 rfl (by kernel_rfl) rfl (PQ.then_ (PQ.inB (PQ.then_ (PQ.then_ (PQ.inB (PQ.then_ (PQ.inB (PQ.then_ (PQ.then_ (PQ.inB (PQ.then_ (PQ.then_ PQ.body)))))))))))) rfl (Val.loadB 1 agg43 rfl rfl rfl) (fun W hO=>hO) ?_
           refine TA.take 2 rfl (by kernel_rfl) rfl (PQ.then_ (PQ.inB (PQ.then_ (PQ.then_ (PQ.inB (PQ.then_ (PQ.inB (PQ.then_ (PQ.then_ (PQ.inB (PQ.then_ (PQ.then_ PQ.body)))))))))))) rfl (Val.move rfl) (fun W hO=>hO) ?_
           refine TA.take 3 rfl (by kernel_rfl) rfl (PQ.then_ (PQ.inB (PQ.then_ (PQ.then_ (PQ.inB (PQ.then_ (PQ.inB (PQ.then_ (PQ.then_ (PQ.inB (PQ.then_ (PQ.then_ PQ.body)))))))))))) rfl (Val.indexAddr Try.underlying43 fsz42 rfl hA5825 rfl hi5826 hj5827) (fun W hO=>hO) ?_
           refine TA.take 4 rfl (by kernel_rfl) rfl (PQ.then_ (PQ.inB (PQ.then_ (PQ.then_ (PQ.inB (PQ.then_ (PQ.inB (PQ.then_ (PQ.then_ (PQ.inB (PQ.then_ (PQ.then_ PQ.body)))))))))))) rfl (Val.fieldAddrE Try.underlying42 rfl fsz38 rfl rfl) (fun W hO=>hO) ?_
           refine TA.take 5 rfl (by kernel_rfl) rfl (PQ.then_ (PQ.inB (PQ.then_ (PQ.then_ (PQ.inB (PQ.then_ (PQ.inB (PQ.then_ (PQ.then_ (PQ.inB (PQ.then_ (PQ.then_ PQ.body)))))))))))) rfl (Val.loadS agg38 rfl (hcl5828 0 _ rfl)) (fun W hO=>hO) ?_
           refine TA.take 6 rfl (by kernel_rfl) rfl (PQ.then_ (PQ.inB (PQ.then_ (PQ.then_ (PQ.inB (PQ.then_ (PQ.inB (PQ.then_ (PQ.then_ (PQ.inB (PQ.then_ (PQ.then_ PQ.body)))))))))))) rfl (Val.move rfl) (fun W hO=>hO) ?_
           obtain ⟨y5962,hx5963,h⟩:=bind_no h
           obtain ⟨ad5964,cs5970,hA5965,hi5966,hj5967,hcl5968,hK5969⟩:=Rd.at hr5833 hx5963
           obtain ⟨A5971,c5972,rfl,hr5973,hl5974⟩:=k37_openR hK5969
           refine TA.take 7 rfl (by kernel_rfl) rfl (PQ.then_ (PQ.inB (PQ.then_ (PQ.then_ (PQ.inB (PQ.then_ (PQ.inB (PQ.then_ (PQ.then_ (PQ.inB (PQ.then_ (PQ.then_ PQ.body)))))))))))) rfl (Val.indexAddr Try.underlying38 fsz37 rfl hA5965 rfl hi5966 hj5967) (fun W hO=>hO) ?_
           refine TA.take 8 rfl (by kernel_rfl) rfl (PQ.then_ (PQ.inB (PQ.then_ (PQ.then_ (PQ.inB (PQ.then_ (PQ.inB (PQ.then_ (PQ.then_ (PQ.inB (PQ.then_ (PQ.then_ PQ.body)))))))))))) rfl (Val.loadsS (cs:=[VI y5962.f0,VI y5962.f1,VI y5962.f2,VI y5962.f3,VI y5962.f4,.slice A5971 y5962.f5.length c5972]) agg37 fsz37 rfl rfl (Cl.sub (off:=0) (n:=6) hcl5968 rfl)) (fun W hO=>hO) ?_
           refine TA.take 9 rfl (by kernel_rfl) rfl (PQ.then_ (PQ.inB (PQ.then_ (PQ.then_ (PQ.inB (PQ.then_ (PQ.inB (PQ.then_ (PQ.then_ (PQ.inB (PQ.then_ (PQ.then_ PQ.body)))))))))))) rfl (Val.fieldAddrB Try.underlying45 rfl fsz43 rfl rfl rfl) (fun W hO=>hO) ?_
           refine TA.take 10 rfl (by kernel_rfl) rfl (PQ.then_ (PQ.inB (PQ.then_ (PQ.then_ (PQ.inB (PQ.then_ (PQ.inB (PQ.then_ (PQ.then_ (PQ.inB (PQ.then_ (PQ.then_ PQ.body)))))))))))) rfl (Val.loadB 0 agg43 rfl rfl rfl) (fun W hO=>hO) ?_
           refine TA.take 11 rfl (by kernel_rfl) rfl (PQ.then_ (PQ.inB (PQ.then_ (PQ.then_ (PQ.inB (PQ.then_ (PQ.inB (PQ.then_ (PQ.then_ (PQ.inB (PQ.then_ (PQ.then_ PQ.body)))))))))))) rfl (Val.move rfl) (fun W hO=>hO) ?_
           obtain ⟨y5975,hx5976,h⟩:=bind_no h
           obtain ⟨ad5977,cs5983,hA5978,hi5979,hj5980,hcl5981,hK5982⟩:=Rd.at hr7 hx5976
           obtain ⟨A5984,c5985,rfl,hr5986,hl5987⟩:=k42_openR hK5982
           refine TA.take 12 rfl (by kernel_rfl) rfl (PQ.then_ (PQ.inB (PQ.then_ (PQ.then_ (PQ.inB (PQ.then_ (PQ.inB (PQ.then_ (PQ.then_ (PQ.inB (PQ.then_ (PQ.then_ PQ.body)))))))))))) rfl (Val.indexAddr Try.underlying43 fsz42 rfl hA5978 rfl hi5979 hj5980) (fun W hO=>hO) ?_
           refine TA.take 13 rfl (by kernel_rfl) rfl (PQ.then_ (PQ.inB (PQ.then_ (PQ.then_ (PQ.inB (PQ.then_ (PQ.inB (PQ.then_ (PQ.then_ (PQ.inB (PQ.then_ (PQ.then_ PQ.body)))))))))))) rfl (Val.fieldAddrE Try.underlying42 rfl fsz38 rfl rfl) (fun W hO=>hO) ?_
           refine TA.take 14 rfl (by kernel_rfl) rfl (PQ.then_ (PQ.inB (PQ.then_ (PQ.then_ (PQ.inB (PQ.then_ (PQ.inB (PQ.then_ (PQ.then_ (PQ.inB (PQ.then_ (PQ.then_ PQ.body)))))))))))) rfl (Val.loadS agg38 rfl (hcl5981 0 _ rfl)) (fun W hO=>hO) ?_
           refine TA.take 15 rfl (by kernel_rfl) rfl (PQ.then_ (PQ.inB (PQ.then_ (PQ.then_ (PQ.inB (PQ.then_ (PQ.inB (PQ.then_ (PQ.then_ (PQ.inB (PQ.then_ (PQ.then_ PQ.body)))))))))))) rfl (Val.move rfl) (fun W hO=>hO) ?_
           obtain ⟨y5988,hx5989,h⟩:=bind_no h
           obtain ⟨ad5990,cs5996,hA5991,hi5992,hj5993,hcl5994,hK5995⟩:=Rd.at hr5986 hx5989
           obtain ⟨A5997,c5998,rfl,hr5999,hl6000⟩:=k37_openR hK5995
           refine TA.take 16 rfl (by kernel_rfl) rfl (PQ.then_ (PQ.inB (PQ.then_ (PQ.then_ (PQ.inB (PQ.then_ (PQ.inB (PQ.then_ (PQ.then_ (PQ.inB (PQ.then_ (PQ.then_ PQ.body)))))))))))) rfl (Val.indexAddr Try.underlying38 fsz37 rfl hA5991 rfl hi5992 hj5993) (fun W hO=>hO) ?_
           refine TA.take 17 rfl (by kernel_rfl) rfl (PQ.then_ (PQ.inB (PQ.then_ (PQ.then_ (PQ.inB (PQ.then_ (PQ.inB (PQ.then_ (PQ.then_ (PQ.inB (PQ.then_ (PQ.then_ PQ.body)))))))))))) rfl (Val.loadsS (cs:=[VI y5988.f0,VI y5988.f1,VI y5988.f2,VI y5988.f3,VI y5988.f4,.slice A5997 y5988.f5.length c5998]) agg37 fsz37 rfl rfl (Cl.sub (off:=0) (n:=6) hcl5994 rfl)) (fun W hO=>hO) ?_
           obtain ⟨y6001,hy6002,h⟩:=bind_no h
           refine TA.eff 18 rfl (by kernel_rfl) rfl (TL.callV (Lin:=[]) (args:=[.agg #[VI y5962.f0,VI y5962.f1,VI y5962.f2,VI y5962.f3,VI y5962.f4,.slice A5971 y5962.f5.length c5972],.agg #[VI y5988.f0,VI y5988.f1,VI y5988.f2,VI y5988.f3,VI y5988.f4,.slice A5997 y5988.f5.length c5998]]) rfl rfl rfl hbd48 rfl rfl (swageref14_SameOp.calls (a0:=y5962) (a1:=y5988) hr5973 hl5974 hr5999 hl6000 hy6002) rfl ?_)
           rintro _ _ _ _ ⟨rfl,rfl,rfl⟩
           refine TA.next (fun W hO=>hO) ?_
           refine TA.take 19 rfl (by kernel_rfl) rfl (PQ.then_ (PQ.inB (PQ.then_ (PQ.then_ (PQ.inB (PQ.then_ (PQ.inB (PQ.then_ (PQ.then_ (PQ.inB (PQ.then_ (PQ.then_ PQ.body)))))))))))) rfl (Val.assign rfl) (fun W hO=>hO) ?_
           refine TA.done (by kernel_rfl) ?_
           refine TQ.then_ ?_
           refine TC.seq ?_
           refine TC.region ?_
           refine TV rfl rfl rfl (Val.move rfl) ?_
           refine TV rfl rfl rfl (Val.not_ rfl) ?_
           refine TL.nil ?_
           refine TQ.then_ ?_
           refine TC.cond_b rfl h (fun hc6004 h=>?_) (fun hc6004 h=>?_)
           ·
            refine TC.seq ?_
            refine TC.region ?_
            refine TV rfl rfl rfl (Val.assign rfl) ?_
            refine TL.nil ?_
            refine TQ.then_ ?_
            refine TC.ret ?_
            refine TQ.inBR ?_
            refine TQ.thenR ?_
            refine TQ.thenR ?_
            refine TQ.inBR ?_
            refine TQ.thenR ?_
            refine TQ.inBR ?_
            refine TQ.thenR ?_
            refine TQ.thenR ?_
            refine TQ.inBR ?_
            refine TQ.thenR ?_
            refine TQ.thenR ?_
            obtain rfl:=Option.some.inj h
            have h:=ko5637
            obtain rfl:=Option.some.inj h
            have h:=ko3269
            obtain rfl:=Option.some.inj h
            exact TQ.fin (.inl rfl) rfl Try.results41 (.tmp rfl .nil) rfl (FRel.mk (Ls:=[]) [] 2 (Gd.le.refl _) rfl rfl rfl ⟨rfl,rfl,rfl⟩)
           ·
            refine TC.skip ?_
            refine TQ.inB ?_
            refine TQ.then_ ?_
            refine TC.region ?_
            refine TV rfl rfl rfl (Val.move rfl) ?_
            refine TV rfl rfl rfl (Val.cmp rfl rfl run_add) ?_
            refine TV rfl rfl rfl (Val.assign rfl) ?_
            refine TL.nil ?_
            exact fun a W hF hO=>⟨IntKind.i64.wrap (x5453 + 1),h,hF.sub ⟨rfl,rfl,rfl,rfl,trivial⟩,hO.selT (Ls:=[Blk b10 [VI a1.f0,.slice A5 a1.f1.length c6] 45,Blk b9 [VI a0.f0,.slice A1 a0.f1.length c2] 45]) [0,1] 2 rfl rfl rfl⟩
          ·
           refine TC.exit ?_
           refine TQ.thenX ?_
           refine TQ.thenX ?_
           refine TQ.inBX ?_
           exact fun a W hF hO=>⟨Option.some.inj h,hF.sub ⟨rfl,rfl,rfl,trivial⟩,hO.selT (Ls:=[Blk b10 [VI a1.f0,.slice A5 a1.f1.length c6] 45,Blk b9 [VI a0.f0,.slice A1 a0.f1.length c2] 45]) [0,1] 2 rfl rfl rfl⟩
      ·
       refine TC.regionAny [] [0,1,2,3,4,5,6,7,8,9,10,11,12,13,14,15,16,17,18,19,20,21,22,23,24,25,26,27,28,29] mixed (by kernel_rfl) ?_
       refine TA.take 0 rfl (by kernel_rfl) rfl (PQ.then_ (PQ.then_ (PQ.then_ (PQ.inB (PQ.then_ (PQ.then_ (PQ.inB (PQ.then_ (PQ.then_ PQ.body))))))))) rfl (Val.fieldAddrB Try.underlying45 rfl fsz43 rfl rfl rfl) (fun W hO=>hO) ?_
       refine TA.take 1 rfl (by kernel_rfl) rfl (PQ.then_ (PQ.then_ (PQ.then_ (PQ.inB (PQ.then_ (PQ.then_ (PQ.inB (PQ.then_ (PQ.then_ PQ.body))))))))) rfl (Val.loadB 1 agg43 rfl rfl rfl) (fun W hO=>hO) ?_
       refine TA.take 2 rfl (by kernel_rfl) rfl (PQ.then_ (PQ.then_ (PQ.then_ (PQ.inB (PQ.then_ (PQ.then_ (PQ.inB (PQ.then_ (PQ.then_ PQ.body))))))))) rfl (Val.move rfl) (fun W hO=>hO) ?_
       obtain ⟨y6034,hx6035,h⟩:=bind_no h
       obtain ⟨ad6036,cs6042,hA6037,hi6038,hj6039,hcl6040,hK6041⟩:=Rd.at hr3 hx6035
       obtain ⟨A6043,c6044,rfl,hr6045,hl6046⟩:=k42_openR hK6041
       refine TA.take 3 rfl (by kernel_rfl) rfl (PQ.then_ (PQ.then_ (PQ.then_ (PQ.inB (PQ.then_ (PQ.then_ (PQ.inB (PQ.then_ (PQ.then_ PQ.body))))))))) rfl (Val.indexAddr Try.underlying43 fsz42 rfl hA6037 rfl hi6038 hj6039) (fun W hO=>hO) ?_
       refine TA.take 4 rfl (by kernel_rfl) rfl (PQ.then_ (PQ.then_ (PQ.then_ (PQ.inB (PQ.then_ (PQ.then_ (PQ.inB (PQ.then_ (PQ.then_ PQ.body))))))))) rfl (Val.fieldAddrE Try.underlying42 rfl fsz40 rfl rfl) (fun W hO=>hO) ?_
       refine TA.take 5 rfl (by kernel_rfl) rfl (PQ.then_ (PQ.then_ (PQ.then_ (PQ.inB (PQ.then_ (PQ.then_ (PQ.inB (PQ.then_ (PQ.then_ PQ.body))))))))) rfl (Val.loadsS (cs:=[VI y6034.f1.f0,VI y6034.f1.f1,VI y6034.f1.f2,VI y6034.f1.f3]) agg40 fsz40 rfl rfl (Cl.sub (off:=1) (n:=4) hcl6040 rfl)) (fun W hO=>hO) ?_
       refine TA.take 6 rfl (by kernel_rfl) rfl (PQ.then_ (PQ.then_ (PQ.then_ (PQ.inB (PQ.then_ (PQ.then_ (PQ.inB (PQ.then_ (PQ.then_ PQ.body))))))))) rfl (Val.fieldAddrB Try.underlying45 rfl fsz43 rfl rfl rfl) (fun W hO=>hO) ?_
       refine TA.take 7 rfl (by kernel_rfl) rfl (PQ.then_ (PQ.then_ (PQ.then_ (PQ.inB (PQ.then_ (PQ.then_ (PQ.inB (PQ.then_ (PQ.then_ PQ.body))))))))) rfl (Val.loadB 0 agg43 rfl rfl rfl) (fun W hO=>hO) ?_
       refine TA.take 8 rfl (by kernel_rfl) rfl (PQ.then_ (PQ.then_ (PQ.then_ (PQ.inB (PQ.then_ (PQ.then_ (PQ.inB (PQ.then_ (PQ.then_ PQ.body))))))))) rfl (Val.move rfl) (fun W hO=>hO) ?_
       obtain ⟨y6047,hx6048,h⟩:=bind_no h
       obtain ⟨ad6049,cs6055,hA6050,hi6051,hj6052,hcl6053,hK6054⟩:=Rd.at hr7 hx6048
       obtain ⟨A6056,c6057,rfl,hr6058,hl6059⟩:=k42_openR hK6054
       refine TA.take 9 rfl (by kernel_rfl) rfl (PQ.then_ (PQ.then_ (PQ.then_ (PQ.inB (PQ.then_ (PQ.then_ (PQ.inB (PQ.then_ (PQ.then_ PQ.body))))))))) rfl (Val.indexAddr Try.underlying43 fsz42 rfl hA6050 rfl hi6051 hj6052) (fun W hO=>hO) ?_
       refine TA.take 10 rfl (by kernel_rfl) rfl (PQ.then_ (PQ.then_ (PQ.then_ (PQ.inB (PQ.then_ (PQ.then_ (PQ.inB (PQ.then_ (PQ.then_ PQ.body))))))))) rfl (Val.fieldAddrE Try.underlying42 rfl fsz40 rfl rfl) (fun W hO=>hO) ?_
       refine TA.take 11 rfl (by kernel_rfl) rfl (PQ.then_ (PQ.then_ (PQ.then_ (PQ.inB (PQ.then_ (PQ.then_ (PQ.inB (PQ.then_ (PQ.then_ PQ.body))))))))) rfl (Val.loadsS (cs:=[VI y6047.f1.f0,VI y6047.f1.f1,VI y6047.f1.f2,VI y6047.f1.f3]) agg40 fsz40 rfl rfl (Cl.sub (off:=1) (n:=4) hcl6053 rfl)) (fun W hO=>hO) ?_
       refine TA.take 12 rfl (by kernel_rfl) rfl (PQ.then_ (PQ.then_ (PQ.then_ (PQ.inB (PQ.then_ (PQ.then_ (PQ.inB (PQ.then_ (PQ.then_ PQ.body))))))))) rfl (Val.neA eqg40 rfl rfl (fun W=>eqs40 9998 W _ _ _ _ _ _ _ _)) (fun W hO=>hO) ?_
       refine TA.take 13 rfl (by kernel_rfl) rfl (PQ.then_ (PQ.then_ (PQ.then_ (PQ.inB (PQ.then_ (PQ.then_ (PQ.inB (PQ.then_ (PQ.then_ PQ.body))))))))) rfl (Val.move rfl) (fun W hO=>hO) ?_
       refine TK.split (p:=(!((y6034.f1.f0 == y6047.f1.f0) && ((y6034.f1.f1 == y6047.f1.f1) && ((y6034.f1.f2 == y6047.f1.f2) && (y6034.f1.f3 == y6047.f1.f3)))))=true) h (fun hg6060 h=>?_) (fun hg6060 h=>?_)
       ·
        have hk6061:(!((y6034.f1.f0 == y6047.f1.f0) && ((y6034.f1.f1 == y6047.f1.f1) && ((y6034.f1.f2 == y6047.f1.f2) && (y6034.f1.f3 == y6047.f1.f3)))))=true:=hg6060
        refine TA.not 14 rfl (by kernel_rfl) rfl (PQ.then_ (PQ.then_ (PQ.then_ (PQ.inB (PQ.then_ (PQ.then_ (PQ.inB (PQ.then_ (PQ.then_ PQ.body))))))))) (Wt.no rfl rfl rfl hk6061) (fun W hO=>hO) ?_
        refine TA.not 15 rfl (by kernel_rfl) rfl (PQ.then_ (PQ.then_ (PQ.then_ (PQ.inB (PQ.then_ (PQ.then_ (PQ.inB (PQ.then_ (PQ.then_ PQ.body))))))))) (Wt.no rfl rfl rfl hk6061) (fun W hO=>hO) ?_
        refine TA.not 16 rfl (by kernel_rfl) rfl (PQ.then_ (PQ.then_ (PQ.then_ (PQ.inB (PQ.then_ (PQ.then_ (PQ.inB (PQ.then_ (PQ.then_ PQ.body))))))))) (Wt.no rfl rfl rfl hk6061) (fun W hO=>hO) ?_
        refine TA.not 17 rfl (by kernel_rfl) rfl (PQ.then_ (PQ.then_ (PQ.then_ (PQ.inB (PQ.then_ (PQ.then_ (PQ.inB (PQ.then_ (PQ.then_ PQ.body))))))))) (Wt.no rfl rfl rfl hk6061) (fun W hO=>hO) ?_
        refine TA.not 18 rfl (by kernel_rfl) rfl (PQ.then_ (PQ.then_ (PQ.then_ (PQ.inB (PQ.then_ (PQ.then_ (PQ.inB (PQ.then_ (PQ.then_ PQ.body))))))))) (Wt.no rfl rfl rfl hk6061) (fun W hO=>hO) ?_
        refine TA.not 19 rfl (by kernel_rfl) rfl (PQ.then_ (PQ.then_ (PQ.then_ (PQ.inB (PQ.then_ (PQ.then_ (PQ.inB (PQ.then_ (PQ.then_ PQ.body))))))))) (Wt.no rfl rfl rfl hk6061) (fun W hO=>hO) ?_
        refine TA.not 20 rfl (by kernel_rfl) rfl (PQ.then_ (PQ.then_ (PQ.then_ (PQ.inB (PQ.then_ (PQ.then_ (PQ.inB (PQ.then_ (PQ.then_ PQ.body))))))))) (Wt.no rfl rfl rfl hk6061) (fun W hO=>hO) ?_
        refine TA.not 21 rfl (by kernel_rfl) rfl (PQ.then_ (PQ.then_ (PQ.then_ (PQ.inB (PQ.then_ (PQ.then_ (PQ.inB (PQ.then_ (PQ.then_ PQ.body))))))))) (Wt.no rfl rfl rfl hk6061) (fun W hO=>hO) ?_
        refine TA.not 22 rfl (by kernel_rfl) rfl (PQ.then_ (PQ.then_ (PQ.then_ (PQ.inB (PQ.then_ (PQ.then_ (PQ.inB (PQ.then_ (PQ.then_ PQ.body))))))))) (Wt.no rfl rfl rfl hk6061) (fun W hO=>hO) ?_
        refine TA.not 23 rfl (by kernel_rfl) rfl (PQ.then_ (PQ.then_ (PQ.then_ (PQ.inB (PQ.then_ (PQ.then_ (PQ.inB (PQ.then_ (PQ.then_ PQ.body))))))))) (Wt.no rfl rfl rfl hk6061) (fun W hO=>hO) ?_
        refine TA.not 24 rfl (by kernel_rfl) rfl (PQ.then_ (PQ.then_ (PQ.then_ (PQ.inB (PQ.then_ (PQ.then_ (PQ.inB (PQ.then_ (PQ.then_ PQ.body))))))))) (Wt.no rfl rfl rfl hk6061) (fun W hO=>hO) ?_
        refine TA.not 25 rfl (by kernel_rfl) rfl (PQ.then_ (PQ.then_ (PQ.then_ (PQ.inB (PQ.then_ (PQ.then_ (PQ.inB (PQ.then_ (PQ.then_ PQ.body))))))))) (Wt.no rfl rfl rfl hk6061) (fun W hO=>hO) ?_
        refine TA.not 26 rfl (by kernel_rfl) rfl (PQ.then_ (PQ.then_ (PQ.then_ (PQ.inB (PQ.then_ (PQ.then_ (PQ.inB (PQ.then_ (PQ.then_ PQ.body))))))))) (Wt.no rfl rfl rfl hk6061) (fun W hO=>hO) ?_
        refine TA.not 27 rfl (by kernel_rfl) rfl (PQ.then_ (PQ.then_ (PQ.then_ (PQ.inB (PQ.then_ (PQ.then_ (PQ.inB (PQ.then_ (PQ.then_ PQ.body))))))))) (Wt.no rfl rfl rfl hk6061) (fun W hO=>hO) ?_
        refine TA.not 28 rfl (by kernel_rfl) rfl (PQ.then_ (PQ.then_ (PQ.then_ (PQ.inB (PQ.then_ (PQ.then_ (PQ.inB (PQ.then_ (PQ.then_ PQ.body))))))))) (Wt.no rfl rfl rfl hk6061) (fun W hO=>hO) ?_
        refine TA.take 29 rfl (by kernel_rfl) rfl (PQ.then_ (PQ.then_ (PQ.then_ (PQ.inB (PQ.then_ (PQ.then_ (PQ.inB (PQ.then_ (PQ.then_ PQ.body))))))))) rfl (Val.pickY rfl hk6061 rfl) (fun W hO=>hO) ?_
        refine TA.done (by kernel_rfl) ?_
        exact fun a W hF hO=>⟨true,h,hF.sub ⟨rfl,rfl,rfl,rfl,trivial⟩,hO.selT (Ls:=[Blk b10 [VI a1.f0,.slice A5 a1.f1.length c6] 45,Blk b9 [VI a0.f0,.slice A1 a0.f1.length c2] 45]) [0,1] 2 rfl rfl rfl⟩
       ·
        have hk6062:(!((y6034.f1.f0 == y6047.f1.f0) && ((y6034.f1.f1 == y6047.f1.f1) && ((y6034.f1.f2 == y6047.f1.f2) && (y6034.f1.f3 == y6047.f1.f3)))))=false:=(by simpa using hg6060)
        refine TA.take 14 rfl (by kernel_rfl) rfl (PQ.then_ (PQ.then_ (PQ.then_ (PQ.inB (PQ.then_ (PQ.then_ (PQ.inB (PQ.then_ (PQ.then_ PQ.body))))))))) (Wt.yes rfl rfl rfl hk6062) (Val.fieldAddrB Try.underlying45 rfl fsz43 rfl rfl rfl) (fun W hO=>hO) ?_
        refine TA.take 15 rfl (by kernel_rfl) rfl (PQ.then_ (PQ.then_ (PQ.then_ (PQ.inB (PQ.then_ (PQ.then_ (PQ.inB (PQ.then_ (PQ.then_ PQ.body))))))))) (Wt.yes rfl rfl rfl hk6062) (Val.loadB 1 agg43 rfl rfl rfl) (fun W hO=>hO) ?_
        refine TA.take 16 rfl (by kernel_rfl) rfl (PQ.then_ (PQ.then_ (PQ.then_ (PQ.inB (PQ.then_ (PQ.then_ (PQ.inB (PQ.then_ (PQ.then_ PQ.body))))))))) (Wt.yes rfl rfl rfl hk6062) (Val.move rfl) (fun W hO=>hO) ?_
        refine TA.take 17 rfl (by kernel_rfl) rfl (PQ.then_ (PQ.then_ (PQ.then_ (PQ.inB (PQ.then_ (PQ.then_ (PQ.inB (PQ.then_ (PQ.then_ PQ.body))))))))) (Wt.yes rfl rfl rfl hk6062) (Val.indexAddr Try.underlying43 fsz42 rfl hA6037 rfl hi6038 hj6039) (fun W hO=>hO) ?_
        refine TA.take 18 rfl (by kernel_rfl) rfl (PQ.then_ (PQ.then_ (PQ.then_ (PQ.inB (PQ.then_ (PQ.then_ (PQ.inB (PQ.then_ (PQ.then_ PQ.body))))))))) (Wt.yes rfl rfl rfl hk6062) (Val.fieldAddrE Try.underlying42 rfl fsz38 rfl rfl) (fun W hO=>hO) ?_
        refine TA.take 19 rfl (by kernel_rfl) rfl (PQ.then_ (PQ.then_ (PQ.then_ (PQ.inB (PQ.then_ (PQ.then_ (PQ.inB (PQ.then_ (PQ.then_ PQ.body))))))))) (Wt.yes rfl rfl rfl hk6062) (Val.loadS agg38 rfl (hcl6040 0 _ rfl)) (fun W hO=>hO) ?_
        refine TA.take 20 rfl (by kernel_rfl) rfl (PQ.then_ (PQ.then_ (PQ.then_ (PQ.inB (PQ.then_ (PQ.then_ (PQ.inB (PQ.then_ (PQ.then_ PQ.body))))))))) (Wt.yes rfl rfl rfl hk6062) (Val.len Try.underlying38 rfl) (fun W hO=>hO) ?_
        refine TA.take 21 rfl (by kernel_rfl) rfl (PQ.then_ (PQ.then_ (PQ.then_ (PQ.inB (PQ.then_ (PQ.then_ (PQ.inB (PQ.then_ (PQ.then_ PQ.body))))))))) (Wt.yes rfl rfl rfl hk6062) (Val.fieldAddrB Try.underlying45 rfl fsz43 rfl rfl rfl) (fun W hO=>hO) ?_
        refine TA.take 22 rfl (by kernel_rfl) rfl (PQ.then_ (PQ.then_ (PQ.then_ (PQ.inB (PQ.then_ (PQ.then_ (PQ.inB (PQ.then_ (PQ.then_ PQ.body))))))))) (Wt.yes rfl rfl rfl hk6062) (Val.loadB 0 agg43 rfl rfl rfl) (fun W hO=>hO) ?_
        refine TA.take 23 rfl (by kernel_rfl) rfl (PQ.then_ (PQ.then_ (PQ.then_ (PQ.inB (PQ.then_ (PQ.then_ (PQ.inB (PQ.then_ (PQ.then_ PQ.body))))))))) (Wt.yes rfl rfl rfl hk6062) (Val.move rfl) (fun W hO=>hO) ?_
        refine TA.take 24 rfl (by kernel_rfl) rfl (PQ.then_ (PQ.then_ (PQ.then_ (PQ.inB (PQ.then_ (PQ.then_ (PQ.inB (PQ.then_ (PQ.then_ PQ.body))))))))) (Wt.yes rfl rfl rfl hk6062) (Val.indexAddr Try.underlying43 fsz42 rfl hA6050 rfl hi6051 hj6052) (fun W hO=>hO) ?_
        refine TA.take 25 rfl (by kernel_rfl) rfl (PQ.then_ (PQ.then_ (PQ.then_ (PQ.inB (PQ.then_ (PQ.then_ (PQ.inB (PQ.then_ (PQ.then_ PQ.body))))))))) (Wt.yes rfl rfl rfl hk6062) (Val.fieldAddrE Try.underlying42 rfl fsz38 rfl rfl) (fun W hO=>hO) ?_
        refine TA.take 26 rfl (by kernel_rfl) rfl (PQ.then_ (PQ.then_ (PQ.then_ (PQ.inB (PQ.then_ (PQ.then_ (PQ.inB (PQ.then_ (PQ.then_ PQ.body))))))))) (Wt.yes rfl rfl rfl hk6062) (Val.loadS agg38 rfl (hcl6053 0 _ rfl)) (fun W hO=>hO) ?_
        refine TA.take 27 rfl (by kernel_rfl) rfl (PQ.then_ (PQ.then_ (PQ.then_ (PQ.inB (PQ.then_ (PQ.then_ (PQ.inB (PQ.then_ (PQ.then_ PQ.body))))))))) (Wt.yes rfl rfl rfl hk6062) (Val.len Try.underlying38 rfl) (fun W hO=>hO) ?_
        refine TA.take 28 rfl (by kernel_rfl) rfl (PQ.then_ (PQ.then_ (PQ.then_ (PQ.inB (PQ.then_ (PQ.then_ (PQ.inB (PQ.then_ (PQ.then_ PQ.body))))))))) (Wt.yes rfl rfl rfl hk6062) (Val.cmp rfl rfl run_neq) (fun W hO=>hO) ?_
        refine TA.take 29 rfl (by kernel_rfl) rfl (PQ.then_ (PQ.then_ (PQ.then_ (PQ.inB (PQ.then_ (PQ.then_ (PQ.inB (PQ.then_ (PQ.then_ PQ.body))))))))) rfl (Val.pickN rfl hk6062 rfl) (fun W hO=>hO) ?_
        refine TA.done (by kernel_rfl) ?_
        exact fun a W hF hO=>⟨(!decide ((y6034.f0.length:Int)=(y6047.f0.length:Int))),h,hF.sub ⟨rfl,rfl,rfl,rfl,trivial⟩,hO.selT (Ls:=[Blk b10 [VI a1.f0,.slice A5 a1.f1.length c6] 45,Blk b9 [VI a0.f0,.slice A1 a0.f1.length c2] 45]) [0,1] 2 rfl rfl rfl⟩
     ·
      refine TC.exit ?_
      refine TQ.thenX ?_
      refine TQ.thenX ?_
      refine TQ.inBX ?_
      exact fun a W hF hO=>⟨Option.some.inj h,hF.sub trivial,hO.selT (Ls:=[]) [] 2 rfl rfl rfl⟩
 ·
  refine TC.region ?_
  refine TV rfl rfl rfl (Val.fieldAddrB Try.underlying45 rfl fsz3 rfl rfl rfl) ?_
  refine TV rfl rfl rfl (Val.loadB 1 agg3 rfl rfl rfl) ?_
  refine TV rfl rfl rfl (Val.fieldAddrB Try.underlying45 rfl fsz3 rfl rfl rfl) ?_
  refine TV rfl rfl rfl (Val.loadB 0 agg3 rfl rfl rfl) ?_
  refine TV rfl rfl rfl (Val.cmp rfl rfl run_neq) ?_
  refine TV rfl rfl rfl (Val.move rfl) ?_
  refine TK.split (p:=(!decide (a0.f0=a1.f0))=true) h (fun hg6063 h=>?_) (fun hg6063 h=>?_)
  ·
   have hk6064:(!decide (a0.f0=a1.f0))=true:=hg6063
   refine TL.cons (TL.not (Wt.no rfl rfl rfl hk6064) rfl ?_)
   refine TL.cons (TL.not (Wt.no rfl rfl rfl hk6064) rfl ?_)
   refine TL.cons (TL.not (Wt.no rfl rfl rfl hk6064) rfl ?_)
   refine TL.cons (TL.not (Wt.no rfl rfl rfl hk6064) rfl ?_)
   refine TL.cons (TL.not (Wt.no rfl rfl rfl hk6064) rfl ?_)
   refine TL.cons (TL.not (Wt.no rfl rfl rfl hk6064) rfl ?_)
   refine TL.cons (TL.not (Wt.no rfl rfl rfl hk6064) rfl ?_)
   refine TV rfl rfl rfl (Val.pickY rfl hk6064 rfl) ?_
   refine TL.nil ?_
   exact fun a W hF hO=>⟨true,h,hF.sub ⟨rfl,rfl,rfl,trivial⟩,hO.selT (Ls:=[Blk b10 [VI a1.f0,.slice A5 a1.f1.length c6] 45,Blk b9 [VI a0.f0,.slice A1 a0.f1.length c2] 45]) [0,1] 2 rfl rfl rfl⟩
  ·
   have hk6065:(!decide (a0.f0=a1.f0))=false:=(by simpa using hg6063)
   refine TV (Wt.yes rfl rfl rfl hk6065) rfl rfl (Val.fieldAddrB Try.underlying45 rfl fsz43 rfl rfl rfl) ?_
   refine TV (Wt.yes rfl rfl rfl hk6065) rfl rfl (Val.loadB 1 agg43 rfl rfl rfl) ?_
   refine TV (Wt.yes rfl rfl rfl hk6065) rfl rfl (Val.len Try.underlying43 rfl) ?_
   refine TV (Wt.yes rfl rfl rfl hk6065) rfl rfl (Val.fieldAddrB Try.underlying45 rfl fsz43 rfl rfl rfl) ?_
   refine TV (Wt.yes rfl rfl rfl hk6065) rfl rfl (Val.loadB 0 agg43 rfl rfl rfl) ?_
   refine TV (Wt.yes rfl rfl rfl hk6065) rfl rfl (Val.len Try.underlying43 rfl) ?_
   refine TV (Wt.yes rfl rfl rfl hk6065) rfl rfl (Val.cmp rfl rfl run_neq) ?_
   refine TV rfl rfl rfl (Val.pickN rfl hk6065 rfl) ?_
   refine TL.nil ?_
   exact fun a W hF hO=>⟨(!decide ((a0.f1.length:Int)=(a1.f1.length:Int))),h,hF.sub ⟨rfl,rfl,rfl,trivial⟩,hO.selT (Ls:=[Blk b10 [VI a1.f0,.slice A5 a1.f1.length c6] 45,Blk b9 [VI a0.f0,.slice A1 a0.f1.length c2] 45]) [0,1] 2 rfl rfl rfl⟩
def forward_Loads.l1 (y909:S42):Nat → Int → Int → Option (Int)
 | 0,_,_=>none
 | n1043 + 1,x1001,x1002=>(if x1002 < (y909.f0.length:Int) then (at? y909.f0 x1002).bind fun y1100=>jn (γ:=(Int)) (fun (x1115:Int)=>forward_Loads.l1 y909 n1043 x1115 (IntKind.i64.wrap (x1002 + 1))) (fun (j1116:(Int → Option (Int)))=>(if y1100.f0=4 then j1116 (IntKind.i64.wrap (x1001 + 1)) else j1116 x1001)) else some x1001)
def forward_Loads.l0 (a0:S45):Nat → Int → Int → Option (Int)
 | 0,_,_=>none
 | n591 + 1,x394,x395=>(if x395 < (a0.f1.length:Int) then (at? a0.f1 x395).bind fun y909=>(forward_Loads.l1 y909 (y909.f0.length + 1) x394 0).bind fun (x1041:Int)=>forward_Loads.l0 a0 n591 x1041 (IntKind.i64.wrap (x395 + 1)) else some x394)
def forward_Loads.f (a0:S45):Option Int:=(forward_Loads.l0 a0 (a0.f1.length + 1) 0 0).bind fun (x589:Int)=>some x589
def forward_Loads.post (G:Gd)  (r:Int) (v:Value) (G':Gd) (Lr:List Ch):Prop:=G=G'∧v=VI r∧Lr=[]
theorem forward_Loads.calls {G:Gd} {r:Int} {a0:S45} {A1:Option Addr} {c2:Nat} (hr3:Rd G k42 A1 a0.f1) (hl4:a0.f1.length ≤ c2) (h:forward_Loads.f a0=some r):Fn Try.prog 42 G [] [.agg #[VI a0.f0,.slice A1 a0.f1.length c2]] (forward_Loads.post G  r):=by
 refine Fn.intro (e:=[(0,.agg #[VI a0.f0,.slice A1 a0.f1.length c2])]) 30 Try.func42 rfl Try.ntmps42 rfl rfl (Nat.le_of_ble_eq_true rfl) (fun L=>?_)
 unfold forward_Loads.f at h
 refine TC.seq ?_
 refine TC.region ?_
 refine TL.cons (TL.box (cs:=[VI a0.f0,.slice A1 a0.f1.length c2]) rfl rfl rfl rfl (fun b5=>?_))
 refine TV rfl rfl rfl (Val.assign rfl) ?_
 refine TL.nil ?_
 refine TQ.then_ ?_
 refine TC.seq ?_
 refine TC.region ?_
 refine TV rfl rfl rfl (Val.assign rfl) ?_
 refine TL.nil ?_
 refine TQ.then_ ?_
 refine TC.seq ?_
 refine TC.seq ?_
 refine TC.region ?_
 refine TV rfl rfl rfl (Val.fieldAddrB Try.underlying45 rfl fsz43 rfl rfl rfl) ?_
 refine TV rfl rfl rfl (Val.loadB 0 agg43 rfl rfl rfl) ?_
 refine TV rfl rfl rfl (Val.len Try.underlying43 rfl) ?_
 refine TV rfl rfl rfl (Val.move rfl) ?_
 refine TL.nil ?_
 refine TQ.then_ ?_
 obtain ⟨o590,ho590,ko590⟩:=bind_no h
 clear h
 refine TC.tail (fun a W=>∃ (x589:Int),x589=o590∧Fr 30 a [(3,VI x589)]∧Own G (L) W) ?_ ?_
 ·
  rintro a W ⟨x589,rfl,hF,hO⟩
  have h:=ko590
  clear ko590 ho590
  refine TQ.use ?_ hF hO
  clear hF hO
  refine TQ.then_ ?_
  refine TC.seq ?_
  refine TC.region ?_
  refine TV rfl rfl rfl (Val.move rfl) ?_
  refine TV rfl rfl rfl (Val.assign rfl) ?_
  refine TL.nil ?_
  refine TQ.then_ ?_
  refine TC.ret ?_
  obtain rfl:=Option.some.inj h
  exact TQ.fin (.inl rfl) rfl Try.results42 (.tmp rfl .nil) rfl (FRel.mk (Ls:=[]) [] 0 (Gd.le.refl _) rfl rfl rfl ⟨rfl,rfl,rfl⟩)
 ·
  refine TC.block ?_
  intro a W hF hO
  have hS:∃ (x394:Int) (x395:Int),forward_Loads.l0 a0 (a0.f1.length + 1) x394 x395=some o590∧Fr 30 a [(3,VI x394),(9,.slice A1 a0.f1.length c2),(10,VI (a0.f1.length:Int)),(11,VI x395)]∧Own G (L) W:=by
   exact ⟨0,0,ho590,hF.sub ⟨rfl,rfl,rfl,rfl,trivial⟩,hO.selT (Ls:=[]) [] 1 rfl rfl rfl⟩
  clear hF hO ho590 ko590
  refine TC.loop (fun n591 a W=>∃ (x394:Int) (x395:Int),forward_Loads.l0 a0 n591 x394 x395=some o590∧Fr 30 a [(3,VI x394),(9,.slice A1 a0.f1.length c2),(10,VI (a0.f1.length:Int)),(11,VI x395)]∧Own G (L) W) ?_ ?_ hS
  ·
   rintro a W ⟨x394,x395,h,hF,hO⟩
   exact none_no h
  ·
   clear hS
   rintro n591 a W ⟨x394,x395,h,hF,hO⟩
   rw [forward_Loads.l0] at h
   refine TC.use ?_ hF hO
   clear hF hO
   refine TC.seq ?_
   refine TC.region ?_
   refine TV rfl rfl rfl (Val.cmp rfl rfl run_lss) ?_
   refine TL.nil ?_
   refine TQ.then_ ?_
   refine TC.seq ?_
   refine TC.cond_p rfl h (fun hc784 h=>?_) (fun hc784 h=>?_)
   ·
    refine TC.skip ?_
    refine TQ.then_ ?_
    refine TC.seq ?_
    refine TC.block ?_
    refine TC.seq ?_
    refine TC.region ?_
    obtain ⟨y909,hx910,h⟩:=bind_no h
    obtain ⟨ad911,cs917,hA912,hi913,hj914,hcl915,hK916⟩:=Rd.at hr3 hx910
    obtain ⟨A918,c919,rfl,hr920,hl921⟩:=k42_openR hK916
    refine TV rfl rfl rfl (Val.indexAddr Try.underlying43 fsz42 rfl hA912 rfl hi913 hj914) ?_
    refine TV rfl rfl rfl (Val.loadsS (cs:=[.slice A918 y909.f0.length c919,VI y909.f1.f0,VI y909.f1.f1,VI y909.f1.f2,VI y909.f1.f3]) agg42 fsz42 rfl rfl (Cl.sub (off:=0) (n:=5) hcl915 rfl)) ?_
    refine TL.cons (TL.alloc (cs:=[.slice none 0 0,VI 0,VI 0,VI 0,VI 0]) rfl rfl zr42 rfl (fun b922=>?_))
    refine TL.cons (TL.store 0 (ds:=[.slice A918 y909.f0.length c919,VI y909.f1.f0,VI y909.f1.f1,VI y909.f1.f2,VI y909.f1.f3]) (cs':=[.slice A918 y909.f0.length c919,VI y909.f1.f0,VI y909.f1.f1,VI y909.f1.f2,VI y909.f1.f3]) (L':=(Blk b922 [.slice A918 y909.f0.length c919,VI y909.f1.f0,VI y909.f1.f1,VI y909.f1.f2,VI y909.f1.f3] 42::L)) rfl fsz42 rfl rfl rfl rfl rfl (Nat.le_of_ble_eq_true rfl) rfl rfl ?_)
    refine TL.nil ?_
    refine TQ.then_ ?_
    refine TC.seq ?_
    refine TC.region ?_
    refine TV rfl rfl rfl (Val.fieldAddrB Try.underlying42 rfl fsz38 rfl rfl rfl) ?_
    refine TV rfl rfl rfl (Val.loadB 0 agg38 rfl rfl rfl) ?_
    refine TV rfl rfl rfl (Val.len Try.underlying38 rfl) ?_
    refine TV rfl rfl rfl (Val.move rfl) ?_
    refine TL.nil ?_
    refine TQ.then_ ?_
    obtain ⟨o1042,ho1042,ko1042⟩:=bind_no h
    clear h
    refine TC.tail (fun a W=>∃ (x1041:Int),x1041=o1042∧Fr 30 a [(3,VI x1041),(9,.slice A1 a0.f1.length c2),(10,VI (a0.f1.length:Int)),(11,VI x395)]∧Own G (L) W) ?_ ?_
    ·
     rintro a W ⟨x1041,rfl,hF,hO⟩
     have h:=ko1042
     clear ko1042 ho1042
     refine TQ.use ?_ hF hO
     clear hF hO
     refine TQ.inB ?_
     refine TQ.then_ ?_
     refine TC.region ?_
     refine TV rfl rfl rfl (Val.cmp rfl rfl run_add) ?_
     refine TV rfl rfl rfl (Val.move rfl) ?_
     refine TL.nil ?_
     exact fun a W hF hO=>⟨x1041,IntKind.i64.wrap (x395 + 1),h,hF.sub ⟨rfl,rfl,rfl,rfl,trivial⟩,hO.selT (Ls:=[]) [] 0 rfl rfl rfl⟩
    ·
     refine TC.block ?_
     intro a W hF hO
     have hS:∃ (x1001:Int) (x1002:Int),forward_Loads.l1 y909 (y909.f0.length + 1) x1001 x1002=some o1042∧Fr 30 a [(3,VI x1001),(9,.slice A1 a0.f1.length c2),(10,VI (a0.f1.length:Int)),(11,VI x395),(16,.slice A918 y909.f0.length c919),(17,VI (y909.f0.length:Int)),(18,VI x1002)]∧Own G (L) W:=by
      exact ⟨x394,0,ho1042,hF.sub ⟨rfl,rfl,rfl,rfl,rfl,rfl,rfl,trivial⟩,hO.selT (Ls:=[]) [] 1 rfl rfl rfl⟩
     clear hF hO ho1042 ko1042
     refine TC.loop (fun n1043 a W=>∃ (x1001:Int) (x1002:Int),forward_Loads.l1 y909 n1043 x1001 x1002=some o1042∧Fr 30 a [(3,VI x1001),(9,.slice A1 a0.f1.length c2),(10,VI (a0.f1.length:Int)),(11,VI x395),(16,.slice A918 y909.f0.length c919),(17,VI (y909.f0.length:Int)),(18,VI x1002)]∧Own G (L) W) ?_ ?_ hS
     ·
      rintro a W ⟨x1001,x1002,h,hF,hO⟩
      exact none_no h
     ·
      clear hS
      rintro n1043 a W ⟨x1001,x1002,h,hF,hO⟩
      rw [forward_Loads.l1] at h
      refine TC.use ?_ hF hO
      clear hF hO
      refine TC.seq ?_
      refine TC.region ?_
      refine TV rfl rfl rfl (Val.cmp rfl rfl run_lss) ?_
      refine TL.nil ?_
      refine TQ.then_ ?_
      refine TC.seq ?_
      refine TC.cond_p rfl h (fun hc1081 h=>?_) (fun hc1081 h=>?_)
      ·
       refine TC.skip ?_
       refine TQ.then_ ?_
       refine TC.seq ?_
       refine TC.block ?_
       refine TC.seq ?_
       refine TC.region ?_
       obtain ⟨y1100,hx1101,h⟩:=bind_no h
       obtain ⟨ad1102,cs1108,hA1103,hi1104,hj1105,hcl1106,hK1107⟩:=Rd.at hr920 hx1101
       obtain ⟨A1109,c1110,rfl,hr1111,hl1112⟩:=k37_openR hK1107
       refine TV rfl rfl rfl (Val.indexAddr Try.underlying38 fsz37 rfl hA1103 rfl hi1104 hj1105) ?_
       refine TV rfl rfl rfl (Val.loadsS (cs:=[VI y1100.f0,VI y1100.f1,VI y1100.f2,VI y1100.f3,VI y1100.f4,.slice A1109 y1100.f5.length c1110]) agg37 fsz37 rfl rfl (Cl.sub (off:=0) (n:=6) hcl1106 rfl)) ?_
       refine TL.cons (TL.alloc (cs:=[VI 0,VI 0,VI 0,VI 0,VI 0,.slice none 0 0]) rfl rfl zr37 rfl (fun b1113=>?_))
       refine TL.cons (TL.store 0 (ds:=[VI y1100.f0,VI y1100.f1,VI y1100.f2,VI y1100.f3,VI y1100.f4,.slice A1109 y1100.f5.length c1110]) (cs':=[VI y1100.f0,VI y1100.f1,VI y1100.f2,VI y1100.f3,VI y1100.f4,.slice A1109 y1100.f5.length c1110]) (L':=(Blk b1113 [VI y1100.f0,VI y1100.f1,VI y1100.f2,VI y1100.f3,VI y1100.f4,.slice A1109 y1100.f5.length c1110] 37::L)) rfl fsz37 rfl rfl rfl rfl rfl (Nat.le_of_ble_eq_true rfl) rfl rfl ?_)
       refine TL.nil ?_
       refine TQ.then_ ?_
       refine TC.seq ?_
       refine TC.region ?_
       refine TV rfl rfl rfl (Val.fieldAddrB Try.underlying37 rfl fsz3 rfl rfl rfl) ?_
       refine TV rfl rfl rfl (Val.loadB 0 agg3 rfl rfl rfl) ?_
       refine TV rfl rfl rfl (Val.cmp rfl rfl run_eql) ?_
       refine TL.nil ?_
       refine TQ.then_ ?_
       obtain ⟨j1116,hj1116,h⟩:=jn_no h
       refine TC.tail (fun a W=>∃ (x1115:Int),j1116 x1115=some o1042∧Fr 30 a [(3,VI x1115),(9,.slice A1 a0.f1.length c2),(10,VI (a0.f1.length:Int)),(11,VI x395),(16,.slice A918 y909.f0.length c919),(17,VI (y909.f0.length:Int)),(18,VI x1002)]∧Own G (L) W) ?_ ?_
       ·
        rintro a W ⟨x1115,h,hF,hO⟩
        rw [hj1116] at h
        refine TQ.use ?_ hF hO
        clear hF hO
        refine TQ.inB ?_
        refine TQ.then_ ?_
        refine TC.region ?_
        refine TV rfl rfl rfl (Val.cmp rfl rfl run_add) ?_
        refine TV rfl rfl rfl (Val.move rfl) ?_
        refine TL.nil ?_
        exact fun a W hF hO=>⟨x1115,IntKind.i64.wrap (x1002 + 1),h,hF.sub ⟨rfl,rfl,rfl,rfl,rfl,rfl,rfl,trivial⟩,hO.selT (Ls:=[]) [] 0 rfl rfl rfl⟩
       ·
        refine TC.cond_p rfl h (fun hc1117 h=>?_) (fun hc1117 h=>?_)
        ·
         refine TC.region ?_
         refine TV rfl rfl rfl (Val.move rfl) ?_
         refine TV rfl rfl rfl (Val.cmp rfl rfl run_add) ?_
         refine TV rfl rfl rfl (Val.assign rfl) ?_
         refine TL.nil ?_
         exact fun a W hF hO=>⟨IntKind.i64.wrap (x1001 + 1),h,hF.sub ⟨rfl,rfl,rfl,rfl,rfl,rfl,rfl,trivial⟩,hO.selT (Ls:=[]) [] 1 rfl rfl rfl⟩
        ·
         refine TC.skip ?_
         exact fun a W hF hO=>⟨x1001,h,hF.sub ⟨rfl,rfl,rfl,rfl,rfl,rfl,rfl,trivial⟩,hO.selT (Ls:=[]) [] 1 rfl rfl rfl⟩
      ·
       refine TC.exit ?_
       refine TQ.thenX ?_
       refine TQ.thenX ?_
       refine TQ.inBX ?_
       exact fun a W hF hO=>⟨x1001,Option.some.inj h,hF.sub ⟨rfl,rfl,rfl,rfl,trivial⟩,hO.selT (Ls:=[]) [] 0 rfl rfl rfl⟩
   ·
    refine TC.exit ?_
    refine TQ.thenX ?_
    refine TQ.thenX ?_
    refine TQ.inBX ?_
    exact fun a W hF hO=>⟨x394,Option.some.inj h,hF.sub ⟨rfl,trivial⟩,hO.selT (Ls:=[]) [] 0 rfl rfl rfl⟩
def swagelaw22_small.f:Option Bool:=(swagelaw22_some.f).bind fun (y1:S42)=>(forward_Block.f y1 ([]:List Int)).bind fun (y11:S42)=>(swageref14_Same.f (⟨0,([y11]:List S42)⟩:S45) (⟨0,([(⟨([(⟨5,0,1,2,0,([]:List Int)⟩:S37),(⟨3,3,2,0,0,([]:List Int)⟩:S37),(⟨4,4,1,0,1,([]:List Int)⟩:S37),(⟨3,5,4,0,0,([]:List Int)⟩:S37)]:List S37),(⟨3,5,0,0⟩:S40)⟩:S42)]:List S42)⟩:S45)).bind fun (y115:Bool)=>(if y115=true then (forward_Loads.f (⟨0,([y11]:List S42)⟩:S45)).bind fun (y126:Int)=>(if y126=1 then (forward_Apart.f ([0,1,2]:List Int) 1 2).bind fun (y137:Bool)=>(if y137=true then (forward_Apart.f ([0,1,0]:List Int) 1 2).bind fun (y148:Bool)=>some (!y148) else some false) else some false) else some false)
def swagelaw22_small.post (G:Gd)  (r:Bool) (v:Value) (G':Gd) (Lr:List Ch):Prop:=v=.bool r∧Lr=[]
theorem swagelaw22_small.calls {G:Gd} {r:Bool} (h:swagelaw22_small.f=some r):Fn Try.prog 20 G [] [] (swagelaw22_small.post G  r):=by
 refine Fn.intro (e:=[]) 35 Try.func20 rfl Try.ntmps20 rfl rfl (Nat.le_of_ble_eq_true rfl) (fun L=>?_)
 unfold swagelaw22_small.f at h
 refine TC.seq ?_
 refine TC.region ?_
 refine TV rfl rfl rfl (Val.assign rfl) ?_
 refine TL.nil ?_
 refine TQ.then_ ?_
 refine TC.seq ?_
 refine TC.region ?_
 obtain ⟨y1,hy2,h⟩:=bind_no h
 refine TL.cons (TL.callV (Lin:=[]) (args:=[]) rfl rfl rfl hbd40 rfl rfl (swagelaw22_some.calls hy2) rfl ?_)
 rintro _ _ _ _ ⟨rfl,A3,c4,rfl,rfl⟩
 refine TK.share (fun G6 e7 hs8 _=>?_)
 have rd9:Rd G6 k37 A3 y1.f0:=Rd.row hs8
 have le10:y1.f0.length ≤ c4:=Row.le hs8
 obtain ⟨y11,hy12,h⟩:=bind_no h
 refine TL.cons (TL.callV (Lin:=[]) (args:=[.agg #[.slice A3 y1.f0.length c4,VI y1.f1.f0,VI y1.f1.f1,VI y1.f1.f2,VI y1.f1.f3],.slice none 0 0]) rfl rfl rfl hbd39 rfl rfl (forward_Block.calls (a0:=y1) (a1:=([]:List Int)) rd9 le10 (Rd.nil _ _) (Nat.le_refl 0) hy12) rfl ?_)
 rintro _ _ _ _ ⟨rfl,A13,c14,rfl,rfl⟩
 refine TL.cons (TL.alloc (cs:=[.slice none 0 0,VI 0,VI 0,VI 0,VI 0]) rfl rfl zr42 rfl (fun b16=>?_))
 refine TL.cons (TL.store 0 (ds:=[.slice A13 y11.f0.length c14,VI y11.f1.f0,VI y11.f1.f1,VI y11.f1.f2,VI y11.f1.f3]) (cs':=[.slice A13 y11.f0.length c14,VI y11.f1.f0,VI y11.f1.f1,VI y11.f1.f2,VI y11.f1.f3]) (L':=(Blk b16 [.slice A13 y11.f0.length c14,VI y11.f1.f0,VI y11.f1.f1,VI y11.f1.f2,VI y11.f1.f3] 42::Row k37 37 (.slice A13 y11.f0.length c14) y11.f0::L)) rfl fsz42 rfl rfl rfl rfl rfl (Nat.le_of_ble_eq_true rfl) rfl rfl ?_)
 refine TL.nil ?_
 refine TQ.then_ ?_
 refine TC.seq ?_
 refine TC.region ?_
 refine TV rfl rfl rfl (Val.build (cs:=[VI 5,VI 0,VI 1,VI 2,VI 0,.slice none 0 0]) (is:=[0,2,3]) (xs:=[.const (VI 5),.const (VI 1),.const (VI 2)]) Try.underlying37 zr37 bld37 rfl rfl rfl rfl) ?_
 refine TV rfl rfl rfl (Val.build (cs:=[VI 3,VI 3,VI 2,VI 0,VI 0,.slice none 0 0]) (is:=[0,1,2]) (xs:=[.const (VI 3),.const (VI 3),.const (VI 2)]) Try.underlying37 zr37 bld37 rfl rfl rfl rfl) ?_
 refine TV rfl rfl rfl (Val.build (cs:=[VI 4,VI 4,VI 1,VI 0,VI 1,.slice none 0 0]) (is:=[0,1,2,4]) (xs:=[.const (VI 4),.const (VI 4),.const (VI 1),.const (VI 1)]) Try.underlying37 zr37 bld37 rfl rfl rfl rfl) ?_
 refine TV rfl rfl rfl (Val.build (cs:=[VI 3,VI 5,VI 4,VI 0,VI 0,.slice none 0 0]) (is:=[0,1,2]) (xs:=[.const (VI 3),.const (VI 5),.const (VI 4)]) Try.underlying37 zr37 bld37 rfl rfl rfl rfl) ?_
 refine TL.cons (TL.buildSlice (xs:=[.tmp 5,.tmp 6,.tmp 7,.tmp 8]) (vs:=[.agg #[VI 5,VI 0,VI 1,VI 2,VI 0,.slice none 0 0],.agg #[VI 3,VI 3,VI 2,VI 0,VI 0,.slice none 0 0],.agg #[VI 4,VI 4,VI 1,VI 0,VI 1,.slice none 0 0],.agg #[VI 3,VI 5,VI 4,VI 0,VI 0,.slice none 0 0]]) (cs:=[VI 5,VI 0,VI 1,VI 2,VI 0,.slice none 0 0,VI 3,VI 3,VI 2,VI 0,VI 0,.slice none 0 0,VI 4,VI 4,VI 1,VI 0,VI 1,.slice none 0 0,VI 3,VI 5,VI 4,VI 0,VI 0,.slice none 0 0]) rfl rfl Try.underlying38 zs37 rfl rfl rfl rfl rfl rfl rfl rfl (fun b17=>?_))
 refine TV rfl rfl rfl (Val.build (cs:=[VI 3,VI 5,VI 0,VI 0]) (is:=[0,1]) (xs:=[.const (VI 3),.const (VI 5)]) Try.underlying40 zr40 bld40 rfl rfl rfl rfl) ?_
 refine TV rfl rfl rfl (Val.build (cs:=[.slice (some ⟨b17,0,none⟩) 4 4,VI 3,VI 5,VI 0,VI 0]) (is:=[0,1]) (xs:=[.tmp 9,.tmp 10]) Try.underlying42 zr42 bld42 rfl rfl rfl rfl) ?_
 refine TL.cons (TL.alloc (cs:=[.slice none 0 0,VI 0,VI 0,VI 0,VI 0]) rfl rfl zr42 rfl (fun b18=>?_))
 refine TL.cons (TL.store 0 (ds:=[.slice (some ⟨b17,0,none⟩) 4 4,VI 3,VI 5,VI 0,VI 0]) (cs':=[.slice (some ⟨b17,0,none⟩) 4 4,VI 3,VI 5,VI 0,VI 0]) (L':=(Blk b18 [.slice (some ⟨b17,0,none⟩) 4 4,VI 3,VI 5,VI 0,VI 0] 42::Blk b17 [VI 5,VI 0,VI 1,VI 2,VI 0,.slice none 0 0,VI 3,VI 3,VI 2,VI 0,VI 0,.slice none 0 0,VI 4,VI 4,VI 1,VI 0,VI 1,.slice none 0 0,VI 3,VI 5,VI 4,VI 0,VI 0,.slice none 0 0] 37::Blk b16 [.slice A13 y11.f0.length c14,VI y11.f1.f0,VI y11.f1.f1,VI y11.f1.f2,VI y11.f1.f3] 42::Row k37 37 (.slice A13 y11.f0.length c14) y11.f0::L)) rfl fsz42 rfl rfl rfl rfl rfl (Nat.le_of_ble_eq_true rfl) rfl rfl ?_)
 refine TL.nil ?_
 refine TQ.then_ ?_
 refine TC.seq ?_
 refine TC.region ?_
 refine TV rfl rfl rfl (Val.loadsB 2 (cs:=[.slice A13 y11.f0.length c14,VI y11.f1.f0,VI y11.f1.f1,VI y11.f1.f2,VI y11.f1.f3]) agg42 fsz42 rfl rfl rfl rfl) ?_
 refine TL.cons (TL.buildSlice (xs:=[.tmp 12]) (vs:=[.agg #[.slice A13 y11.f0.length c14,VI y11.f1.f0,VI y11.f1.f1,VI y11.f1.f2,VI y11.f1.f3]]) (cs:=[.slice A13 y11.f0.length c14,VI y11.f1.f0,VI y11.f1.f1,VI y11.f1.f2,VI y11.f1.f3]) rfl rfl Try.underlying43 zs42 rfl rfl rfl rfl rfl rfl rfl rfl (fun b86=>?_))
 refine TV rfl rfl rfl (Val.build (cs:=[VI 0,.slice (some ⟨b86,0,none⟩) 1 1]) (is:=[1]) (xs:=[.tmp 13]) Try.underlying45 zr45 bld45 rfl rfl rfl rfl) ?_
 refine TV rfl rfl rfl (Val.loadsB 1 (cs:=[.slice (some ⟨b17,0,none⟩) 4 4,VI 3,VI 5,VI 0,VI 0]) agg42 fsz42 rfl rfl rfl rfl) ?_
 refine TL.cons (TL.buildSlice (xs:=[.tmp 15]) (vs:=[.agg #[.slice (some ⟨b17,0,none⟩) 4 4,VI 3,VI 5,VI 0,VI 0]]) (cs:=[.slice (some ⟨b17,0,none⟩) 4 4,VI 3,VI 5,VI 0,VI 0]) rfl rfl Try.underlying43 zs42 rfl rfl rfl rfl rfl rfl rfl rfl (fun b87=>?_))
 refine TV rfl rfl rfl (Val.build (cs:=[VI 0,.slice (some ⟨b87,0,none⟩) 1 1]) (is:=[1]) (xs:=[.tmp 16]) Try.underlying45 zr45 bld45 rfl rfl rfl rfl) ?_
 refine TK.sel (Ls:=[Row k37 37 (.slice A13 y11.f0.length c14) y11.f0,Blk b87 [.slice (some ⟨b17,0,none⟩) 4 4,VI 3,VI 5,VI 0,VI 0] 42,Blk b86 [.slice A13 y11.f0.length c14,VI y11.f1.f0,VI y11.f1.f1,VI y11.f1.f2,VI y11.f1.f3] 42,Blk b18 [.slice (some ⟨b17,0,none⟩) 4 4,VI 3,VI 5,VI 0,VI 0] 42,Blk b17 [VI 5,VI 0,VI 1,VI 2,VI 0,.slice none 0 0,VI 3,VI 3,VI 2,VI 0,VI 0,.slice none 0 0,VI 4,VI 4,VI 1,VI 0,VI 1,.slice none 0 0,VI 3,VI 5,VI 4,VI 0,VI 0,.slice none 0 0] 37,Blk b16 [.slice A13 y11.f0.length c14,VI y11.f1.f0,VI y11.f1.f1,VI y11.f1.f2,VI y11.f1.f3] 42]) [5,0,1,2,3,4] 6 rfl rfl rfl ?_
 refine TK.share (fun G88 e89 hs90 _=>?_)
 have rd91:Rd G88 k37 A13 y11.f0:=Rd.row hs90
 have le92:y11.f0.length ≤ c14:=Row.le hs90
 refine TK.new (Els.nil (Sh G88 k42)) ?_
 refine TK.new (El.of (k:=(Sh G88 k42)) (xv:=y11) (cs:=[.slice A13 y11.f0.length c14,VI y11.f1.f0,VI y11.f1.f1,VI y11.f1.f2,VI y11.f1.f3]) (fun W B=>Sh.mk (fun W hW=>k42_mk W y11 le92 (rd91 W hW)) W B _)) ?_
 refine TK.sel (Ls:=[Els (Sh G88 k42) [] [],El (Sh G88 k42) y11 [.slice A13 y11.f0.length c14,VI y11.f1.f0,VI y11.f1.f1,VI y11.f1.f2,VI y11.f1.f3],Blk b87 [.slice (some ⟨b17,0,none⟩) 4 4,VI 3,VI 5,VI 0,VI 0] 42,Blk b86 [.slice A13 y11.f0.length c14,VI y11.f1.f0,VI y11.f1.f1,VI y11.f1.f2,VI y11.f1.f3] 42,Blk b18 [.slice (some ⟨b17,0,none⟩) 4 4,VI 3,VI 5,VI 0,VI 0] 42,Blk b17 [VI 5,VI 0,VI 1,VI 2,VI 0,.slice none 0 0,VI 3,VI 3,VI 2,VI 0,VI 0,.slice none 0 0,VI 4,VI 4,VI 1,VI 0,VI 1,.slice none 0 0,VI 3,VI 5,VI 4,VI 0,VI 0,.slice none 0 0] 37,Blk b16 [.slice A13 y11.f0.length c14,VI y11.f1.f0,VI y11.f1.f1,VI y11.f1.f2,VI y11.f1.f3] 42]) [1,0,2,3,4,5,6] 7 rfl rfl rfl ?_
 refine TK.two (ch:=Els (Sh G88 k42) [y11] [.slice A13 y11.f0.length c14,VI y11.f1.f0,VI y11.f1.f1,VI y11.f1.f2,VI y11.f1.f3]) (Els.snoc (Sh G88 k42)) ?_
 refine TK.sel (Ls:=[Blk b86 [.slice A13 y11.f0.length c14,VI y11.f1.f0,VI y11.f1.f1,VI y11.f1.f2,VI y11.f1.f3] 42,Els (Sh G88 k42) [y11] [.slice A13 y11.f0.length c14,VI y11.f1.f0,VI y11.f1.f1,VI y11.f1.f2,VI y11.f1.f3],Blk b87 [.slice (some ⟨b17,0,none⟩) 4 4,VI 3,VI 5,VI 0,VI 0] 42,Blk b18 [.slice (some ⟨b17,0,none⟩) 4 4,VI 3,VI 5,VI 0,VI 0] 42,Blk b17 [VI 5,VI 0,VI 1,VI 2,VI 0,.slice none 0 0,VI 3,VI 3,VI 2,VI 0,VI 0,.slice none 0 0,VI 4,VI 4,VI 1,VI 0,VI 1,.slice none 0 0,VI 3,VI 5,VI 4,VI 0,VI 0,.slice none 0 0] 37,Blk b16 [.slice A13 y11.f0.length c14,VI y11.f1.f0,VI y11.f1.f1,VI y11.f1.f2,VI y11.f1.f3] 42]) [2,0,1,3,4,5] 6 rfl rfl rfl ?_
 refine TK.two (ch:=Row (Sh G88 k42) 42 (.slice (some ⟨b86,0,none⟩) 1 1) ([y11]:List S42)) (Row.lit (Sh G88 k42) rfl rfl) ?_
 refine TK.share (fun G94 e95 hs96 _=>?_)
 have rd97:Rd G94 k42 (some ⟨b86,0,none⟩) ([y11]:List S42):=Rd.unsh (Rd.row hs96) e95
 have le98:([y11]:List S42).length ≤ 1:=Row.le hs96
 refine TK.new (Els.nil k37) ?_
 refine TK.new (Row.nil kI 3) ?_
 refine TK.conv (ch':=El k37 (⟨5,0,1,2,0,([]:List Int)⟩:S37) [VI 5,VI 0,VI 1,VI 2,VI 0,.slice none 0 0]) (fun B W F hh=>k37_mkM W B F (⟨5,0,1,2,0,([]:List Int)⟩:S37) hh) ?_
 refine TK.sel (Ls:=[Els k37 [] [],El k37 (⟨5,0,1,2,0,([]:List Int)⟩:S37) [VI 5,VI 0,VI 1,VI 2,VI 0,.slice none 0 0],Blk b87 [.slice (some ⟨b17,0,none⟩) 4 4,VI 3,VI 5,VI 0,VI 0] 42,Blk b18 [.slice (some ⟨b17,0,none⟩) 4 4,VI 3,VI 5,VI 0,VI 0] 42,Blk b17 [VI 5,VI 0,VI 1,VI 2,VI 0,.slice none 0 0,VI 3,VI 3,VI 2,VI 0,VI 0,.slice none 0 0,VI 4,VI 4,VI 1,VI 0,VI 1,.slice none 0 0,VI 3,VI 5,VI 4,VI 0,VI 0,.slice none 0 0] 37,Blk b16 [.slice A13 y11.f0.length c14,VI y11.f1.f0,VI y11.f1.f1,VI y11.f1.f2,VI y11.f1.f3] 42]) [1,0,2,3,4,5] 6 rfl rfl rfl ?_
 refine TK.two (ch:=Els k37 [(⟨5,0,1,2,0,([]:List Int)⟩:S37)] [VI 5,VI 0,VI 1,VI 2,VI 0,.slice none 0 0]) (Els.snoc k37) ?_
 refine TK.new (Row.nil kI 3) ?_
 refine TK.conv (ch':=El k37 (⟨3,3,2,0,0,([]:List Int)⟩:S37) [VI 3,VI 3,VI 2,VI 0,VI 0,.slice none 0 0]) (fun B W F hh=>k37_mkM W B F (⟨3,3,2,0,0,([]:List Int)⟩:S37) hh) ?_
 refine TK.sel (Ls:=[Els k37 [(⟨5,0,1,2,0,([]:List Int)⟩:S37)] [VI 5,VI 0,VI 1,VI 2,VI 0,.slice none 0 0],El k37 (⟨3,3,2,0,0,([]:List Int)⟩:S37) [VI 3,VI 3,VI 2,VI 0,VI 0,.slice none 0 0],Blk b87 [.slice (some ⟨b17,0,none⟩) 4 4,VI 3,VI 5,VI 0,VI 0] 42,Blk b18 [.slice (some ⟨b17,0,none⟩) 4 4,VI 3,VI 5,VI 0,VI 0] 42,Blk b17 [VI 5,VI 0,VI 1,VI 2,VI 0,.slice none 0 0,VI 3,VI 3,VI 2,VI 0,VI 0,.slice none 0 0,VI 4,VI 4,VI 1,VI 0,VI 1,.slice none 0 0,VI 3,VI 5,VI 4,VI 0,VI 0,.slice none 0 0] 37,Blk b16 [.slice A13 y11.f0.length c14,VI y11.f1.f0,VI y11.f1.f1,VI y11.f1.f2,VI y11.f1.f3] 42]) [1,0,2,3,4,5] 6 rfl rfl rfl ?_
 refine TK.two (ch:=Els k37 [(⟨5,0,1,2,0,([]:List Int)⟩:S37),(⟨3,3,2,0,0,([]:List Int)⟩:S37)] [VI 5,VI 0,VI 1,VI 2,VI 0,.slice none 0 0,VI 3,VI 3,VI 2,VI 0,VI 0,.slice none 0 0]) (Els.snoc k37) ?_
 refine TK.new (Row.nil kI 3) ?_
 refine TK.conv (ch':=El k37 (⟨4,4,1,0,1,([]:List Int)⟩:S37) [VI 4,VI 4,VI 1,VI 0,VI 1,.slice none 0 0]) (fun B W F hh=>k37_mkM W B F (⟨4,4,1,0,1,([]:List Int)⟩:S37) hh) ?_
 refine TK.sel (Ls:=[Els k37 [(⟨5,0,1,2,0,([]:List Int)⟩:S37),(⟨3,3,2,0,0,([]:List Int)⟩:S37)] [VI 5,VI 0,VI 1,VI 2,VI 0,.slice none 0 0,VI 3,VI 3,VI 2,VI 0,VI 0,.slice none 0 0],El k37 (⟨4,4,1,0,1,([]:List Int)⟩:S37) [VI 4,VI 4,VI 1,VI 0,VI 1,.slice none 0 0],Blk b87 [.slice (some ⟨b17,0,none⟩) 4 4,VI 3,VI 5,VI 0,VI 0] 42,Blk b18 [.slice (some ⟨b17,0,none⟩) 4 4,VI 3,VI 5,VI 0,VI 0] 42,Blk b17 [VI 5,VI 0,VI 1,VI 2,VI 0,.slice none 0 0,VI 3,VI 3,VI 2,VI 0,VI 0,.slice none 0 0,VI 4,VI 4,VI 1,VI 0,VI 1,.slice none 0 0,VI 3,VI 5,VI 4,VI 0,VI 0,.slice none 0 0] 37,Blk b16 [.slice A13 y11.f0.length c14,VI y11.f1.f0,VI y11.f1.f1,VI y11.f1.f2,VI y11.f1.f3] 42]) [1,0,2,3,4,5] 6 rfl rfl rfl ?_
 refine TK.two (ch:=Els k37 [(⟨5,0,1,2,0,([]:List Int)⟩:S37),(⟨3,3,2,0,0,([]:List Int)⟩:S37),(⟨4,4,1,0,1,([]:List Int)⟩:S37)] [VI 5,VI 0,VI 1,VI 2,VI 0,.slice none 0 0,VI 3,VI 3,VI 2,VI 0,VI 0,.slice none 0 0,VI 4,VI 4,VI 1,VI 0,VI 1,.slice none 0 0]) (Els.snoc k37) ?_
 refine TK.new (Row.nil kI 3) ?_
 refine TK.conv (ch':=El k37 (⟨3,5,4,0,0,([]:List Int)⟩:S37) [VI 3,VI 5,VI 4,VI 0,VI 0,.slice none 0 0]) (fun B W F hh=>k37_mkM W B F (⟨3,5,4,0,0,([]:List Int)⟩:S37) hh) ?_
 refine TK.sel (Ls:=[Els k37 [(⟨5,0,1,2,0,([]:List Int)⟩:S37),(⟨3,3,2,0,0,([]:List Int)⟩:S37),(⟨4,4,1,0,1,([]:List Int)⟩:S37)] [VI 5,VI 0,VI 1,VI 2,VI 0,.slice none 0 0,VI 3,VI 3,VI 2,VI 0,VI 0,.slice none 0 0,VI 4,VI 4,VI 1,VI 0,VI 1,.slice none 0 0],El k37 (⟨3,5,4,0,0,([]:List Int)⟩:S37) [VI 3,VI 5,VI 4,VI 0,VI 0,.slice none 0 0],Blk b87 [.slice (some ⟨b17,0,none⟩) 4 4,VI 3,VI 5,VI 0,VI 0] 42,Blk b18 [.slice (some ⟨b17,0,none⟩) 4 4,VI 3,VI 5,VI 0,VI 0] 42,Blk b17 [VI 5,VI 0,VI 1,VI 2,VI 0,.slice none 0 0,VI 3,VI 3,VI 2,VI 0,VI 0,.slice none 0 0,VI 4,VI 4,VI 1,VI 0,VI 1,.slice none 0 0,VI 3,VI 5,VI 4,VI 0,VI 0,.slice none 0 0] 37,Blk b16 [.slice A13 y11.f0.length c14,VI y11.f1.f0,VI y11.f1.f1,VI y11.f1.f2,VI y11.f1.f3] 42]) [1,0,2,3,4,5] 6 rfl rfl rfl ?_
 refine TK.two (ch:=Els k37 [(⟨5,0,1,2,0,([]:List Int)⟩:S37),(⟨3,3,2,0,0,([]:List Int)⟩:S37),(⟨4,4,1,0,1,([]:List Int)⟩:S37),(⟨3,5,4,0,0,([]:List Int)⟩:S37)] [VI 5,VI 0,VI 1,VI 2,VI 0,.slice none 0 0,VI 3,VI 3,VI 2,VI 0,VI 0,.slice none 0 0,VI 4,VI 4,VI 1,VI 0,VI 1,.slice none 0 0,VI 3,VI 5,VI 4,VI 0,VI 0,.slice none 0 0]) (Els.snoc k37) ?_
 refine TK.sel (Ls:=[Blk b17 [VI 5,VI 0,VI 1,VI 2,VI 0,.slice none 0 0,VI 3,VI 3,VI 2,VI 0,VI 0,.slice none 0 0,VI 4,VI 4,VI 1,VI 0,VI 1,.slice none 0 0,VI 3,VI 5,VI 4,VI 0,VI 0,.slice none 0 0] 37,Els k37 [(⟨5,0,1,2,0,([]:List Int)⟩:S37),(⟨3,3,2,0,0,([]:List Int)⟩:S37),(⟨4,4,1,0,1,([]:List Int)⟩:S37),(⟨3,5,4,0,0,([]:List Int)⟩:S37)] [VI 5,VI 0,VI 1,VI 2,VI 0,.slice none 0 0,VI 3,VI 3,VI 2,VI 0,VI 0,.slice none 0 0,VI 4,VI 4,VI 1,VI 0,VI 1,.slice none 0 0,VI 3,VI 5,VI 4,VI 0,VI 0,.slice none 0 0],Blk b87 [.slice (some ⟨b17,0,none⟩) 4 4,VI 3,VI 5,VI 0,VI 0] 42,Blk b18 [.slice (some ⟨b17,0,none⟩) 4 4,VI 3,VI 5,VI 0,VI 0] 42,Blk b16 [.slice A13 y11.f0.length c14,VI y11.f1.f0,VI y11.f1.f1,VI y11.f1.f2,VI y11.f1.f3] 42]) [3,0,1,2,4] 5 rfl rfl rfl ?_
 refine TK.two (ch:=Row k37 37 (.slice (some ⟨b17,0,none⟩) 4 4) ([(⟨5,0,1,2,0,([]:List Int)⟩:S37),(⟨3,3,2,0,0,([]:List Int)⟩:S37),(⟨4,4,1,0,1,([]:List Int)⟩:S37),(⟨3,5,4,0,0,([]:List Int)⟩:S37)]:List S37)) (Row.lit k37 rfl rfl) ?_
 refine TK.share (fun G104 e105 hs106 _=>?_)
 have rd107:Rd G104 k37 (some ⟨b17,0,none⟩) ([(⟨5,0,1,2,0,([]:List Int)⟩:S37),(⟨3,3,2,0,0,([]:List Int)⟩:S37),(⟨4,4,1,0,1,([]:List Int)⟩:S37),(⟨3,5,4,0,0,([]:List Int)⟩:S37)]:List S37):=Rd.row hs106
 have le108:([(⟨5,0,1,2,0,([]:List Int)⟩:S37),(⟨3,3,2,0,0,([]:List Int)⟩:S37),(⟨4,4,1,0,1,([]:List Int)⟩:S37),(⟨3,5,4,0,0,([]:List Int)⟩:S37)]:List S37).length ≤ 4:=Row.le hs106
 refine TK.new (Els.nil (Sh G104 k42)) ?_
 refine TK.new (El.of (k:=(Sh G104 k42)) (xv:=(⟨([(⟨5,0,1,2,0,([]:List Int)⟩:S37),(⟨3,3,2,0,0,([]:List Int)⟩:S37),(⟨4,4,1,0,1,([]:List Int)⟩:S37),(⟨3,5,4,0,0,([]:List Int)⟩:S37)]:List S37),(⟨3,5,0,0⟩:S40)⟩:S42)) (cs:=[.slice (some ⟨b17,0,none⟩) 4 4,VI 3,VI 5,VI 0,VI 0]) (fun W B=>Sh.mk (fun W hW=>k42_mk W (⟨([(⟨5,0,1,2,0,([]:List Int)⟩:S37),(⟨3,3,2,0,0,([]:List Int)⟩:S37),(⟨4,4,1,0,1,([]:List Int)⟩:S37),(⟨3,5,4,0,0,([]:List Int)⟩:S37)]:List S37),(⟨3,5,0,0⟩:S40)⟩:S42) le108 (rd107 W hW)) W B _)) ?_
 refine TK.sel (Ls:=[Els (Sh G104 k42) [] [],El (Sh G104 k42) (⟨([(⟨5,0,1,2,0,([]:List Int)⟩:S37),(⟨3,3,2,0,0,([]:List Int)⟩:S37),(⟨4,4,1,0,1,([]:List Int)⟩:S37),(⟨3,5,4,0,0,([]:List Int)⟩:S37)]:List S37),(⟨3,5,0,0⟩:S40)⟩:S42) [.slice (some ⟨b17,0,none⟩) 4 4,VI 3,VI 5,VI 0,VI 0],Blk b87 [.slice (some ⟨b17,0,none⟩) 4 4,VI 3,VI 5,VI 0,VI 0] 42,Blk b18 [.slice (some ⟨b17,0,none⟩) 4 4,VI 3,VI 5,VI 0,VI 0] 42,Blk b16 [.slice A13 y11.f0.length c14,VI y11.f1.f0,VI y11.f1.f1,VI y11.f1.f2,VI y11.f1.f3] 42]) [1,0,2,3,4] 5 rfl rfl rfl ?_
 refine TK.two (ch:=Els (Sh G104 k42) [(⟨([(⟨5,0,1,2,0,([]:List Int)⟩:S37),(⟨3,3,2,0,0,([]:List Int)⟩:S37),(⟨4,4,1,0,1,([]:List Int)⟩:S37),(⟨3,5,4,0,0,([]:List Int)⟩:S37)]:List S37),(⟨3,5,0,0⟩:S40)⟩:S42)] [.slice (some ⟨b17,0,none⟩) 4 4,VI 3,VI 5,VI 0,VI 0]) (Els.snoc (Sh G104 k42)) ?_
 refine TK.sel (Ls:=[Blk b87 [.slice (some ⟨b17,0,none⟩) 4 4,VI 3,VI 5,VI 0,VI 0] 42,Els (Sh G104 k42) [(⟨([(⟨5,0,1,2,0,([]:List Int)⟩:S37),(⟨3,3,2,0,0,([]:List Int)⟩:S37),(⟨4,4,1,0,1,([]:List Int)⟩:S37),(⟨3,5,4,0,0,([]:List Int)⟩:S37)]:List S37),(⟨3,5,0,0⟩:S40)⟩:S42)] [.slice (some ⟨b17,0,none⟩) 4 4,VI 3,VI 5,VI 0,VI 0],Blk b18 [.slice (some ⟨b17,0,none⟩) 4 4,VI 3,VI 5,VI 0,VI 0] 42,Blk b16 [.slice A13 y11.f0.length c14,VI y11.f1.f0,VI y11.f1.f1,VI y11.f1.f2,VI y11.f1.f3] 42]) [1,0,2,3] 4 rfl rfl rfl ?_
 refine TK.two (ch:=Row (Sh G104 k42) 42 (.slice (some ⟨b87,0,none⟩) 1 1) ([(⟨([(⟨5,0,1,2,0,([]:List Int)⟩:S37),(⟨3,3,2,0,0,([]:List Int)⟩:S37),(⟨4,4,1,0,1,([]:List Int)⟩:S37),(⟨3,5,4,0,0,([]:List Int)⟩:S37)]:List S37),(⟨3,5,0,0⟩:S40)⟩:S42)]:List S42)) (Row.lit (Sh G104 k42) rfl rfl) ?_
 refine TK.share (fun G110 e111 hs112 _=>?_)
 have rd113:Rd G110 k42 (some ⟨b87,0,none⟩) ([(⟨([(⟨5,0,1,2,0,([]:List Int)⟩:S37),(⟨3,3,2,0,0,([]:List Int)⟩:S37),(⟨4,4,1,0,1,([]:List Int)⟩:S37),(⟨3,5,4,0,0,([]:List Int)⟩:S37)]:List S37),(⟨3,5,0,0⟩:S40)⟩:S42)]:List S42):=Rd.unsh (Rd.row hs112) e111
 have le114:([(⟨([(⟨5,0,1,2,0,([]:List Int)⟩:S37),(⟨3,3,2,0,0,([]:List Int)⟩:S37),(⟨4,4,1,0,1,([]:List Int)⟩:S37),(⟨3,5,4,0,0,([]:List Int)⟩:S37)]:List S37),(⟨3,5,0,0⟩:S40)⟩:S42)]:List S42).length ≤ 1:=Row.le hs112
 obtain ⟨y115,hy116,h⟩:=bind_no h
 refine TL.cons (TL.callV (Lin:=[]) (args:=[.agg #[VI 0,.slice (some ⟨b86,0,none⟩) 1 1],.agg #[VI 0,.slice (some ⟨b87,0,none⟩) 1 1]]) rfl rfl rfl hbd41 rfl rfl (swageref14_Same.calls (a0:=(⟨0,([y11]:List S42)⟩:S45)) (a1:=(⟨0,([(⟨([(⟨5,0,1,2,0,([]:List Int)⟩:S37),(⟨3,3,2,0,0,([]:List Int)⟩:S37),(⟨4,4,1,0,1,([]:List Int)⟩:S37),(⟨3,5,4,0,0,([]:List Int)⟩:S37)]:List S37),(⟨3,5,0,0⟩:S40)⟩:S42)]:List S42)⟩:S45)) (rd97.up (Gd.le.trans e105 e111)) le98 rd113 le114 hy116) rfl ?_)
 rintro _ _ _ _ ⟨rfl,rfl,rfl⟩
 refine TV rfl rfl rfl (Val.move rfl) ?_
 refine TK.split (p:=y115=true) h (fun hg117 h=>?_) (fun hg117 h=>?_)
 ·
  have hk118:y115=true:=hg117
  refine TV (Wt.yes rfl rfl rfl hk118) rfl rfl (Val.loadsB 1 (cs:=[.slice A13 y11.f0.length c14,VI y11.f1.f0,VI y11.f1.f1,VI y11.f1.f2,VI y11.f1.f3]) agg42 fsz42 rfl rfl rfl rfl) ?_
  refine TL.cons (TL.buildSlice (xs:=[.tmp 20]) (vs:=[.agg #[.slice A13 y11.f0.length c14,VI y11.f1.f0,VI y11.f1.f1,VI y11.f1.f2,VI y11.f1.f3]]) (cs:=[.slice A13 y11.f0.length c14,VI y11.f1.f0,VI y11.f1.f1,VI y11.f1.f2,VI y11.f1.f3]) (Wt.yes rfl rfl rfl hk118) rfl Try.underlying43 zs42 rfl rfl rfl rfl rfl rfl rfl rfl (fun b119=>?_))
  refine TV (Wt.yes rfl rfl rfl hk118) rfl rfl (Val.build (cs:=[VI 0,.slice (some ⟨b119,0,none⟩) 1 1]) (is:=[1]) (xs:=[.tmp 21]) Try.underlying45 zr45 bld45 rfl rfl rfl rfl) ?_
  refine TK.new (Els.nil (Sh G110 k42)) ?_
  refine TK.new (El.of (k:=(Sh G110 k42)) (xv:=y11) (cs:=[.slice A13 y11.f0.length c14,VI y11.f1.f0,VI y11.f1.f1,VI y11.f1.f2,VI y11.f1.f3]) (fun W B=>Sh.mk (fun W hW=>k42_mk W y11 le92 ((rd91.up (Gd.le.trans (Gd.le.trans e95 e105) e111)) W hW)) W B _)) ?_
  refine TK.sel (Ls:=[Els (Sh G110 k42) [] [],El (Sh G110 k42) y11 [.slice A13 y11.f0.length c14,VI y11.f1.f0,VI y11.f1.f1,VI y11.f1.f2,VI y11.f1.f3],Blk b119 [.slice A13 y11.f0.length c14,VI y11.f1.f0,VI y11.f1.f1,VI y11.f1.f2,VI y11.f1.f3] 42,Blk b18 [.slice (some ⟨b17,0,none⟩) 4 4,VI 3,VI 5,VI 0,VI 0] 42,Blk b16 [.slice A13 y11.f0.length c14,VI y11.f1.f0,VI y11.f1.f1,VI y11.f1.f2,VI y11.f1.f3] 42]) [1,0,2,3,4] 5 rfl rfl rfl ?_
  refine TK.two (ch:=Els (Sh G110 k42) [y11] [.slice A13 y11.f0.length c14,VI y11.f1.f0,VI y11.f1.f1,VI y11.f1.f2,VI y11.f1.f3]) (Els.snoc (Sh G110 k42)) ?_
  refine TK.sel (Ls:=[Blk b119 [.slice A13 y11.f0.length c14,VI y11.f1.f0,VI y11.f1.f1,VI y11.f1.f2,VI y11.f1.f3] 42,Els (Sh G110 k42) [y11] [.slice A13 y11.f0.length c14,VI y11.f1.f0,VI y11.f1.f1,VI y11.f1.f2,VI y11.f1.f3],Blk b18 [.slice (some ⟨b17,0,none⟩) 4 4,VI 3,VI 5,VI 0,VI 0] 42,Blk b16 [.slice A13 y11.f0.length c14,VI y11.f1.f0,VI y11.f1.f1,VI y11.f1.f2,VI y11.f1.f3] 42]) [1,0,2,3] 4 rfl rfl rfl ?_
  refine TK.two (ch:=Row (Sh G110 k42) 42 (.slice (some ⟨b119,0,none⟩) 1 1) ([y11]:List S42)) (Row.lit (Sh G110 k42) rfl rfl) ?_
  refine TK.share (fun G121 e122 hs123 _=>?_)
  have rd124:Rd G121 k42 (some ⟨b119,0,none⟩) ([y11]:List S42):=Rd.unsh (Rd.row hs123) e122
  have le125:([y11]:List S42).length ≤ 1:=Row.le hs123
  obtain ⟨y126,hy127,h⟩:=bind_no h
  refine TL.cons (TL.callV (Lin:=[]) (args:=[.agg #[VI 0,.slice (some ⟨b119,0,none⟩) 1 1]]) (Wt.yes rfl rfl rfl hk118) rfl rfl hbd42 rfl rfl (forward_Loads.calls (a0:=(⟨0,([y11]:List S42)⟩:S45)) rd124 le125 hy127) rfl ?_)
  rintro _ _ _ _ ⟨rfl,rfl,rfl⟩
  refine TV (Wt.yes rfl rfl rfl hk118) rfl rfl (Val.cmp rfl rfl run_eql) ?_
  refine TV rfl rfl rfl (Val.pickY rfl hk118 rfl) ?_
  refine TV rfl rfl rfl (Val.move rfl) ?_
  refine TK.split (p:=y126=1) h (fun hg128 h=>?_) (fun hg128 h=>?_)
  ·
   have hk129:decide (y126=1)=true:=decide_eq_true hg128
   refine TL.cons (TL.buildSlice (xs:=[.const (VI 0),.const (VI 1),.const (VI 2)]) (vs:=[VI 0,VI 1,VI 2]) (cs:=[VI 0,VI 1,VI 2]) (Wt.yes rfl rfl rfl hk129) rfl Try.underlying23 zs3 rfl rfl rfl rfl rfl rfl rfl rfl (fun b130=>?_))
   refine TK.new (Els.nil kI) ?_
   refine TK.new (El.of (k:=kI) (xv:=0) (cs:=[VI 0]) (fun W B=>rfl)) ?_
   refine TK.sel (Ls:=[Els kI [] [],El kI 0 [VI 0],Blk b130 [VI 0,VI 1,VI 2] 3,Blk b18 [.slice (some ⟨b17,0,none⟩) 4 4,VI 3,VI 5,VI 0,VI 0] 42,Blk b16 [.slice A13 y11.f0.length c14,VI y11.f1.f0,VI y11.f1.f1,VI y11.f1.f2,VI y11.f1.f3] 42]) [1,0,2,3,4] 5 rfl rfl rfl ?_
   refine TK.two (ch:=Els kI [0] [VI 0]) (Els.snoc kI) ?_
   refine TK.new (El.of (k:=kI) (xv:=1) (cs:=[VI 1]) (fun W B=>rfl)) ?_
   refine TK.sel (Ls:=[Els kI [0] [VI 0],El kI 1 [VI 1],Blk b130 [VI 0,VI 1,VI 2] 3,Blk b18 [.slice (some ⟨b17,0,none⟩) 4 4,VI 3,VI 5,VI 0,VI 0] 42,Blk b16 [.slice A13 y11.f0.length c14,VI y11.f1.f0,VI y11.f1.f1,VI y11.f1.f2,VI y11.f1.f3] 42]) [1,0,2,3,4] 5 rfl rfl rfl ?_
   refine TK.two (ch:=Els kI [0,1] [VI 0,VI 1]) (Els.snoc kI) ?_
   refine TK.new (El.of (k:=kI) (xv:=2) (cs:=[VI 2]) (fun W B=>rfl)) ?_
   refine TK.sel (Ls:=[Els kI [0,1] [VI 0,VI 1],El kI 2 [VI 2],Blk b130 [VI 0,VI 1,VI 2] 3,Blk b18 [.slice (some ⟨b17,0,none⟩) 4 4,VI 3,VI 5,VI 0,VI 0] 42,Blk b16 [.slice A13 y11.f0.length c14,VI y11.f1.f0,VI y11.f1.f1,VI y11.f1.f2,VI y11.f1.f3] 42]) [1,0,2,3,4] 5 rfl rfl rfl ?_
   refine TK.two (ch:=Els kI [0,1,2] [VI 0,VI 1,VI 2]) (Els.snoc kI) ?_
   refine TK.sel (Ls:=[Blk b130 [VI 0,VI 1,VI 2] 3,Els kI [0,1,2] [VI 0,VI 1,VI 2],Blk b18 [.slice (some ⟨b17,0,none⟩) 4 4,VI 3,VI 5,VI 0,VI 0] 42,Blk b16 [.slice A13 y11.f0.length c14,VI y11.f1.f0,VI y11.f1.f1,VI y11.f1.f2,VI y11.f1.f3] 42]) [1,0,2,3] 4 rfl rfl rfl ?_
   refine TK.two (ch:=Row kI 3 (.slice (some ⟨b130,0,none⟩) 3 3) ([0,1,2]:List Int)) (Row.lit kI rfl rfl) ?_
   refine TK.share (fun G132 e133 hs134 _=>?_)
   have rd135:Rd G132 kI (some ⟨b130,0,none⟩) ([0,1,2]:List Int):=Rd.row hs134
   have le136:([0,1,2]:List Int).length ≤ 3:=Row.le hs134
   obtain ⟨y137,hy138,h⟩:=bind_no h
   refine TL.cons (TL.callV (Lin:=[]) (args:=[.slice (some ⟨b130,0,none⟩) 3 3,VI 1,VI 2]) (Wt.yes rfl rfl rfl hk129) rfl rfl hbd43 rfl rfl (forward_Apart.calls (a0:=([0,1,2]:List Int)) (a1:=1) (a2:=2) rd135 le136 hy138) rfl ?_)
   rintro _ _ _ _ ⟨rfl,rfl,rfl⟩
   refine TV rfl rfl rfl (Val.pickY rfl hk129 rfl) ?_
   refine TV rfl rfl rfl (Val.move rfl) ?_
   refine TK.split (p:=y137=true) h (fun hg139 h=>?_) (fun hg139 h=>?_)
   ·
    have hk140:y137=true:=hg139
    refine TL.cons (TL.buildSlice (xs:=[.const (VI 0),.const (VI 1),.const (VI 0)]) (vs:=[VI 0,VI 1,VI 0]) (cs:=[VI 0,VI 1,VI 0]) (Wt.yes rfl rfl rfl hk140) rfl Try.underlying23 zs3 rfl rfl rfl rfl rfl rfl rfl rfl (fun b141=>?_))
    refine TK.new (Els.nil kI) ?_
    refine TK.new (El.of (k:=kI) (xv:=0) (cs:=[VI 0]) (fun W B=>rfl)) ?_
    refine TK.sel (Ls:=[Els kI [] [],El kI 0 [VI 0],Blk b141 [VI 0,VI 1,VI 0] 3,Blk b18 [.slice (some ⟨b17,0,none⟩) 4 4,VI 3,VI 5,VI 0,VI 0] 42,Blk b16 [.slice A13 y11.f0.length c14,VI y11.f1.f0,VI y11.f1.f1,VI y11.f1.f2,VI y11.f1.f3] 42]) [1,0,2,3,4] 5 rfl rfl rfl ?_
    refine TK.two (ch:=Els kI [0] [VI 0]) (Els.snoc kI) ?_
    refine TK.new (El.of (k:=kI) (xv:=1) (cs:=[VI 1]) (fun W B=>rfl)) ?_
    refine TK.sel (Ls:=[Els kI [0] [VI 0],El kI 1 [VI 1],Blk b141 [VI 0,VI 1,VI 0] 3,Blk b18 [.slice (some ⟨b17,0,none⟩) 4 4,VI 3,VI 5,VI 0,VI 0] 42,Blk b16 [.slice A13 y11.f0.length c14,VI y11.f1.f0,VI y11.f1.f1,VI y11.f1.f2,VI y11.f1.f3] 42]) [1,0,2,3,4] 5 rfl rfl rfl ?_
    refine TK.two (ch:=Els kI [0,1] [VI 0,VI 1]) (Els.snoc kI) ?_
    refine TK.new (El.of (k:=kI) (xv:=0) (cs:=[VI 0]) (fun W B=>rfl)) ?_
    refine TK.sel (Ls:=[Els kI [0,1] [VI 0,VI 1],El kI 0 [VI 0],Blk b141 [VI 0,VI 1,VI 0] 3,Blk b18 [.slice (some ⟨b17,0,none⟩) 4 4,VI 3,VI 5,VI 0,VI 0] 42,Blk b16 [.slice A13 y11.f0.length c14,VI y11.f1.f0,VI y11.f1.f1,VI y11.f1.f2,VI y11.f1.f3] 42]) [1,0,2,3,4] 5 rfl rfl rfl ?_
    refine TK.two (ch:=Els kI [0,1,0] [VI 0,VI 1,VI 0]) (Els.snoc kI) ?_
    refine TK.sel (Ls:=[Blk b141 [VI 0,VI 1,VI 0] 3,Els kI [0,1,0] [VI 0,VI 1,VI 0],Blk b18 [.slice (some ⟨b17,0,none⟩) 4 4,VI 3,VI 5,VI 0,VI 0] 42,Blk b16 [.slice A13 y11.f0.length c14,VI y11.f1.f0,VI y11.f1.f1,VI y11.f1.f2,VI y11.f1.f3] 42]) [1,0,2,3] 4 rfl rfl rfl ?_
    refine TK.two (ch:=Row kI 3 (.slice (some ⟨b141,0,none⟩) 3 3) ([0,1,0]:List Int)) (Row.lit kI rfl rfl) ?_
    refine TK.share (fun G143 e144 hs145 _=>?_)
    have rd146:Rd G143 kI (some ⟨b141,0,none⟩) ([0,1,0]:List Int):=Rd.row hs145
    have le147:([0,1,0]:List Int).length ≤ 3:=Row.le hs145
    obtain ⟨y148,hy149,h⟩:=bind_no h
    refine TL.cons (TL.callV (Lin:=[]) (args:=[.slice (some ⟨b141,0,none⟩) 3 3,VI 1,VI 2]) (Wt.yes rfl rfl rfl hk140) rfl rfl hbd43 rfl rfl (forward_Apart.calls (a0:=([0,1,0]:List Int)) (a1:=1) (a2:=2) rd146 le147 hy149) rfl ?_)
    rintro _ _ _ _ ⟨rfl,rfl,rfl⟩
    refine TV (Wt.yes rfl rfl rfl hk140) rfl rfl (Val.not_ rfl) ?_
    refine TV rfl rfl rfl (Val.pickY rfl hk140 rfl) ?_
    refine TV rfl rfl rfl (Val.assign rfl) ?_
    refine TL.nil ?_
    refine TQ.then_ ?_
    refine TC.ret ?_
    obtain rfl:=Option.some.inj h
    exact TQ.fin (.inl rfl) rfl Try.results20 (.tmp rfl .nil) rfl (FRel.mk (Ls:=[]) [] 2 (Gd.le.trans (Gd.le.trans (Gd.le.trans (Gd.le.trans (Gd.le.trans (Gd.le.trans (Gd.le.trans e7 e89) e95) e105) e111) e122) e133) e144) rfl rfl rfl ⟨rfl,rfl⟩)
   ·
    have hk150:y137=false:=(by simpa using hg139)
    refine TL.cons (TL.not (Wt.no rfl rfl rfl hk150) rfl ?_)
    refine TL.cons (TL.not (Wt.no rfl rfl rfl hk150) rfl ?_)
    refine TL.cons (TL.not (Wt.no rfl rfl rfl hk150) rfl ?_)
    refine TV rfl rfl rfl (Val.pickN rfl hk150 rfl) ?_
    refine TV rfl rfl rfl (Val.assign rfl) ?_
    refine TL.nil ?_
    refine TQ.then_ ?_
    refine TC.ret ?_
    obtain rfl:=Option.some.inj h
    exact TQ.fin (.inl rfl) rfl Try.results20 (.tmp rfl .nil) rfl (FRel.mk (Ls:=[]) [] 2 (Gd.le.trans (Gd.le.trans (Gd.le.trans (Gd.le.trans (Gd.le.trans (Gd.le.trans e7 e89) e95) e105) e111) e122) e133) rfl rfl rfl ⟨rfl,rfl⟩)
  ·
   have hk151:decide (y126=1)=false:=decide_eq_false hg128
   refine TL.cons (TL.not (Wt.no rfl rfl rfl hk151) rfl ?_)
   refine TL.cons (TL.not (Wt.no rfl rfl rfl hk151) rfl ?_)
   refine TV rfl rfl rfl (Val.pickN rfl hk151 rfl) ?_
   refine TV rfl rfl rfl (Val.move rfl) ?_
   refine TL.cons (TL.not (Wt.no rfl rfl rfl rfl) rfl ?_)
   refine TL.cons (TL.not (Wt.no rfl rfl rfl rfl) rfl ?_)
   refine TL.cons (TL.not (Wt.no rfl rfl rfl rfl) rfl ?_)
   refine TV rfl rfl rfl (Val.pickN rfl rfl rfl) ?_
   refine TV rfl rfl rfl (Val.assign rfl) ?_
   refine TL.nil ?_
   refine TQ.then_ ?_
   refine TC.ret ?_
   obtain rfl:=Option.some.inj h
   exact TQ.fin (.inl rfl) rfl Try.results20 (.tmp rfl .nil) rfl (FRel.mk (Ls:=[]) [] 2 (Gd.le.trans (Gd.le.trans (Gd.le.trans (Gd.le.trans (Gd.le.trans e7 e89) e95) e105) e111) e122) rfl rfl rfl ⟨rfl,rfl⟩)
 ·
  have hk152:y115=false:=(by simpa using hg117)
  refine TL.cons (TL.not (Wt.no rfl rfl rfl hk152) rfl ?_)
  refine TL.cons (TL.not (Wt.no rfl rfl rfl hk152) rfl ?_)
  refine TL.cons (TL.not (Wt.no rfl rfl rfl hk152) rfl ?_)
  refine TL.cons (TL.not (Wt.no rfl rfl rfl hk152) rfl ?_)
  refine TL.cons (TL.not (Wt.no rfl rfl rfl hk152) rfl ?_)
  refine TV rfl rfl rfl (Val.pickN rfl hk152 rfl) ?_
  refine TV rfl rfl rfl (Val.move rfl) ?_
  refine TL.cons (TL.not (Wt.no rfl rfl rfl rfl) rfl ?_)
  refine TL.cons (TL.not (Wt.no rfl rfl rfl rfl) rfl ?_)
  refine TV rfl rfl rfl (Val.pickN rfl rfl rfl) ?_
  refine TV rfl rfl rfl (Val.move rfl) ?_
  refine TL.cons (TL.not (Wt.no rfl rfl rfl rfl) rfl ?_)
  refine TL.cons (TL.not (Wt.no rfl rfl rfl rfl) rfl ?_)
  refine TL.cons (TL.not (Wt.no rfl rfl rfl rfl) rfl ?_)
  refine TV rfl rfl rfl (Val.pickN rfl rfl rfl) ?_
  refine TV rfl rfl rfl (Val.assign rfl) ?_
  refine TL.nil ?_
  refine TQ.then_ ?_
  refine TC.ret ?_
  obtain rfl:=Option.some.inj h
  exact TQ.fin (.inl rfl) rfl Try.results20 (.tmp rfl .nil) rfl (FRel.mk (Ls:=[]) [] 2 (Gd.le.trans (Gd.le.trans (Gd.le.trans (Gd.le.trans e7 e89) e95) e105) e111) rfl rfl rfl ⟨rfl,rfl⟩)
def slices_Clone_api_Block_api_Block.f (a0:(List S42)):Option (List S42):=(if ([]:List S42).length + a0.length ≤ 2513169434916 then some (([]:List S42) ++ a0) else none)
def slices_Clone_api_Block_api_Block.post (G:Gd)  (r:(List S42)) (v:Value) (G':Gd) (Lr:List Ch):Prop:=G=G'∧∃ (A_1:Option Addr) (c_1:Nat),v=.slice A_1 r.length c_1∧Lr=[Row (Sh G k42) 42 (.slice A_1 r.length c_1) r]
theorem slices_Clone_api_Block_api_Block.calls {G:Gd} {r:(List S42)} {a0:(List S42)} {A1:Option Addr} {c2:Nat} (hr3:Rd G k42 A1 a0) (hl4:a0.length ≤ c2) (h:slices_Clone_api_Block_api_Block.f a0=some r):Fn Try.prog 44 G [] [.slice A1 a0.length c2] (slices_Clone_api_Block_api_Block.post G  r):=by
 refine Fn.intro (e:=[(0,.slice A1 a0.length c2)]) 8 Try.func44 rfl Try.ntmps44 rfl rfl (Nat.le_of_ble_eq_true rfl) (fun L=>?_)
 unfold slices_Clone_api_Block_api_Block.f at h
 refine TC.seq ?_
 refine TC.region ?_
 refine TV rfl rfl rfl (Val.assign rfl) ?_
 refine TL.nil ?_
 refine TQ.then_ ?_
 refine TC.seq ?_
 refine TC.seq ?_
 refine TC.region ?_
 refine TV rfl rfl rfl (Val.move rfl) ?_
 refine TV rfl rfl rfl (Val.eqNil Try.underlying43 rfl) ?_
 refine TL.nil ?_
 refine TQ.then_ ?_
 refine TC.cond rfl (fun hc6=>?_) (fun hc6=>?_)
 ·
  have hn:=Rd.nilEq hr3 hc6
  have h:some ([]:List S42)=some r:=by first | (simpa [hn] using h) | (simp [hn] at h; simp [h,hn])
  refine TC.seq ?_
  refine TC.region ?_
  refine TV rfl rfl rfl (Val.assign rfl) ?_
  refine TL.nil ?_
  refine TQ.then_ ?_
  refine TC.ret ?_
  refine TQ.thenR ?_
  refine TQ.nilRow (Sh G k42) 42 ?_
  obtain rfl:=Option.some.inj h
  exact TQ.fin (.inl rfl) rfl Try.results44 (.tmp rfl .nil) rfl (FRel.mk (Ls:=[Row (Sh G k42) 42 (.slice none 0 0) ([]:List S42)]) [0] 1 (Gd.le.refl _) rfl rfl rfl ⟨rfl,none,0,rfl,rfl⟩)
 ·
  refine TC.skip ?_
  refine TQ.then_ ?_
  refine TC.seq ?_
  refine TC.region ?_
  refine TL.cons (TL.buildSlice0 k42 rfl rfl Try.underlying43 zs42 (fun b8=>?_))
  refine TV rfl rfl rfl (Val.move rfl) ?_
  refine TK.conv (ch':=Row (Sh G k42) 42 (.slice (some ⟨b8,0,none⟩) 0 0) ([]:List S42)) (fun B W F hh=>Row.empty k42 (Sh G k42) rfl B W F hh) ?_
  obtain ⟨ha10,h⟩:=ite_no h
  refine TL.cons (TL.appendR (xs:=([]:List S42)) (ys:=a0) (Sh G k42) (Sh G k42) rfl rfl Try.underlying43 inf42 rfl (Nat.le_of_ble_eq_true rfl) (Nat.le_of_ble_eq_true rfl) rfl rfl (by omega) (Rd.sh hr3) rfl (fun _ _ _ _ _ h=>h) (fun A11 c12=>?_))
  refine TV rfl rfl rfl (Val.assign rfl) ?_
  refine TL.nil ?_
  refine TQ.then_ ?_
  refine TC.ret ?_
  obtain rfl:=Option.some.inj h
  exact TQ.fin (.inl rfl) rfl Try.results44 (.tmp rfl .nil) rfl (FRel.mk (Ls:=[Row (Sh G k42) 42 (.slice A11 (([]:List S42) ++ a0).length c12) (([]:List S42) ++ a0)]) [0] 1 (Gd.le.refl _) rfl rfl rfl ⟨rfl,A11,c12,rfl,rfl⟩)
def forward_Func.l0 (a1:(List Int)) (y11:(List S42)):Nat → (List S42) → Int → Option ((List S42))
 | 0,_,_=>none
 | n542 + 1,l439,x444=>(if x444 < (y11.length:Int) then (at? l439 x444).bind fun y689=>(forward_Block.f y689 a1).bind fun (y715:S42)=>(at? l439 x444).bind fun y720=>forward_Func.l0 a1 y11 n542 (l439.set x444.toNat y715) (IntKind.i64.wrap (x444 + 1)) else some l439)
def forward_Func.f (a0:S45) (a1:(List Int)):Option S45:=(slices_Clone_api_Block_api_Block.f a0.f1).bind fun (y11:(List S42))=>(forward_Func.l0 a1 y11 (y11.length + 1) y11 0).bind fun (l537:(List S42))=>some (⟨a0.f0,l537⟩:S45)
def forward_Func.post (G:Gd)  (r:S45) (v:Value) (G':Gd) (Lr:List Ch):Prop:=G=G'∧∃ (A_1:Option Addr) (c_1:Nat),v=.agg #[VI r.f0,.slice A_1 r.f1.length c_1]∧Lr=[Row k42 42 (.slice A_1 r.f1.length c_1) r.f1]
theorem forward_Func.calls {G:Gd} {r:S45} {a0:S45} {a1:(List Int)} {A1:Option Addr} {c2:Nat} {A5:Option Addr} {c6:Nat} (hr3:Rd G k42 A1 a0.f1) (hl4:a0.f1.length ≤ c2) (hr7:Rd G kI A5 a1) (hl8:a1.length ≤ c6) (h:forward_Func.f a0 a1=some r):Fn Try.prog 21 G [] [.agg #[VI a0.f0,.slice A1 a0.f1.length c2],.slice A5 a1.length c6] (forward_Func.post G  r):=by
 refine Fn.intro (e:=[(0,.agg #[VI a0.f0,.slice A1 a0.f1.length c2]),(1,.slice A5 a1.length c6)]) 28 Try.func21 rfl Try.ntmps21 rfl rfl (Nat.le_of_ble_eq_true rfl) (fun L=>?_)
 unfold forward_Func.f at h
 refine TC.seq ?_
 refine TC.region ?_
 refine TL.cons (TL.box (cs:=[VI a0.f0,.slice A1 a0.f1.length c2]) rfl rfl rfl rfl (fun b9=>?_))
 refine TL.cons (TL.alloc (cs:=[VI 0,.slice none 0 0]) rfl rfl zr45 rfl (fun b10=>?_))
 refine TL.nil ?_
 refine TQ.then_ ?_
 refine TC.seq ?_
 refine TC.region ?_
 refine TV rfl rfl rfl (Val.fieldAddrB Try.underlying45 rfl fsz43 rfl rfl rfl) ?_
 refine TV rfl rfl rfl (Val.loadB 1 agg43 rfl rfl rfl) ?_
 obtain ⟨y11,hy12,h⟩:=bind_no h
 refine TL.cons (TL.callV (Lin:=[]) (args:=[.slice A1 a0.f1.length c2]) rfl rfl rfl hbd44 rfl rfl (slices_Clone_api_Block_api_Block.calls (a0:=a0.f1) hr3 hl4 hy12) rfl ?_)
 rintro _ _ _ _ ⟨rfl,A13,c14,rfl,rfl⟩
 refine TV rfl rfl rfl (Val.fieldAddrB Try.underlying45 rfl fsz43 rfl rfl rfl) ?_
 refine TL.cons (TL.store 2 (ds:=[.slice A13 y11.length c14]) (cs':=[VI a0.f0,.slice A13 y11.length c14]) (L':=(Row (Sh G k42) 42 (.slice A13 y11.length c14) y11::Blk b10 [VI 0,.slice none 0 0] 45::Blk b9 [VI a0.f0,.slice A13 y11.length c14] 45::L)) rfl fsz43 rfl rfl rfl rfl rfl (Nat.le_of_ble_eq_true rfl) rfl rfl ?_)
 refine TL.nil ?_
 refine TQ.then_ ?_
 refine TC.seq ?_
 refine TC.seq ?_
 refine TC.region ?_
 refine TV rfl rfl rfl (Val.fieldAddrB Try.underlying45 rfl fsz43 rfl rfl rfl) ?_
 refine TV rfl rfl rfl (Val.loadB 2 agg43 rfl rfl rfl) ?_
 refine TV rfl rfl rfl (Val.len Try.underlying43 rfl) ?_
 refine TV rfl rfl rfl (Val.move rfl) ?_
 refine TL.nil ?_
 refine TQ.then_ ?_
 refine TC.conv (ch':=Row (Tg G k42) 42 (.slice A13 y11.length c14) (mixl 0 y11)) (fun B W F hh=>Row.mix0 B W F hh) ?_
 obtain ⟨o541,ho541,ko541⟩:=bind_no h
 clear h
 refine TC.tail (fun a W=>∃ (l537:(List S42)) (A538:Option Addr) (c539:Nat),l537=o541∧Fr 28 a [(2,VP b9 0),(4,VP b10 0)]∧Own G (Blk b10 [VI 0,.slice none 0 0] 45::Blk b9 [VI a0.f0,.slice A538 l537.length c539] 45::Row k42 42 (.slice A538 l537.length c539) l537::L) W) ?_ ?_
 ·
  rintro a W ⟨l537,A538,c539,rfl,hF,hO⟩
  have h:=ko541
  clear ko541 ho541
  refine TQ.use ?_ hF hO
  clear hF hO
  refine TQ.then_ ?_
  refine TC.seq ?_
  refine TC.region ?_
  refine TV rfl rfl rfl (Val.loadsB 1 (cs:=[VI a0.f0,.slice A538 l537.length c539]) agg45 fsz45 rfl rfl rfl rfl) ?_
  refine TL.cons (TL.store 0 (ds:=[VI a0.f0,.slice A538 l537.length c539]) (cs':=[VI a0.f0,.slice A538 l537.length c539]) (L':=(Blk b10 [VI a0.f0,.slice A538 l537.length c539] 45::Blk b9 [VI a0.f0,.slice A538 l537.length c539] 45::Row k42 42 (.slice A538 l537.length c539) l537::L)) rfl fsz45 rfl rfl rfl rfl rfl (Nat.le_of_ble_eq_true rfl) rfl rfl ?_)
  refine TL.nil ?_
  refine TQ.then_ ?_
  refine TC.ret ?_
  obtain rfl:=Option.some.inj h
  exact TQ.fin (.inl rfl) rfl Try.results21 (.cells 0 rfl rfl agg45 fsz45 .nil) rfl (FRel.mk (Ls:=[Row k42 42 (.slice A538 l537.length c539) l537]) [2] 3 (Gd.le.refl _) rfl rfl rfl ⟨rfl,A538,c539,rfl,rfl⟩)
 ·
  refine TC.block ?_
  intro a W hF hO
  have hS:∃ (l439:(List S42)) (x444:Int) (A440:Option Addr) (c441:Nat),forward_Func.l0 a1 y11 (y11.length + 1) l439 x444=some o541∧l439.length=y11.length∧Fr 28 a [(1,.slice A5 a1.length c6),(2,VP b9 0),(4,VP b10 0),(12,.slice A440 l439.length c441),(13,VI (y11.length:Int)),(14,VI x444)]∧Own G (Blk b10 [VI 0,.slice none 0 0] 45::Blk b9 [VI a0.f0,.slice A440 l439.length c441] 45::Row (Tg G k42) 42 (.slice A440 l439.length c441) (mixl x444 l439)::L) W:=by
   exact ⟨y11,0,A13,c14,ho541,(by first | rfl | assumption | omega | (simp only [List.length_set]; first | rfl | assumption | omega)),hF.sub ⟨rfl,rfl,rfl,rfl,rfl,rfl,trivial⟩,hO.selT (Ls:=[Blk b10 [VI 0,.slice none 0 0] 45,Blk b9 [VI a0.f0,.slice A13 y11.length c14] 45,Row (Tg G k42) 42 (.slice A13 y11.length c14) (mixl 0 y11)]) [1,2,0] 3 rfl rfl rfl⟩
  clear hF hO ho541 ko541
  refine TC.loop (fun n542 a W=>∃ (l439:(List S42)) (x444:Int) (A440:Option Addr) (c441:Nat),forward_Func.l0 a1 y11 n542 l439 x444=some o541∧l439.length=y11.length∧Fr 28 a [(1,.slice A5 a1.length c6),(2,VP b9 0),(4,VP b10 0),(12,.slice A440 l439.length c441),(13,VI (y11.length:Int)),(14,VI x444)]∧Own G (Blk b10 [VI 0,.slice none 0 0] 45::Blk b9 [VI a0.f0,.slice A440 l439.length c441] 45::Row (Tg G k42) 42 (.slice A440 l439.length c441) (mixl x444 l439)::L) W) ?_ ?_ hS
  ·
   rintro a W ⟨l439,x444,A440,c441,h,hl443,hF,hO⟩
   exact none_no h
  ·
   clear hS
   rintro n542 a W ⟨l439,x444,A440,c441,h,hl443,hF,hO⟩
   rw [forward_Func.l0] at h
   refine TC.use ?_ hF hO
   clear hF hO
   refine TC.seq ?_
   refine TC.region ?_
   refine TV rfl rfl rfl (Val.cmp rfl rfl run_lss) ?_
   refine TL.nil ?_
   refine TQ.then_ ?_
   refine TC.seq ?_
   refine TC.cond_p rfl h (fun hc636 h=>?_) (fun hc636 h=>?_)
   ·
    refine TC.skip ?_
    refine TQ.then_ ?_
    refine TC.seq ?_
    refine TC.block ?_
    refine TC.seq ?_
    refine TC.region ?_
    refine TV rfl rfl rfl (Val.move rfl) ?_
    refine TK.sel (Ls:=[Row (Tg G k42) 42 (.slice A440 l439.length c441) (mixl x444 l439),Blk b10 [VI 0,.slice none 0 0] 45,Blk b9 [VI a0.f0,.slice A440 l439.length c441] 45]) [2,0,1] 3 rfl rfl rfl ?_
    refine TK.share (fun G682 e683 hs684 hb685=>?_)
    have rd686:Rd G682 k42 A440 l439:=Rd.mixed (Rd.row hs684) e683
    have le687:l439.length ≤ c441:=(by have h_:=Row.le hs684; rwa [mixl_length] at h_)
    have rd688:=Rd.row hs684
    obtain ⟨y689,hx690,h⟩:=bind_no h
    obtain ⟨ad691,cs697,hA692,hi693,hj694,hcl695,hK696⟩:=Rd.at rd688 (at_mixl hx690)
    have hK696:=Tg.shK (hK696 _ (Gd.self _))
    rw [mixl_length] at hj694
    obtain ⟨A698,c699,rfl,hr700,hl701⟩:=k42_openR hK696
    refine TV rfl rfl rfl (Val.indexAddr Try.underlying43 fsz42 rfl hA692 rfl hi693 hj694) ?_
    refine TV rfl rfl rfl (Val.loadsS (cs:=[.slice A698 y689.f0.length c699,VI y689.f1.f0,VI y689.f1.f1,VI y689.f1.f2,VI y689.f1.f3]) agg42 fsz42 rfl rfl (Cl.sub (off:=0) (n:=5) hcl695 rfl)) ?_
    refine TL.cons (TL.alloc (cs:=[.slice none 0 0,VI 0,VI 0,VI 0,VI 0]) rfl rfl zr42 rfl (fun b702=>?_))
    refine TV rfl rfl rfl (Val.assign rfl) ?_
    refine TL.cons (TL.store 0 (ds:=[.slice A698 y689.f0.length c699,VI y689.f1.f0,VI y689.f1.f1,VI y689.f1.f2,VI y689.f1.f3]) (cs':=[.slice A698 y689.f0.length c699,VI y689.f1.f0,VI y689.f1.f1,VI y689.f1.f2,VI y689.f1.f3]) (L':=(Blk b702 [.slice A698 y689.f0.length c699,VI y689.f1.f0,VI y689.f1.f1,VI y689.f1.f2,VI y689.f1.f3] 42::Blk b10 [VI 0,.slice none 0 0] 45::Blk b9 [VI a0.f0,.slice A440 l439.length c441] 45::L)) rfl fsz42 rfl rfl rfl rfl rfl (Nat.le_of_ble_eq_true rfl) rfl rfl ?_)
    refine TL.nil ?_
    refine TQ.then_ ?_
    refine TC.regionAny [7] [0,1,2,3,4,6] mixed (by kernel_rfl) ?_
    refine TA.take 0 rfl (by kernel_rfl) rfl (PQ.inB (PQ.then_ (PQ.then_ (PQ.inB (PQ.then_ (PQ.then_ PQ.body)))))) rfl (Val.fieldAddrB Try.underlying45 rfl fsz43 rfl rfl rfl) (fun W hO=>hO) ?_
    refine TA.take 1 rfl (by kernel_rfl) rfl (PQ.inB (PQ.then_ (PQ.then_ (PQ.inB (PQ.then_ (PQ.then_ PQ.body)))))) rfl (Val.loadB 2 agg43 rfl rfl rfl) (fun W hO=>hO) ?_
    refine TA.take 2 rfl (by kernel_rfl) rfl (PQ.inB (PQ.then_ (PQ.then_ (PQ.inB (PQ.then_ (PQ.then_ PQ.body)))))) rfl (Val.move rfl) (fun W hO=>hO) ?_
    refine TA.take 3 rfl (by kernel_rfl) rfl (PQ.inB (PQ.then_ (PQ.then_ (PQ.inB (PQ.then_ (PQ.then_ PQ.body)))))) rfl (Val.loadsB 0 (cs:=[.slice A698 y689.f0.length c699,VI y689.f1.f0,VI y689.f1.f1,VI y689.f1.f2,VI y689.f1.f3]) agg42 fsz42 rfl rfl rfl rfl) (fun W hO=>hO) ?_
    refine TA.take 4 rfl (by kernel_rfl) rfl (PQ.inB (PQ.then_ (PQ.then_ (PQ.inB (PQ.then_ (PQ.then_ PQ.body)))))) rfl (Val.move rfl) (fun W hO=>hO) ?_
    obtain ⟨y715,hy716,h⟩:=bind_no h
    refine TA.eff 5 rfl (by kernel_rfl) rfl (TL.callV (Lin:=[]) (args:=[.agg #[.slice A698 y689.f0.length c699,VI y689.f1.f0,VI y689.f1.f1,VI y689.f1.f2,VI y689.f1.f3],.slice A5 a1.length c6]) rfl rfl rfl hbd39 rfl rfl (forward_Block.calls (a0:=y689) (a1:=a1) (hr700.up e683) hl701 (hr7.up e683) hl8 hy716) rfl ?_)
    rintro _ _ _ _ ⟨rfl,A717,c718,rfl,rfl⟩
    refine TA.next (fun W hO=>hO.selT (Ls:=[Blk b702 [.slice A698 y689.f0.length c699,VI y689.f1.f0,VI y689.f1.f1,VI y689.f1.f2,VI y689.f1.f3] 42,Blk b10 [VI 0,.slice none 0 0] 45,Blk b9 [VI a0.f0,.slice A440 l439.length c441] 45]) [1,2,3] 4 rfl rfl rfl) ?_
    obtain ⟨y720,hy721,h⟩:=bind_no h
    obtain ⟨b722,hA723,hi724,hj725⟩:=Row.openedS hs684 (at_mixl hy721)
    refine TA.take 6 rfl (by kernel_rfl) rfl (PQ.inB (PQ.then_ (PQ.then_ (PQ.inB (PQ.then_ (PQ.then_ PQ.body)))))) rfl (Val.indexAddrW Try.underlying43 fsz42 rfl hA723 rfl hi724 hj725) (fun W hO=>hO.selT (Ls:=[Blk b702 [.slice A698 y689.f0.length c699,VI y689.f1.f0,VI y689.f1.f1,VI y689.f1.f2,VI y689.f1.f3] 42,Blk b10 [VI 0,.slice none 0 0] 45,Blk b9 [VI a0.f0,.slice A440 l439.length c441] 45]) [1,2,3] 4 rfl rfl rfl) ?_
    refine TK.back hb685 ?_
    refine TK.sel (Ls:=[Row k37 37 (.slice A717 y715.f0.length c718) y715.f0,Row (Tg G k42) 42 (.slice A440 l439.length c441) (mixl x444 l439),Blk b702 [.slice A698 y689.f0.length c699,VI y689.f1.f0,VI y689.f1.f1,VI y689.f1.f2,VI y689.f1.f3] 42,Blk b10 [VI 0,.slice none 0 0] 45,Blk b9 [VI a0.f0,.slice A440 l439.length c441] 45]) [1,0,2,3,4] 5 rfl rfl rfl ?_
    refine TK.conv (ch':=El k42 y715 [.slice A717 y715.f0.length c718,VI y715.f1.f0,VI y715.f1.f1,VI y715.f1.f2,VI y715.f1.f3]) (fun B W F hh=>k42_mkM W B F y715 hh) ?_
    refine TK.sel (Ls:=[Row (Tg G k42) 42 (.slice A440 l439.length c441) (mixl x444 l439),El k42 y715 [.slice A717 y715.f0.length c718,VI y715.f1.f0,VI y715.f1.f1,VI y715.f1.f2,VI y715.f1.f3],Blk b702 [.slice A698 y689.f0.length c699,VI y689.f1.f0,VI y689.f1.f1,VI y689.f1.f2,VI y689.f1.f3] 42,Blk b10 [VI 0,.slice none 0 0] 45,Blk b9 [VI a0.f0,.slice A440 l439.length c441] 45]) [1,0,2,3,4] 5 rfl rfl rfl ?_
    refine TA.eff 7 rfl (by kernel_rfl) rfl (TL.storeE (Tg G k42) (xs:=(mixl x444 l439)) (xv:=(y715,true)) (ds:=[.slice A717 y715.f0.length c718,VI y715.f1.f0,VI y715.f1.f1,VI y715.f1.f2,VI y715.f1.f3]) rfl fsz42 hA723 (at_mixl hy721) rfl rfl rfl rfl (Nat.le_of_ble_eq_true rfl) (wholeMT rfl) ?_)
    refine TA.last rfl ?_
    refine TK.conv (ch':=Row (Tg G k42) 42 (.slice A440 l439.length c441) (mixl (IntKind.i64.wrap (x444 + 1)) (l439.set x444.toNat y715))) (fun B W F hh=>Row.mixset hy721 hh) ?_
    rw [show (l439.length:Nat)=(l439.set x444.toNat y715).length from by simp only [List.length_set]]
    refine TA.done (by kernel_rfl) ?_
    refine TQ.inB ?_
    refine TQ.then_ ?_
    refine TC.region ?_
    refine TV rfl rfl rfl (Val.cmp rfl rfl run_add) ?_
    refine TV rfl rfl rfl (Val.move rfl) ?_
    refine TL.nil ?_
    exact fun a W hF hO=>⟨(l439.set x444.toNat y715),IntKind.i64.wrap (x444 + 1),A440,c441,h,(by first | rfl | assumption | omega | (simp only [List.length_set]; first | rfl | assumption | omega)),hF.sub ⟨rfl,rfl,rfl,rfl,rfl,rfl,trivial⟩,hO.selT (Ls:=[Blk b10 [VI 0,.slice none 0 0] 45,Blk b9 [VI a0.f0,.slice A440 (l439.set x444.toNat y715).length c441] 45,Row (Tg G k42) 42 (.slice A440 (l439.set x444.toNat y715).length c441) (mixl (IntKind.i64.wrap (x444 + 1)) (l439.set x444.toNat y715))]) [2,3,0] 4 rfl rfl rfl⟩
   ·
    refine TC.sel (Ls:=[Row (Tg G k42) 42 (.slice A440 l439.length c441) (mixl x444 l439),Blk b10 [VI 0,.slice none 0 0] 45,Blk b9 [VI a0.f0,.slice A440 l439.length c441] 45]) [2,0,1] 3 rfl rfl rfl ?_
    refine TC.conv (ch':=Row k42 42 (.slice A440 l439.length c441) l439) (fun B W F hh=>Row.mix1 (by omega) B W F hh) ?_
    refine TC.exit ?_
    refine TQ.thenX ?_
    refine TQ.thenX ?_
    refine TQ.inBX ?_
    exact fun a W hF hO=>⟨l439,A440,c441,Option.some.inj h,hF.sub ⟨rfl,rfl,trivial⟩,hO.selT (Ls:=[Blk b10 [VI 0,.slice none 0 0] 45,Blk b9 [VI a0.f0,.slice A440 l439.length c441] 45,Row k42 42 (.slice A440 l439.length c441) l439]) [1,2,0] 3 rfl rfl rfl⟩
def swagelaw22_ForwardRuns.l0 (a0:(List S45)):Nat → (List S45) → Int → Option ((List S45))
 | 0,_,_=>none
 | n199 + 1,l141,x145=>(if x145 < (a0.length:Int) then (at? a0 x145).bind fun y348=>(forward_Func.f y348 ([]:List Int)).bind fun (y361:S45)=>(if l141.length < 4398046511104 then swagelaw22_ForwardRuns.l0 a0 n199 (l141 ++ [y361]) (IntKind.i64.wrap (x145 + 1)) else none) else some l141)
def swagelaw22_ForwardRuns.f (a0:(List S45)) (a1:Int) (a2:(List Int)) (a3:Int):Option Bool:=(swagelaw22_small.f).bind fun (y9:Bool)=>(swagelaw15_Few.f a0).bind fun (y13:Bool)=>jn (γ:=Bool) (fun (x32:Bool)=>(if x32=true then some y9 else (swagelaw22_ForwardRuns.l0 a0 (a0.length + 1) [] 0).bind fun (l194:(List S45))=>(trace_Run.f a0 a1 a2 a3).bind fun (y246:(S28 × Int))=>(trace_Run.f l194 a1 a2 a3).bind fun (y258:(S28 × Int))=>(if (!decide (y246.2=0))=true then some y9 else (if y9=true then (if y258.2=0 then (trace_Same.f y246.1 y258.1).bind fun (y311:Bool)=>(if y311=true then (if y258.1.f2 ≤ y246.1.f2 then (if y246.1.f3=y258.1.f3 then some (decide (y246.1.f4=y258.1.f4)) else some false) else some false) else some false) else some false) else some false)))) (fun (j33:(Bool → Option Bool))=>(if (!y13)=true then j33 true else (if a1 < 1 then j33 true else (if 4096 < a1 then j33 true else (if 60 < (a2.length:Int) then j33 true else (if a3 < 0 then j33 true else j33 (decide (2000 < a3))))))))
def swagelaw22_ForwardRuns.post (G:Gd)  (r:Bool) (v:Value) (G':Gd) (Lr:List Ch):Prop:=v=.bool r∧Lr=[]
theorem swagelaw22_ForwardRuns.calls {G:Gd} {r:Bool} {a0:(List S45)} {a1:Int} {a2:(List Int)} {a3:Int} {A1:Option Addr} {c2:Nat} {A5:Option Addr} {c6:Nat} (hr3:Rd G k45 A1 a0) (hl4:a0.length ≤ c2) (hr7:Rd G kI A5 a2) (hl8:a2.length ≤ c6) (h:swagelaw22_ForwardRuns.f a0 a1 a2 a3=some r):Fn Try.prog 7 G [] [.slice A1 a0.length c2,VI a1,.slice A5 a2.length c6,VI a3] (swagelaw22_ForwardRuns.post G  r):=by
 refine Fn.intro (e:=[(0,.slice A1 a0.length c2),(1,VI a1),(2,.slice A5 a2.length c6),(3,VI a3)]) 108 Try.func7 rfl Try.ntmps7 rfl rfl (Nat.le_of_ble_eq_true rfl) (fun L=>?_)
 unfold swagelaw22_ForwardRuns.f at h
 refine TC.seq ?_
 refine TC.region ?_
 refine TV rfl rfl rfl (Val.assign rfl) ?_
 refine TL.nil ?_
 refine TQ.then_ ?_
 refine TC.seq ?_
 refine TC.region ?_
 obtain ⟨y9,hy10,h⟩:=bind_no h
 refine TL.cons (TL.callV (Lin:=[]) (args:=[]) rfl rfl rfl hbd20 rfl rfl (swagelaw22_small.calls hy10) rfl ?_)
 rintro _ G11 _ e12 ⟨rfl,rfl⟩
 refine TV rfl rfl rfl (Val.assign rfl) ?_
 refine TL.nil ?_
 refine TQ.then_ ?_
 refine TC.seq ?_
 refine TC.region ?_
 refine TV rfl rfl rfl (Val.move rfl) ?_
 obtain ⟨y13,hy14,h⟩:=bind_no h
 refine TL.cons (TL.callV (Lin:=[]) (args:=[.slice A1 a0.length c2]) rfl rfl rfl hbd10 rfl rfl (swagelaw15_Few.calls (a0:=a0) (hr3.up e12) hl4 hy14) rfl ?_)
 rintro _ _ _ _ ⟨rfl,rfl,rfl⟩
 refine TV rfl rfl rfl (Val.assign rfl) ?_
 refine TL.nil ?_
 refine TQ.then_ ?_
 refine TC.seq ?_
 refine TC.seq ?_
 obtain ⟨j33,hj33,h⟩:=jn_no h
 refine TC.tail (fun a W=>∃ (x32:Bool) (G30:Gd),j33 x32=some r∧G.le G30∧Fr 108 a [(0,.slice A1 a0.length c2),(1,VI a1),(2,.slice A5 a2.length c6),(3,VI a3),(9,.bool y9),(42,.bool x32)]∧Own G30 (L) W) ?_ ?_
 ·
  rintro a W ⟨x32,G30,h,e31,hF,hO⟩
  rw [hj33] at h
  refine TQ.use ?_ hF hO
  clear hF hO
  refine TQ.then_ ?_
  refine TC.cond_b rfl h (fun hc35 h=>?_) (fun hc35 h=>?_)
  ·
   refine TC.seq ?_
   refine TC.region ?_
   refine TV rfl rfl rfl (Val.move rfl) ?_
   refine TV rfl rfl rfl (Val.assign rfl) ?_
   refine TL.nil ?_
   refine TQ.then_ ?_
   refine TC.ret ?_
   refine TQ.thenR ?_
   obtain rfl:=Option.some.inj h
   exact TQ.fin (.inl rfl) rfl Try.results7 (.tmp rfl .nil) rfl (FRel.mk (Ls:=[]) [] 0 e31 rfl rfl rfl ⟨rfl,rfl⟩)
  ·
   refine TC.skip ?_
   refine TQ.then_ ?_
   refine TC.seq ?_
   refine TC.region ?_
   refine TV rfl rfl rfl (Val.assign rfl) ?_
   refine TL.nil ?_
   refine TQ.then_ ?_
   refine TC.seq ?_
   refine TC.seq ?_
   refine TC.region ?_
   refine TV rfl rfl rfl (Val.assign rfl) ?_
   refine TL.nil ?_
   refine TQ.then_ ?_
   obtain ⟨o198,ho198,ko198⟩:=bind_no h
   clear h
   refine TC.tail (fun a W=>∃ (l194:(List S45)) (G192:Gd) (A195:Option Addr) (c196:Nat),l194=o198∧G.le G192∧Fr 108 a [(0,.slice A1 a0.length c2),(1,VI a1),(2,.slice A5 a2.length c6),(3,VI a3),(9,.bool y9),(11,.slice A195 l194.length c196)]∧Own G192 (Row k45 45 (.slice A195 l194.length c196) l194::L) W) ?_ ?_
   ·
    rintro a W ⟨l194,G192,A195,c196,rfl,e193,hF,hO⟩
    have h:=ko198
    clear ko198 ho198
    refine TQ.use ?_ hF hO
    clear hF hO
    refine TQ.then_ ?_
    refine TC.seq ?_
    refine TC.region ?_
    refine TV rfl rfl rfl (Val.move rfl) ?_
    refine TV rfl rfl rfl (Val.move rfl) ?_
    refine TV rfl rfl rfl (Val.move rfl) ?_
    refine TV rfl rfl rfl (Val.move rfl) ?_
    obtain ⟨y246,hy247,h⟩:=bind_no h
    refine TL.cons (TL.callV (Lin:=[]) (args:=[.slice A1 a0.length c2,VI a1,.slice A5 a2.length c6,VI a3]) rfl rfl rfl hbd11 rfl rfl (trace_Run.calls (a0:=a0) (a1:=a1) (a2:=a2) (a3:=a3) (hr3.up e193) hl4 (hr7.up e193) hl8 hy247) rfl ?_)
    rintro _ _ _ _ ⟨rfl,A248,c249,rfl,rfl⟩
    refine TV rfl rfl rfl (Val.move rfl) ?_
    refine TV rfl rfl rfl (Val.extract rfl rfl) ?_
    refine TV rfl rfl rfl (Val.extract rfl rfl) ?_
    refine TL.cons (TL.alloc (cs:=[.slice none 0 0,VI 0,VI 0,VI 0,VI 0]) rfl rfl zr28 rfl (fun b251=>?_))
    refine TL.cons (TL.store 0 (ds:=[.slice A248 y246.1.f0.length c249,VI y246.1.f1,VI y246.1.f2,VI y246.1.f3,VI y246.1.f4]) (cs':=[.slice A248 y246.1.f0.length c249,VI y246.1.f1,VI y246.1.f2,VI y246.1.f3,VI y246.1.f4]) (L':=(Blk b251 [.slice A248 y246.1.f0.length c249,VI y246.1.f1,VI y246.1.f2,VI y246.1.f3,VI y246.1.f4] 28::Row kI 3 (.slice A248 y246.1.f0.length c249) y246.1.f0::Row k45 45 (.slice A195 l194.length c196) l194::L)) rfl fsz28 rfl rfl rfl rfl rfl (Nat.le_of_ble_eq_true rfl) rfl rfl ?_)
    refine TV rfl rfl rfl (Val.assign rfl) ?_
    refine TL.nil ?_
    refine TQ.then_ ?_
    refine TC.seq ?_
    refine TC.region ?_
    refine TV rfl rfl rfl (Val.move rfl) ?_
    refine TV rfl rfl rfl (Val.move rfl) ?_
    refine TV rfl rfl rfl (Val.move rfl) ?_
    refine TV rfl rfl rfl (Val.move rfl) ?_
    refine TK.sel (Ls:=[Row k45 45 (.slice A195 l194.length c196) l194,Blk b251 [.slice A248 y246.1.f0.length c249,VI y246.1.f1,VI y246.1.f2,VI y246.1.f3,VI y246.1.f4] 28,Row kI 3 (.slice A248 y246.1.f0.length c249) y246.1.f0]) [2,0,1] 3 rfl rfl rfl ?_
    refine TK.share (fun G252 e253 hs254 hb255=>?_)
    have rd256:Rd G252 k45 A195 l194:=Rd.row hs254
    have le257:l194.length ≤ c196:=Row.le hs254
    obtain ⟨y258,hy259,h⟩:=bind_no h
    refine TL.cons (TL.callV (Lin:=[]) (args:=[.slice A195 l194.length c196,VI a1,.slice A5 a2.length c6,VI a3]) rfl rfl rfl hbd11 rfl rfl (trace_Run.calls (a0:=l194) (a1:=a1) (a2:=a2) (a3:=a3) rd256 le257 (hr7.up (Gd.le.trans e193 e253)) hl8 hy259) rfl ?_)
    rintro _ _ _ _ ⟨rfl,A260,c261,rfl,rfl⟩
    refine TV rfl rfl rfl (Val.move rfl) ?_
    refine TV rfl rfl rfl (Val.extract rfl rfl) ?_
    refine TV rfl rfl rfl (Val.extract rfl rfl) ?_
    refine TL.cons (TL.alloc (cs:=[.slice none 0 0,VI 0,VI 0,VI 0,VI 0]) rfl rfl zr28 rfl (fun b263=>?_))
    refine TL.cons (TL.store 0 (ds:=[.slice A260 y258.1.f0.length c261,VI y258.1.f1,VI y258.1.f2,VI y258.1.f3,VI y258.1.f4]) (cs':=[.slice A260 y258.1.f0.length c261,VI y258.1.f1,VI y258.1.f2,VI y258.1.f3,VI y258.1.f4]) (L':=(Blk b263 [.slice A260 y258.1.f0.length c261,VI y258.1.f1,VI y258.1.f2,VI y258.1.f3,VI y258.1.f4] 28::Row kI 3 (.slice A260 y258.1.f0.length c261) y258.1.f0::Blk b251 [.slice A248 y246.1.f0.length c249,VI y246.1.f1,VI y246.1.f2,VI y246.1.f3,VI y246.1.f4] 28::Row kI 3 (.slice A248 y246.1.f0.length c249) y246.1.f0::L)) rfl fsz28 rfl rfl rfl rfl rfl (Nat.le_of_ble_eq_true rfl) rfl rfl ?_)
    refine TV rfl rfl rfl (Val.assign rfl) ?_
    refine TL.nil ?_
    refine TQ.then_ ?_
    refine TC.seq ?_
    refine TC.seq ?_
    refine TC.region ?_
    refine TV rfl rfl rfl (Val.move rfl) ?_
    refine TV rfl rfl rfl (Val.cmp rfl rfl run_neq) ?_
    refine TL.nil ?_
    refine TQ.then_ ?_
    refine TC.back hb255 ?_
    refine TC.cond_b rfl h (fun hc265 h=>?_) (fun hc265 h=>?_)
    ·
     refine TC.seq ?_
     refine TC.region ?_
     refine TV rfl rfl rfl (Val.move rfl) ?_
     refine TV rfl rfl rfl (Val.assign rfl) ?_
     refine TL.nil ?_
     refine TQ.then_ ?_
     refine TC.ret ?_
     refine TQ.thenR ?_
     obtain rfl:=Option.some.inj h
     exact TQ.fin (.inl rfl) rfl Try.results7 (.tmp rfl .nil) rfl (FRel.mk (Ls:=[]) [] 5 e193 rfl rfl rfl ⟨rfl,rfl⟩)
    ·
     refine TC.skip ?_
     refine TQ.then_ ?_
     refine TC.seq ?_
     refine TC.region ?_
     refine TV rfl rfl rfl (Val.move rfl) ?_
     refine TV rfl rfl rfl (Val.move rfl) ?_
     refine TK.split (p:=y9=true) h (fun hg295 h=>?_) (fun hg295 h=>?_)
     ·
      have hk296:y9=true:=hg295
      refine TV (Wt.yes rfl rfl rfl hk296) rfl rfl (Val.move rfl) ?_
      refine TV (Wt.yes rfl rfl rfl hk296) rfl rfl (Val.cmp rfl rfl run_eql) ?_
      refine TV rfl rfl rfl (Val.pickY rfl hk296 rfl) ?_
      refine TV rfl rfl rfl (Val.move rfl) ?_
      refine TK.split (p:=y258.2=0) h (fun hg297 h=>?_) (fun hg297 h=>?_)
      ·
       have hk298:decide (y258.2=0)=true:=decide_eq_true hg297
       refine TV (Wt.yes rfl rfl rfl hk298) rfl rfl (Val.loadsB 3 (cs:=[.slice A248 y246.1.f0.length c249,VI y246.1.f1,VI y246.1.f2,VI y246.1.f3,VI y246.1.f4]) agg28 fsz28 rfl rfl rfl rfl) ?_
       refine TV (Wt.yes rfl rfl rfl hk298) rfl rfl (Val.loadsB 1 (cs:=[.slice A260 y258.1.f0.length c261,VI y258.1.f1,VI y258.1.f2,VI y258.1.f3,VI y258.1.f4]) agg28 fsz28 rfl rfl rfl rfl) ?_
       refine TK.sel (Ls:=[Row kI 3 (.slice A248 y246.1.f0.length c249) y246.1.f0,Row k45 45 (.slice A195 l194.length c196) l194,Blk b263 [.slice A260 y258.1.f0.length c261,VI y258.1.f1,VI y258.1.f2,VI y258.1.f3,VI y258.1.f4] 28,Row kI 3 (.slice A260 y258.1.f0.length c261) y258.1.f0,Blk b251 [.slice A248 y246.1.f0.length c249,VI y246.1.f1,VI y246.1.f2,VI y246.1.f3,VI y246.1.f4] 28]) [4,0,1,2,3] 5 rfl rfl rfl ?_
       refine TK.share (fun G299 e300 hs301 hb302=>?_)
       have rd303:Rd G299 kI A248 y246.1.f0:=Rd.row hs301
       have le304:y246.1.f0.length ≤ c249:=Row.le hs301
       refine TK.sel (Ls:=[Row kI 3 (.slice A260 y258.1.f0.length c261) y258.1.f0,Row k45 45 (.slice A195 l194.length c196) l194,Blk b263 [.slice A260 y258.1.f0.length c261,VI y258.1.f1,VI y258.1.f2,VI y258.1.f3,VI y258.1.f4] 28,Blk b251 [.slice A248 y246.1.f0.length c249,VI y246.1.f1,VI y246.1.f2,VI y246.1.f3,VI y246.1.f4] 28]) [2,0,1,3] 4 rfl rfl rfl ?_
       refine TK.share (fun G305 e306 hs307 hb308=>?_)
       have rd309:Rd G305 kI A260 y258.1.f0:=Rd.row hs307
       have le310:y258.1.f0.length ≤ c261:=Row.le hs307
       obtain ⟨y311,hy312,h⟩:=bind_no h
       refine TL.cons (TL.callV (Lin:=[]) (args:=[.agg #[.slice A248 y246.1.f0.length c249,VI y246.1.f1,VI y246.1.f2,VI y246.1.f3,VI y246.1.f4],.agg #[.slice A260 y258.1.f0.length c261,VI y258.1.f1,VI y258.1.f2,VI y258.1.f3,VI y258.1.f4]]) (Wt.yes rfl rfl rfl hk298) rfl rfl hbd17 rfl rfl (trace_Same.calls (a0:=y246.1) (a1:=y258.1) (rd303.up e306) le304 rd309 le310 hy312) rfl ?_)
       rintro _ _ _ _ ⟨rfl,rfl,rfl⟩
       refine TV rfl rfl rfl (Val.pickY rfl hk298 rfl) ?_
       refine TV rfl rfl rfl (Val.move rfl) ?_
       refine TK.split (p:=y311=true) h (fun hg313 h=>?_) (fun hg313 h=>?_)
       ·
        have hk314:y311=true:=hg313
        refine TV (Wt.yes rfl rfl rfl hk314) rfl rfl (Val.fieldAddrB Try.underlying28 rfl fsz3 rfl rfl rfl) ?_
        refine TV (Wt.yes rfl rfl rfl hk314) rfl rfl (Val.loadB 1 agg3 rfl rfl rfl) ?_
        refine TV (Wt.yes rfl rfl rfl hk314) rfl rfl (Val.fieldAddrB Try.underlying28 rfl fsz3 rfl rfl rfl) ?_
        refine TV (Wt.yes rfl rfl rfl hk314) rfl rfl (Val.loadB 2 agg3 rfl rfl rfl) ?_
        refine TV (Wt.yes rfl rfl rfl hk314) rfl rfl (Val.cmp rfl rfl run_leq) ?_
        refine TV rfl rfl rfl (Val.pickY rfl hk314 rfl) ?_
        refine TV rfl rfl rfl (Val.move rfl) ?_
        refine TK.split (p:=y258.1.f2 ≤ y246.1.f2) h (fun hg315 h=>?_) (fun hg315 h=>?_)
        ·
         have hk316:decide (y258.1.f2 ≤ y246.1.f2)=true:=decide_eq_true hg315
         refine TV (Wt.yes rfl rfl rfl hk316) rfl rfl (Val.fieldAddrB Try.underlying28 rfl fsz3 rfl rfl rfl) ?_
         refine TV (Wt.yes rfl rfl rfl hk316) rfl rfl (Val.loadB 2 agg3 rfl rfl rfl) ?_
         refine TV (Wt.yes rfl rfl rfl hk316) rfl rfl (Val.fieldAddrB Try.underlying28 rfl fsz3 rfl rfl rfl) ?_
         refine TV (Wt.yes rfl rfl rfl hk316) rfl rfl (Val.loadB 1 agg3 rfl rfl rfl) ?_
         refine TV (Wt.yes rfl rfl rfl hk316) rfl rfl (Val.cmp rfl rfl run_eql) ?_
         refine TV rfl rfl rfl (Val.pickY rfl hk316 rfl) ?_
         refine TV rfl rfl rfl (Val.move rfl) ?_
         refine TK.split (p:=y246.1.f3=y258.1.f3) h (fun hg317 h=>?_) (fun hg317 h=>?_)
         ·
          have hk318:decide (y246.1.f3=y258.1.f3)=true:=decide_eq_true hg317
          refine TV (Wt.yes rfl rfl rfl hk318) rfl rfl (Val.fieldAddrB Try.underlying28 rfl fsz3 rfl rfl rfl) ?_
          refine TV (Wt.yes rfl rfl rfl hk318) rfl rfl (Val.loadB 2 agg3 rfl rfl rfl) ?_
          refine TV (Wt.yes rfl rfl rfl hk318) rfl rfl (Val.fieldAddrB Try.underlying28 rfl fsz3 rfl rfl rfl) ?_
          refine TV (Wt.yes rfl rfl rfl hk318) rfl rfl (Val.loadB 1 agg3 rfl rfl rfl) ?_
          refine TV (Wt.yes rfl rfl rfl hk318) rfl rfl (Val.cmp rfl rfl run_eql) ?_
          refine TV rfl rfl rfl (Val.pickY rfl hk318 rfl) ?_
          refine TV rfl rfl rfl (Val.assign rfl) ?_
          refine TL.nil ?_
          refine TQ.then_ ?_
          refine TC.ret ?_
          refine TQ.back hb308 ?_
          refine TQ.back hb302 ?_
          obtain rfl:=Option.some.inj h
          exact TQ.fin (.inl rfl) rfl Try.results7 (.tmp rfl .nil) rfl (FRel.mk (Ls:=[]) [] 5 e193 rfl rfl rfl ⟨rfl,rfl⟩)
         ·
          have hk319:decide (y246.1.f3=y258.1.f3)=false:=decide_eq_false hg317
          refine TL.cons (TL.not (Wt.no rfl rfl rfl hk319) rfl ?_)
          refine TL.cons (TL.not (Wt.no rfl rfl rfl hk319) rfl ?_)
          refine TL.cons (TL.not (Wt.no rfl rfl rfl hk319) rfl ?_)
          refine TL.cons (TL.not (Wt.no rfl rfl rfl hk319) rfl ?_)
          refine TL.cons (TL.not (Wt.no rfl rfl rfl hk319) rfl ?_)
          refine TV rfl rfl rfl (Val.pickN rfl hk319 rfl) ?_
          refine TV rfl rfl rfl (Val.assign rfl) ?_
          refine TL.nil ?_
          refine TQ.then_ ?_
          refine TC.ret ?_
          refine TQ.back hb308 ?_
          refine TQ.back hb302 ?_
          obtain rfl:=Option.some.inj h
          exact TQ.fin (.inl rfl) rfl Try.results7 (.tmp rfl .nil) rfl (FRel.mk (Ls:=[]) [] 5 e193 rfl rfl rfl ⟨rfl,rfl⟩)
        ·
         have hk320:decide (y258.1.f2 ≤ y246.1.f2)=false:=decide_eq_false hg315
         refine TL.cons (TL.not (Wt.no rfl rfl rfl hk320) rfl ?_)
         refine TL.cons (TL.not (Wt.no rfl rfl rfl hk320) rfl ?_)
         refine TL.cons (TL.not (Wt.no rfl rfl rfl hk320) rfl ?_)
         refine TL.cons (TL.not (Wt.no rfl rfl rfl hk320) rfl ?_)
         refine TL.cons (TL.not (Wt.no rfl rfl rfl hk320) rfl ?_)
         refine TV rfl rfl rfl (Val.pickN rfl hk320 rfl) ?_
         refine TV rfl rfl rfl (Val.move rfl) ?_
         refine TL.cons (TL.not (Wt.no rfl rfl rfl rfl) rfl ?_)
         refine TL.cons (TL.not (Wt.no rfl rfl rfl rfl) rfl ?_)
         refine TL.cons (TL.not (Wt.no rfl rfl rfl rfl) rfl ?_)
         refine TL.cons (TL.not (Wt.no rfl rfl rfl rfl) rfl ?_)
         refine TL.cons (TL.not (Wt.no rfl rfl rfl rfl) rfl ?_)
         refine TV rfl rfl rfl (Val.pickN rfl rfl rfl) ?_
         refine TV rfl rfl rfl (Val.assign rfl) ?_
         refine TL.nil ?_
         refine TQ.then_ ?_
         refine TC.ret ?_
         refine TQ.back hb308 ?_
         refine TQ.back hb302 ?_
         obtain rfl:=Option.some.inj h
         exact TQ.fin (.inl rfl) rfl Try.results7 (.tmp rfl .nil) rfl (FRel.mk (Ls:=[]) [] 5 e193 rfl rfl rfl ⟨rfl,rfl⟩)
       ·
        have hk321:y311=false:=(by simpa using hg313)
        refine TL.cons (TL.not (Wt.no rfl rfl rfl hk321) rfl ?_)
        refine TL.cons (TL.not (Wt.no rfl rfl rfl hk321) rfl ?_)
        refine TL.cons (TL.not (Wt.no rfl rfl rfl hk321) rfl ?_)
        refine TL.cons (TL.not (Wt.no rfl rfl rfl hk321) rfl ?_)
        refine TL.cons (TL.not (Wt.no rfl rfl rfl hk321) rfl ?_)
        refine TV rfl rfl rfl (Val.pickN rfl hk321 rfl) ?_
        refine TV rfl rfl rfl (Val.move rfl) ?_
        refine TL.cons (TL.not (Wt.no rfl rfl rfl rfl) rfl ?_)
        refine TL.cons (TL.not (Wt.no rfl rfl rfl rfl) rfl ?_)
        refine TL.cons (TL.not (Wt.no rfl rfl rfl rfl) rfl ?_)
        refine TL.cons (TL.not (Wt.no rfl rfl rfl rfl) rfl ?_)
        refine TL.cons (TL.not (Wt.no rfl rfl rfl rfl) rfl ?_)
        refine TV rfl rfl rfl (Val.pickN rfl rfl rfl) ?_
        refine TV rfl rfl rfl (Val.move rfl) ?_
        refine TL.cons (TL.not (Wt.no rfl rfl rfl rfl) rfl ?_)
        refine TL.cons (TL.not (Wt.no rfl rfl rfl rfl) rfl ?_)
        refine TL.cons (TL.not (Wt.no rfl rfl rfl rfl) rfl ?_)
        refine TL.cons (TL.not (Wt.no rfl rfl rfl rfl) rfl ?_)
        refine TL.cons (TL.not (Wt.no rfl rfl rfl rfl) rfl ?_)
        refine TV rfl rfl rfl (Val.pickN rfl rfl rfl) ?_
        refine TV rfl rfl rfl (Val.assign rfl) ?_
        refine TL.nil ?_
        refine TQ.then_ ?_
        refine TC.ret ?_
        refine TQ.back hb308 ?_
        refine TQ.back hb302 ?_
        obtain rfl:=Option.some.inj h
        exact TQ.fin (.inl rfl) rfl Try.results7 (.tmp rfl .nil) rfl (FRel.mk (Ls:=[]) [] 5 e193 rfl rfl rfl ⟨rfl,rfl⟩)
      ·
       have hk322:decide (y258.2=0)=false:=decide_eq_false hg297
       refine TL.cons (TL.not (Wt.no rfl rfl rfl hk322) rfl ?_)
       refine TL.cons (TL.not (Wt.no rfl rfl rfl hk322) rfl ?_)
       refine TL.cons (TL.not (Wt.no rfl rfl rfl hk322) rfl ?_)
       refine TV rfl rfl rfl (Val.pickN rfl hk322 rfl) ?_
       refine TV rfl rfl rfl (Val.move rfl) ?_
       refine TL.cons (TL.not (Wt.no rfl rfl rfl rfl) rfl ?_)
       refine TL.cons (TL.not (Wt.no rfl rfl rfl rfl) rfl ?_)
       refine TL.cons (TL.not (Wt.no rfl rfl rfl rfl) rfl ?_)
       refine TL.cons (TL.not (Wt.no rfl rfl rfl rfl) rfl ?_)
       refine TL.cons (TL.not (Wt.no rfl rfl rfl rfl) rfl ?_)
       refine TV rfl rfl rfl (Val.pickN rfl rfl rfl) ?_
       refine TV rfl rfl rfl (Val.move rfl) ?_
       refine TL.cons (TL.not (Wt.no rfl rfl rfl rfl) rfl ?_)
       refine TL.cons (TL.not (Wt.no rfl rfl rfl rfl) rfl ?_)
       refine TL.cons (TL.not (Wt.no rfl rfl rfl rfl) rfl ?_)
       refine TL.cons (TL.not (Wt.no rfl rfl rfl rfl) rfl ?_)
       refine TL.cons (TL.not (Wt.no rfl rfl rfl rfl) rfl ?_)
       refine TV rfl rfl rfl (Val.pickN rfl rfl rfl) ?_
       refine TV rfl rfl rfl (Val.move rfl) ?_
       refine TL.cons (TL.not (Wt.no rfl rfl rfl rfl) rfl ?_)
       refine TL.cons (TL.not (Wt.no rfl rfl rfl rfl) rfl ?_)
       refine TL.cons (TL.not (Wt.no rfl rfl rfl rfl) rfl ?_)
       refine TL.cons (TL.not (Wt.no rfl rfl rfl rfl) rfl ?_)
       refine TL.cons (TL.not (Wt.no rfl rfl rfl rfl) rfl ?_)
       refine TV rfl rfl rfl (Val.pickN rfl rfl rfl) ?_
       refine TV rfl rfl rfl (Val.assign rfl) ?_
       refine TL.nil ?_
       refine TQ.then_ ?_
       refine TC.ret ?_
       obtain rfl:=Option.some.inj h
       exact TQ.fin (.inl rfl) rfl Try.results7 (.tmp rfl .nil) rfl (FRel.mk (Ls:=[]) [] 5 e193 rfl rfl rfl ⟨rfl,rfl⟩)
     ·
      have hk323:y9=false:=(by simpa using hg295)
      refine TL.cons (TL.not (Wt.no rfl rfl rfl hk323) rfl ?_)
      refine TL.cons (TL.not (Wt.no rfl rfl rfl hk323) rfl ?_)
      refine TV rfl rfl rfl (Val.pickN rfl hk323 rfl) ?_
      refine TV rfl rfl rfl (Val.move rfl) ?_
      refine TL.cons (TL.not (Wt.no rfl rfl rfl rfl) rfl ?_)
      refine TL.cons (TL.not (Wt.no rfl rfl rfl rfl) rfl ?_)
      refine TL.cons (TL.not (Wt.no rfl rfl rfl rfl) rfl ?_)
      refine TV rfl rfl rfl (Val.pickN rfl rfl rfl) ?_
      refine TV rfl rfl rfl (Val.move rfl) ?_
      refine TL.cons (TL.not (Wt.no rfl rfl rfl rfl) rfl ?_)
      refine TL.cons (TL.not (Wt.no rfl rfl rfl rfl) rfl ?_)
      refine TL.cons (TL.not (Wt.no rfl rfl rfl rfl) rfl ?_)
      refine TL.cons (TL.not (Wt.no rfl rfl rfl rfl) rfl ?_)
      refine TL.cons (TL.not (Wt.no rfl rfl rfl rfl) rfl ?_)
      refine TV rfl rfl rfl (Val.pickN rfl rfl rfl) ?_
      refine TV rfl rfl rfl (Val.move rfl) ?_
      refine TL.cons (TL.not (Wt.no rfl rfl rfl rfl) rfl ?_)
      refine TL.cons (TL.not (Wt.no rfl rfl rfl rfl) rfl ?_)
      refine TL.cons (TL.not (Wt.no rfl rfl rfl rfl) rfl ?_)
      refine TL.cons (TL.not (Wt.no rfl rfl rfl rfl) rfl ?_)
      refine TL.cons (TL.not (Wt.no rfl rfl rfl rfl) rfl ?_)
      refine TV rfl rfl rfl (Val.pickN rfl rfl rfl) ?_
      refine TV rfl rfl rfl (Val.move rfl) ?_
      refine TL.cons (TL.not (Wt.no rfl rfl rfl rfl) rfl ?_)
      refine TL.cons (TL.not (Wt.no rfl rfl rfl rfl) rfl ?_)
      refine TL.cons (TL.not (Wt.no rfl rfl rfl rfl) rfl ?_)
      refine TL.cons (TL.not (Wt.no rfl rfl rfl rfl) rfl ?_)
      refine TL.cons (TL.not (Wt.no rfl rfl rfl rfl) rfl ?_)
      refine TV rfl rfl rfl (Val.pickN rfl rfl rfl) ?_
      refine TV rfl rfl rfl (Val.assign rfl) ?_
      refine TL.nil ?_
      refine TQ.then_ ?_
      refine TC.ret ?_
      obtain rfl:=Option.some.inj h
      exact TQ.fin (.inl rfl) rfl Try.results7 (.tmp rfl .nil) rfl (FRel.mk (Ls:=[]) [] 5 e193 rfl rfl rfl ⟨rfl,rfl⟩)
   ·
    refine TC.block ?_
    intro a W hF hO
    have hS:∃ (l141:(List S45)) (x145:Int) (G139:Gd) (A142:Option Addr) (c143:Nat),swagelaw22_ForwardRuns.l0 a0 (a0.length + 1) l141 x145=some o198∧G.le G139∧Fr 108 a [(0,.slice A1 a0.length c2),(1,VI a1),(2,.slice A5 a2.length c6),(3,VI a3),(9,.bool y9),(11,.slice A142 l141.length c143),(12,VI x145)]∧Own G139 (Row k45 45 (.slice A142 l141.length c143) l141::L) W:=by
     exact ⟨[],0,G30,none,0,ho198,e31,hF.sub ⟨rfl,rfl,rfl,rfl,rfl,rfl,rfl,trivial⟩,(Own.nilRow k45 45 hO).selT (Ls:=[Row k45 45 (.slice none ([]:List S45).length 0) ([]:List S45)]) [0] 1 rfl rfl rfl⟩
    clear hF hO ho198 ko198
    refine TC.loop (fun n199 a W=>∃ (l141:(List S45)) (x145:Int) (G139:Gd) (A142:Option Addr) (c143:Nat),swagelaw22_ForwardRuns.l0 a0 n199 l141 x145=some o198∧G.le G139∧Fr 108 a [(0,.slice A1 a0.length c2),(1,VI a1),(2,.slice A5 a2.length c6),(3,VI a3),(9,.bool y9),(11,.slice A142 l141.length c143),(12,VI x145)]∧Own G139 (Row k45 45 (.slice A142 l141.length c143) l141::L) W) ?_ ?_ hS
    ·
     rintro a W ⟨l141,x145,G139,A142,c143,h,e140,hF,hO⟩
     exact none_no h
    ·
     clear hS
     rintro n199 a W ⟨l141,x145,G139,A142,c143,h,e140,hF,hO⟩
     rw [swagelaw22_ForwardRuns.l0] at h
     refine TC.use ?_ hF hO
     clear hF hO
     refine TC.seq ?_
     refine TC.seq ?_
     refine TC.region ?_
     refine TV rfl rfl rfl (Val.move rfl) ?_
     refine TV rfl rfl rfl (Val.move rfl) ?_
     refine TV rfl rfl rfl (Val.len Try.underlying22 rfl) ?_
     refine TV rfl rfl rfl (Val.cmp rfl rfl run_lss) ?_
     refine TL.nil ?_
     refine TQ.then_ ?_
     refine TC.cond_p rfl h (fun hc325 h=>?_) (fun hc325 h=>?_)
     ·
      refine TC.skip ?_
      refine TQ.then_ ?_
      refine TC.seq ?_
      refine TC.block ?_
      refine TC.region ?_
      refine TV rfl rfl rfl (Val.move rfl) ?_
      refine TV rfl rfl rfl (Val.move rfl) ?_
      refine TV rfl rfl rfl (Val.move rfl) ?_
      obtain ⟨y348,hx349,h⟩:=bind_no h
      obtain ⟨ad350,cs356,hA351,hi352,hj353,hcl354,hK355⟩:=Rd.at (hr3.up e140) hx349
      obtain ⟨A357,c358,rfl,hr359,hl360⟩:=k45_openR hK355
      refine TV rfl rfl rfl (Val.indexAddr Try.underlying22 fsz45 rfl hA351 rfl hi352 hj353) ?_
      refine TV rfl rfl rfl (Val.loadsS (cs:=[VI y348.f0,.slice A357 y348.f1.length c358]) agg45 fsz45 rfl rfl (Cl.sub (off:=0) (n:=2) hcl354 rfl)) ?_
      obtain ⟨y361,hy362,h⟩:=bind_no h
      refine TL.cons (TL.callV (Lin:=[]) (args:=[.agg #[VI y348.f0,.slice A357 y348.f1.length c358],.slice none 0 0]) rfl rfl rfl hbd21 rfl rfl (forward_Func.calls (a0:=y348) (a1:=([]:List Int)) hr359 hl360 (Rd.nil _ _) (Nat.le_refl 0) hy362) rfl ?_)
      rintro _ _ _ _ ⟨rfl,A363,c364,rfl,rfl⟩
      refine TL.cons (TL.buildSlice (xs:=[.tmp 55]) (vs:=[.agg #[VI y361.f0,.slice A363 y361.f1.length c364]]) (cs:=[VI y361.f0,.slice A363 y361.f1.length c364]) rfl rfl Try.underlying22 zs45 rfl rfl rfl rfl rfl rfl rfl rfl (fun b366=>?_))
      refine TK.sel (Ls:=[Row k42 42 (.slice A363 y361.f1.length c364) y361.f1,Blk b366 [VI y361.f0,.slice A363 y361.f1.length c364] 45,Row k45 45 (.slice A142 l141.length c143) l141]) [1,0,2] 3 rfl rfl rfl ?_
      refine TK.conv (ch':=El k45 y361 [VI y361.f0,.slice A363 y361.f1.length c364]) (fun B W F hh=>k45_mkM W B F y361 hh) ?_
      refine TK.sel (Ls:=[Row k45 45 (.slice A142 l141.length c143) l141,El k45 y361 [VI y361.f0,.slice A363 y361.f1.length c364],Blk b366 [VI y361.f0,.slice A363 y361.f1.length c364] 45]) [2,0,1] 3 rfl rfl rfl ?_
      obtain ⟨ha367,h⟩:=ite_no h
      refine TL.cons (TL.append (xs:=l141) k45 rfl rfl Try.underlying22 inf45 rfl (Nat.le_of_ble_eq_true rfl) (Nat.le_of_ble_eq_true rfl) rfl rfl (by omega) (fun A368 c369=>?_))
      refine TV rfl rfl rfl (Val.assign rfl) ?_
      refine TL.nil ?_
      refine TQ.inB ?_
      refine TQ.then_ ?_
      refine TC.region ?_
      refine TV rfl rfl rfl (Val.move rfl) ?_
      refine TV rfl rfl rfl (Val.cmp rfl rfl run_add) ?_
      refine TV rfl rfl rfl (Val.assign rfl) ?_
      refine TL.nil ?_
      exact fun a W hF hO=>⟨(l141 ++ [y361]),IntKind.i64.wrap (x145 + 1),G139,A368,c369,h,e140,hF.sub ⟨rfl,rfl,rfl,rfl,rfl,rfl,rfl,trivial⟩,hO.selT (Ls:=[Row k45 45 (.slice A368 (l141 ++ [y361]).length c369) (l141 ++ [y361])]) [0] 1 rfl rfl rfl⟩
     ·
      refine TC.exit ?_
      refine TQ.thenX ?_
      refine TQ.thenX ?_
      refine TQ.inBX ?_
      exact fun a W hF hO=>⟨l141,G139,A142,c143,Option.some.inj h,e140,hF.sub ⟨rfl,rfl,rfl,rfl,rfl,rfl,trivial⟩,hO.selT (Ls:=[Row k45 45 (.slice A142 l141.length c143) l141]) [0] 1 rfl rfl rfl⟩
 ·
  refine TC.region ?_
  refine TV rfl rfl rfl (Val.move rfl) ?_
  refine TV rfl rfl rfl (Val.not_ rfl) ?_
  refine TV rfl rfl rfl (Val.move rfl) ?_
  refine TK.split (p:=(!y13)=true) h (fun hg370 h=>?_) (fun hg370 h=>?_)
  ·
   have hk371:(!y13)=true:=hg370
   refine TL.cons (TL.not (Wt.no rfl rfl rfl hk371) rfl ?_)
   refine TL.cons (TL.not (Wt.no rfl rfl rfl hk371) rfl ?_)
   refine TV rfl rfl rfl (Val.pickY rfl hk371 rfl) ?_
   refine TV rfl rfl rfl (Val.move rfl) ?_
   refine TL.cons (TL.not (Wt.no rfl rfl rfl rfl) rfl ?_)
   refine TL.cons (TL.not (Wt.no rfl rfl rfl rfl) rfl ?_)
   refine TV rfl rfl rfl (Val.pickY rfl rfl rfl) ?_
   refine TV rfl rfl rfl (Val.move rfl) ?_
   refine TL.cons (TL.not (Wt.no rfl rfl rfl rfl) rfl ?_)
   refine TL.cons (TL.not (Wt.no rfl rfl rfl rfl) rfl ?_)
   refine TL.cons (TL.not (Wt.no rfl rfl rfl rfl) rfl ?_)
   refine TV rfl rfl rfl (Val.pickY rfl rfl rfl) ?_
   refine TV rfl rfl rfl (Val.move rfl) ?_
   refine TL.cons (TL.not (Wt.no rfl rfl rfl rfl) rfl ?_)
   refine TL.cons (TL.not (Wt.no rfl rfl rfl rfl) rfl ?_)
   refine TV rfl rfl rfl (Val.pickY rfl rfl rfl) ?_
   refine TV rfl rfl rfl (Val.move rfl) ?_
   refine TL.cons (TL.not (Wt.no rfl rfl rfl rfl) rfl ?_)
   refine TL.cons (TL.not (Wt.no rfl rfl rfl rfl) rfl ?_)
   refine TV rfl rfl rfl (Val.pickY rfl rfl rfl) ?_
   refine TL.nil ?_
   exact fun a W hF hO=>⟨true,G11,h,e12,hF.sub ⟨rfl,rfl,rfl,rfl,rfl,rfl,trivial⟩,hO.selT (Ls:=[]) [] 0 rfl rfl rfl⟩
  ·
   have hk372:(!y13)=false:=(by simpa using hg370)
   refine TV (Wt.yes rfl rfl rfl hk372) rfl rfl (Val.move rfl) ?_
   refine TV (Wt.yes rfl rfl rfl hk372) rfl rfl (Val.cmp rfl rfl run_lss) ?_
   refine TV rfl rfl rfl (Val.pickN rfl hk372 rfl) ?_
   refine TV rfl rfl rfl (Val.move rfl) ?_
   refine TK.split (p:=a1 < 1) h (fun hg373 h=>?_) (fun hg373 h=>?_)
   ·
    have hk374:decide (a1 < 1)=true:=decide_eq_true hg373
    refine TL.cons (TL.not (Wt.no rfl rfl rfl hk374) rfl ?_)
    refine TL.cons (TL.not (Wt.no rfl rfl rfl hk374) rfl ?_)
    refine TV rfl rfl rfl (Val.pickY rfl hk374 rfl) ?_
    refine TV rfl rfl rfl (Val.move rfl) ?_
    refine TL.cons (TL.not (Wt.no rfl rfl rfl rfl) rfl ?_)
    refine TL.cons (TL.not (Wt.no rfl rfl rfl rfl) rfl ?_)
    refine TL.cons (TL.not (Wt.no rfl rfl rfl rfl) rfl ?_)
    refine TV rfl rfl rfl (Val.pickY rfl rfl rfl) ?_
    refine TV rfl rfl rfl (Val.move rfl) ?_
    refine TL.cons (TL.not (Wt.no rfl rfl rfl rfl) rfl ?_)
    refine TL.cons (TL.not (Wt.no rfl rfl rfl rfl) rfl ?_)
    refine TV rfl rfl rfl (Val.pickY rfl rfl rfl) ?_
    refine TV rfl rfl rfl (Val.move rfl) ?_
    refine TL.cons (TL.not (Wt.no rfl rfl rfl rfl) rfl ?_)
    refine TL.cons (TL.not (Wt.no rfl rfl rfl rfl) rfl ?_)
    refine TV rfl rfl rfl (Val.pickY rfl rfl rfl) ?_
    refine TL.nil ?_
    exact fun a W hF hO=>⟨true,G11,h,e12,hF.sub ⟨rfl,rfl,rfl,rfl,rfl,rfl,trivial⟩,hO.selT (Ls:=[]) [] 0 rfl rfl rfl⟩
   ·
    have hk375:decide (a1 < 1)=false:=decide_eq_false hg373
    refine TV (Wt.yes rfl rfl rfl hk375) rfl rfl (Val.move rfl) ?_
    refine TV (Wt.yes rfl rfl rfl hk375) rfl rfl (Val.cmp rfl rfl run_gtr) ?_
    refine TV rfl rfl rfl (Val.pickN rfl hk375 rfl) ?_
    refine TV rfl rfl rfl (Val.move rfl) ?_
    refine TK.split (p:=4096 < a1) h (fun hg376 h=>?_) (fun hg376 h=>?_)
    ·
     have hk377:decide (4096 < a1)=true:=decide_eq_true hg376
     refine TL.cons (TL.not (Wt.no rfl rfl rfl hk377) rfl ?_)
     refine TL.cons (TL.not (Wt.no rfl rfl rfl hk377) rfl ?_)
     refine TL.cons (TL.not (Wt.no rfl rfl rfl hk377) rfl ?_)
     refine TV rfl rfl rfl (Val.pickY rfl hk377 rfl) ?_
     refine TV rfl rfl rfl (Val.move rfl) ?_
     refine TL.cons (TL.not (Wt.no rfl rfl rfl rfl) rfl ?_)
     refine TL.cons (TL.not (Wt.no rfl rfl rfl rfl) rfl ?_)
     refine TV rfl rfl rfl (Val.pickY rfl rfl rfl) ?_
     refine TV rfl rfl rfl (Val.move rfl) ?_
     refine TL.cons (TL.not (Wt.no rfl rfl rfl rfl) rfl ?_)
     refine TL.cons (TL.not (Wt.no rfl rfl rfl rfl) rfl ?_)
     refine TV rfl rfl rfl (Val.pickY rfl rfl rfl) ?_
     refine TL.nil ?_
     exact fun a W hF hO=>⟨true,G11,h,e12,hF.sub ⟨rfl,rfl,rfl,rfl,rfl,rfl,trivial⟩,hO.selT (Ls:=[]) [] 0 rfl rfl rfl⟩
    ·
     have hk378:decide (4096 < a1)=false:=decide_eq_false hg376
     refine TV (Wt.yes rfl rfl rfl hk378) rfl rfl (Val.move rfl) ?_
     refine TV (Wt.yes rfl rfl rfl hk378) rfl rfl (Val.len Try.underlying23 rfl) ?_
     refine TV (Wt.yes rfl rfl rfl hk378) rfl rfl (Val.cmp rfl rfl run_gtr) ?_
     refine TV rfl rfl rfl (Val.pickN rfl hk378 rfl) ?_
     refine TV rfl rfl rfl (Val.move rfl) ?_
     refine TK.split (p:=60 < (a2.length:Int)) h (fun hg379 h=>?_) (fun hg379 h=>?_)
     ·
      have hk380:decide (60 < (a2.length:Int))=true:=decide_eq_true hg379
      refine TL.cons (TL.not (Wt.no rfl rfl rfl hk380) rfl ?_)
      refine TL.cons (TL.not (Wt.no rfl rfl rfl hk380) rfl ?_)
      refine TV rfl rfl rfl (Val.pickY rfl hk380 rfl) ?_
      refine TV rfl rfl rfl (Val.move rfl) ?_
      refine TL.cons (TL.not (Wt.no rfl rfl rfl rfl) rfl ?_)
      refine TL.cons (TL.not (Wt.no rfl rfl rfl rfl) rfl ?_)
      refine TV rfl rfl rfl (Val.pickY rfl rfl rfl) ?_
      refine TL.nil ?_
      exact fun a W hF hO=>⟨true,G11,h,e12,hF.sub ⟨rfl,rfl,rfl,rfl,rfl,rfl,trivial⟩,hO.selT (Ls:=[]) [] 0 rfl rfl rfl⟩
     ·
      have hk381:decide (60 < (a2.length:Int))=false:=decide_eq_false hg379
      refine TV (Wt.yes rfl rfl rfl hk381) rfl rfl (Val.move rfl) ?_
      refine TV (Wt.yes rfl rfl rfl hk381) rfl rfl (Val.cmp rfl rfl run_lss) ?_
      refine TV rfl rfl rfl (Val.pickN rfl hk381 rfl) ?_
      refine TV rfl rfl rfl (Val.move rfl) ?_
      refine TK.split (p:=a3 < 0) h (fun hg382 h=>?_) (fun hg382 h=>?_)
      ·
       have hk383:decide (a3 < 0)=true:=decide_eq_true hg382
       refine TL.cons (TL.not (Wt.no rfl rfl rfl hk383) rfl ?_)
       refine TL.cons (TL.not (Wt.no rfl rfl rfl hk383) rfl ?_)
       refine TV rfl rfl rfl (Val.pickY rfl hk383 rfl) ?_
       refine TL.nil ?_
       exact fun a W hF hO=>⟨true,G11,h,e12,hF.sub ⟨rfl,rfl,rfl,rfl,rfl,rfl,trivial⟩,hO.selT (Ls:=[]) [] 0 rfl rfl rfl⟩
      ·
       have hk384:decide (a3 < 0)=false:=decide_eq_false hg382
       refine TV (Wt.yes rfl rfl rfl hk384) rfl rfl (Val.move rfl) ?_
       refine TV (Wt.yes rfl rfl rfl hk384) rfl rfl (Val.cmp rfl rfl run_gtr) ?_
       refine TV rfl rfl rfl (Val.pickN rfl hk384 rfl) ?_
       refine TL.nil ?_
       exact fun a W hF hO=>⟨decide (2000 < a3),G11,h,e12,hF.sub ⟨rfl,rfl,rfl,rfl,rfl,rfl,trivial⟩,hO.selT (Ls:=[]) [] 0 rfl rfl rfl⟩
end Go.Proofs.Ytfmocegnpmomnaa.Sy
set_option linter.unusedVariables false
set_option linter.unusedSimpArgs false
namespace Go.Proofs.Ytfmocegnpmomnaa.Sy
open Go Go.RowKit Go.Proofs.YtfmocegnpmomnaaW.PrintWords Go.Proofs.Ytfmocegnpmomnaa.SyO
theorem clone_i {l : List Int} (h : l.length ≤ 1000) : slices_Clone_int_int.f l = some l := by
  unfold slices_Clone_int_int.f; rw [if_pos (by simp; omega)]; simp
theorem ok_kind {o : S37} (hok : okOp o 256 = true) : 1 ≤ o.f0 ∧ o.f0 ≤ 9 := by
  apply Classical.byContradiction; intro hn
  unfold okOp at hok; simp [hn] at hok
theorem sets_ok {o : S37} (hok : okOp o 256 = true) : code_Sets.f o = some o.f1 := by
  have hk := ok_kind hok
  unfold okOp at hok
  unfold code_Sets.f
  rw [shape_f, Option.bind_some]
  rcases nine hk.1 hk.2 with e | e | e | e | e | e | e | e | e <;> simp only [e] at hok ⊢ <;> simp at hok <;> simp <;> omega
structure Wo (o : S37) : Prop where
  f1 : wfi o.f1
  f2 : wfi o.f2
  f3 : wfi o.f3
  f4 : wfi o.f4
  f5 : ∀ a ∈ o.f5, wfi a
  len : o.f5.length ≤ 20
theorem wo_of {o : S37} (h : ok37 o) (hl : o.f5.length ≤ 20) : Wo o := ⟨h.2.1, h.2.2.1, h.2.2.2.1, h.2.2.2.2.1, h.2.2.2.2.2.2, hl⟩
theorem okOp_to {o : S37} {k k' : Int} (h : okOp o k = true) (h7 : o.f0 = 7 → o.f4 < k') : okOp o k' = true := by
  have hk : 1 ≤ o.f0 ∧ o.f0 ≤ 9 := by
    apply Classical.byContradiction; intro hn
    unfold okOp at h; simp [hn] at h
  unfold okOp at *
  rcases nine hk.1 hk.2 with e | e | e | e | e | e | e | e | e <;> simp only [e] at h h7 ⊢ <;> simp at h h7 ⊢ <;> first | exact h | (refine ⟨⟨⟨h.1.1.1, h.1.1.2⟩, ⟨h.1.2.1, h7⟩⟩, h.2⟩) | (obtain ⟨⟨⟨h1, h2⟩, h3⟩, h4⟩ := h; exact ⟨⟨⟨h1, h2⟩, ⟨h3.1, h7⟩⟩, h4⟩)
theorem okOp_call {o : S37} {k : Int} (h : okOp o k = true) (h7 : o.f0 = 7) : 0 ≤ o.f4 ∧ o.f4 < k := by
  unfold okOp at h
  simp only [h7] at h
  simp at h
  omega
theorem at_set {r : List Int} {d g v : Int} (h0 : 0 ≤ d) (h1 : d < (r.length : Int)) : at? (r.set d.toNat v) g = if g = d then some v else at? r g := by
  unfold at?
  by_cases hg : 0 ≤ g
  · rw [if_pos hg, if_pos hg]
    by_cases he : g = d
    · rw [if_pos he, he, List.getElem?_set_self (by omega)]
    · rw [if_neg he, List.getElem?_set_ne (by omega)]
  · rw [if_neg hg, if_neg hg, if_neg (by omega)]
/-- Registers that agree. -/
def Ag (r r' : List Int) : Prop := ∀ g v v', at? r g = some v → at? r' g = some v' → v = v'
theorem ag_at {r r' : List Int} (hA : Ag r r') {g y : Int} (h : at? r g = some y) (h0 : 0 ≤ g) (h1 : g < (r'.length : Int)) : at? r' g = some y := by
  obtain ⟨w, hw⟩ := at_ok (r := r') h0 h1
  rw [hw, hA g y w h hw]
theorem ag_set {r r' : List Int} (hA : Ag r r') {d v : Int} (h0 : 0 ≤ d) (h1 : d < (r.length : Int)) (h2 : d < (r'.length : Int)) : Ag (r.set d.toNat v) (r'.set d.toNat v) := by
  intro g a b ha hb
  rw [at_set h0 h1] at ha
  rw [at_set h0 h2] at hb
  by_cases hg : g = d
  · rw [if_pos hg] at ha hb; cases ha; cases hb; rfl
  · rw [if_neg hg] at ha hb; exact hA g a b ha hb
theorem oz2 {z : Nat} {o : S37} (ho : Oz z o) (h : o.f0 = 2 ∨ o.f0 = 3 ∨ o.f0 = 4 ∨ o.f0 = 5 ∨ o.f0 = 9) : 0 ≤ o.f2 ∧ o.f2 < (z : Int) + 1 := by
  have hro := ho.ro
  have := ho.a h
  unfold Ro at hro
  rcases hro with e | e | e | e | e | e | e | e | e <;> first | (exfalso; omega) | (have := e.2.2.1.1; omega)
theorem oz3 {z : Nat} {o : S37} (ho : Oz z o) (h : o.f0 = 2 ∨ o.f0 = 5) : 0 ≤ o.f3 ∧ o.f3 < (z : Int) + 1 := by
  have hro := ho.ro
  have := ho.b h
  unfold Ro at hro
  rcases hro with e | e | e | e | e | e | e | e | e <;> first | (exfalso; omega) | (have := e.2.2.2.1.1; omega)
theorem oz5 {z : Nat} {o : S37} (ho : Oz z o) (h : o.f0 = 7) : ∀ a ∈ o.f5, 0 ≤ a ∧ a < (z : Int) + 1 := by
  have hro := ho.ro
  intro a ha
  have := ho.c h a ha
  unfold Ro at hro
  rcases hro with e | e | e | e | e | e | e | e | e <;> first | (exfalso; omega) | (have := (e.2.2.2.2 a ha).1; omega)
theorem args_at {o : S37} {r : List Int} {z : Nat} (ho : Oz z o) (h7 : o.f0 = 7) (hr : r.length = z + 1) : ∃ us : List Int, trace_runner_value.l0 o r (o.f5.length + 1) (List.replicate (o.f5.length : Int).toNat (0 : Int)) 0 = some us ∧ o.f5.map (at? r) = us.map some := by
  have ha5 := ho.args
  have hrg := oz5 ho h7
  have := loopd (xs := o.f5) (F := fun n i w => trace_runner_value.l0 o r n w i) (P := fun ys f => ∀ w1 w2 : List Int, w1.length + ys.length = o.f5.length → w2.length = ys.length → ∃ us, f (w1 ++ w2) = some (w1 ++ us) ∧ ys.map (at? r) = us.map some) (by omega) (fun n w1 w2 h1 h2 => ⟨[], by simp [trace_runner_value.l0, List.eq_nil_of_length_eq_zero h2], rfl⟩) (fun n i y ys hd hlt hat hm hw ih w1 w2 h1 h2 => by
    have hy := hrg y hm
    obtain ⟨u, hu⟩ := at_ok (r := r) (i := y) hy.1 (by omega)
    cases w2 with
    | nil => simp at h2
    | cons c w2 =>
      have hi : w1.length = i := by
        have := congrArg List.length hd
        rw [List.length_drop] at this
        simp only [List.length_cons] at this h1
        omega
      have hu2 : at? (w1 ++ c :: w2) (i : Int) = some c := by rw [at_nat, ← hi]; simp
      obtain ⟨us, e1, e2⟩ := ih (w1 ++ [u]) w2 (by simp at h1 ⊢; omega) (by simpa using h2)
      refine ⟨u :: us, ?_, by simp [hu, e2]⟩
      show trace_runner_value.l0 o r (n + 1) (w1 ++ c :: w2) i = _
      rw [trace_runner_value.l0, if_pos hlt, hat, Option.bind_some, hu, Option.bind_some, hu2, Option.bind_some, Int.toNat_natCast, hw]
      have hset : (w1 ++ c :: w2).set i u = w1 ++ [u] ++ w2 := by rw [← hi]; simp
      rw [hset]
      have e1' : trace_runner_value.l0 o r n (w1 ++ [u] ++ w2) ((i + 1 : Nat) : Int) = _ := e1
      rw [e1']; simp) (o.f5.length + 1) (by omega)
  obtain ⟨us, e1, e2⟩ := this [] (List.replicate o.f5.length 0) (by simp) (by simp)
  exact ⟨us, by simpa using e1, e2⟩
theorem map_some {α : Type} {a b : List α} (h : a.map some = b.map some) : a = b := by
  induction a generalizing b with
  | nil => cases b with
    | nil => rfl
    | cons y ys => simp at h
  | cons x xs ih => cases b with
    | nil => simp at h
    | cons y ys => simp at h; rw [h.1, ih h.2]
/-- Where a block's end leads. -/
def Tm (t : S40) (r : List Int) : Option (Int ⊕ (Int × Int)) := if t.f0 = 3 then (at? r t.f1).bind fun v => some (.inr (v, 0)) else if t.f0 = 4 then some (.inr (0, t.f2)) else if t.f0 = 1 then some (.inl t.f2) else (at? r t.f1).bind fun v => some (.inl (if v = 0 then t.f3 else t.f2))
theorem kl_tm {n : Nat} {l : List S45} {fl : Int} {t : S45} {y : S42} {N : Nat} {x : Int} {s s' : Ts} {r r' : List Int} (hy : at? t.f1 x = some y) (hb : Bf n l fl s y r = some (tb 0 s' r')) : Kl n l fl t (N + 1) x s r = (Tm y.f1 r').bind fun | .inl x' => Kl n l fl t N x' s' r' | .inr q => some (tv q.1 q.2 (back s')) := by
  show trace_runner_call.l0 (trace_runner_call.fix n).2.1 l fl 0 t (N + 1) r x s.i s.f s.d s.o s.ld s.st s.c s.m s.h = _
  have q1' : (trace_runner_call.fix n).2.1 l s.m s.h fl s.i s.f s.d s.o 0 s.ld s.st s.c y r = some (tb 0 s' r') := hb
  rw [trace_runner_call.l0, hy, Option.bind_some, q1', Option.bind_some]
  simp only [jn]
  rw [if_neg (show ¬ (!decide True) = true by decide)]
  unfold Tm
  by_cases h3 : y.f1.f0 = 3
  · rw [if_pos h3, if_pos h3]
    cases at? r' y.f1.f1 <;> rfl
  · rw [if_neg h3, if_neg h3]
    by_cases h4 : y.f1.f0 = 4
    · rw [if_pos h4, if_pos h4]; rfl
    · rw [if_neg h4, if_neg h4]
      by_cases h1 : y.f1.f0 = 1
      · rw [if_pos h1, if_pos h1, if_pos trivial]; rfl
      · rw [if_neg h1, if_neg h1]
        cases hq : at? r' y.f1.f1 with
        | none => rfl
        | some v =>
          rw [Option.bind_some, Option.bind_some]
          by_cases hv : v = 0
          · rw [if_neg (by simp [hv]), if_pos hv]; rfl
          · rw [if_pos (by simp [hv]), if_neg hv]; rfl
theorem rg_at {z : Nat} {us : List Int} {g v : Int} (h : at? (rg z us) g = some v) : 0 ≤ g ∧ v = if 1 ≤ g then us[g.toNat - 1]?.getD 0 else 0 := by
  have hg : 0 ≤ g := by
    unfold at? at h
    split at h
    · assumption
    · cases h
  refine ⟨hg, ?_⟩
  have hlt : g.toNat < z + 1 := by
    have := (List.getElem?_eq_some_iff.1 (show (rg z us)[g.toNat]? = some v by unfold at? at h; rwa [if_pos hg] at h)).1
    rwa [rg_len] at this
  unfold at? rg cpyL at h
  rw [if_pos hg] at h
  by_cases h0 : 1 ≤ g
  · rw [if_pos h0]
    by_cases h1 : g.toNat - 1 < us.length
    · rw [List.getElem?_append_left (by simp; omega), List.getElem?_append_right (by simp; omega), List.getElem?_take_of_lt (by simp; omega)] at h
      have e : g.toNat - (List.take (1 : Int).toNat (List.replicate ((z : Int) + 1).toNat (0 : Int))).length = g.toNat - 1 := by simp
      rw [e] at h
      rw [h]; rfl
    · rw [List.getElem?_append_right (by simp; omega), List.getElem?_drop, List.getElem?_replicate] at h
      rw [List.getElem?_eq_none (by omega)]
      split at h
      · exact (Option.some.inj h).symm
      · cases h
  · obtain rfl : g = 0 := by omega
    rw [if_neg h0]
    rw [List.getElem?_append_left (by simp), List.getElem?_append_left (by simp), List.getElem?_take_of_lt (by simp), List.getElem?_replicate] at h
    split at h
    · exact (Option.some.inj h).symm
    · cases h
theorem ag_rg (z z' : Nat) (us : List Int) : Ag (rg z us) (rg z' us) := fun g v v' h h' => by
  rw [(rg_at h).2, (rg_at h').2]
theorem prog_t {l : List S45} {t : S45} (h8 : l.length ≤ 8) (hf : ∀ t ∈ l, Fewp t) (hp : okProg l = true) (ht : at? l 0 = some t) (ht0 : t.f0 = 0) : code_Program.f l = some true := by
  obtain ⟨b, b1, b2⟩ := prog_f h8 hf
  have h0 : code_Program.l0 l (l.length + 1) 0 = some (.inr ()) := by
    have : code_Program.l0 l (l.length + 1) 0 = some (if okProg l then .inr () else .inl false) := by
      refine loopd (xs := l) (F := fun n i => code_Program.l0 l n i) (P := fun ts f => f = some (if (ts.all fun t => okFn t l.length && (t.f1.all fun y => y.f0.all fun o => okCall l o)) then .inr () else .inl false)) (by omega) (fun n => by simp [code_Program.l0]) (fun n i t r hd hlt hat hm hw ih => ?_) (l.length + 1) (by omega)
      rw [code_Program.l0, if_pos hlt, hat, Option.bind_some, cright_f (by omega) (by omega) (hf t hm), Option.bind_some]
      cases hr : okFn t (l.length : Int) with
      | false => rw [if_pos (by simp)]; simp [hr]
      | true =>
        rw [if_neg (by simp), cprog_l1 (hf t hm) hr, Option.bind_some, hw]
        cases hc : (t.f1.all fun y => y.f0.all fun o => okCall l o) with
        | false => simp [hr, hc]
        | true =>
          simp only [if_true, List.all_cons, hr, hc, Bool.true_and]
          exact ih
    rw [this, if_pos hp]
  have hl : 1 ≤ (l.length : Int) ∧ (l.length : Int) ≤ 256 := by
    have : 0 < l.length := by
      cases l with
      | nil => cases ht
      | cons => simp
    omega
  unfold code_Program.f
  simp only [jn, within_f, Option.bind_some]
  rw [decide_eq_true hl, if_neg (by simp), ht, Option.bind_some, if_neg (by simp [ht0]), h0, Option.bind_some]
theorem run_t {l : List S45} {t : S45} (h8 : l.length ≤ 8) (hf : ∀ t ∈ l, Fewp t) (hp : okProg l = true) (ht : at? l 0 = some t) (ht0 : t.f0 = 0) {a1 a3 : Int} {a2 : List Int} (h1 : 1 ≤ a1) (h2 : a1 ≤ 4096) {v e : Int} {s' : Ts} (hs : Cf 100000 l a1 (ts0 a1 a2 a3) t [] = some (tv v e s')) : trace_Run.f l a1 a2 a3 = some (⟨s'.o, e, s'.ld, s'.st, s'.c⟩, 0) := by
  have hs' : trace_runner_call.f l (List.replicate a1.toNat (0 : Int)) 1 a1 a2 a3 0 ([] : List Int) 0 0 0 0 t ([] : List Int) = some (tv v e s') := hs
  unfold trace_Run.f
  simp only [jn]
  rw [if_neg (by omega), if_neg (by simp; omega), if_pos (by omega), prog_t h8 hf hp ht ht0, Option.bind_some, if_neg (by simp), ht, Option.bind_some, hs']; rfl
theorem run_z {m : List S45} (h8 : m.length ≤ 8) (hf : ∀ t ∈ m, Fewp t) {a1 a3 : Int} {a2 : List Int} (h1 : 1 ≤ a1) (h2 : a1 ≤ 4096) (h3 : 0 ≤ a3) (h4 : a3 ≤ 90000) : ∃ q, trace_Run.f m a1 a2 a3 = some q := by
  rcases run_f h8 hf with hr | ⟨hw, t, ht, ht0, hr⟩
  · exact ⟨_, hr a1 a2 a3 h1 h2⟩
  · obtain ⟨v, e, s', e1, e2, e3⟩ := (total hw (by omega) 100000).1 a3 (ts0 a1 a2 a3) t [] (iv0 (by omega) (by omega) (by omega)) h4 ht (by simp [ht0]) (by show 3 * (1000 - (0 : Int)) + 1 ≤ _; omega)
    exact ⟨_, hr a1 a2 a3 h1 h2 v e s' e1⟩
theorem small22 : swagelaw22_small.f = some true := by decide +kernel
/-- What is known, in its bounds. -/
structure Kf (k : Nat) (m : MqS) : Prop where
  n : m.1 ≤ k
  v : ∀ a v, m.2 a = some v → wfi v
theorem kf_delf {k : Nat} {m : MqS} (h : Kf k m) (p : Int × Int → Int → Bool) : Kf k (qdelf m p) := ⟨h.n, fun a v hv => by
  simp only [qdelf] at hv
  cases hm : m.2 a with
  | none => rw [hm] at hv; cases hv
  | some w =>
    rw [hm] at hv
    simp only at hv
    split at hv
    · cases hv
    · cases hv; exact h.v a _ hm⟩
theorem kf_clr {k : Nat} {m : MqS} (h : Kf k m) : Kf k (qclr m) := ⟨h.n, fun a v hv => by cases hv⟩
theorem kf_put {k : Nat} {m : MqS} (h : Kf k m) {a : Int × Int} {v : Int} (hv : wfi v) : Kf (k + 1) (qput m a v) := ⟨by have := h.n; show m.1 + 1 ≤ k + 1; omega, fun b w hw => by
  simp only [qput] at hw
  split at hw
  · cases hw; exact hv
  · exact h.v b w hw⟩
theorem kf_up {k : Nat} {m : MqS} (h : Kf k m) : Kf (k + 1) m := ⟨by have := h.n; omega, h.v⟩
theorem sets_t (o : S37) : ∃ s, code_Sets.f o = some s := by
  unfold code_Sets.f
  rw [shape_f, Option.bind_some]
  generalize (if o.f0 = 1 ∨ o.f0 = 6 ∨ o.f0 = 7 then _ else _ : S130 × Bool) = z
  by_cases h : (!z.1.f0) = true
  · exact ⟨_, if_pos h⟩
  · exact ⟨_, if_neg h⟩
/-- What is left ahead of what is learned. -/
def lm (m : MqS) (o : S37) (l : List Int) : MqS := if o.f0 = 7 then qclr m else if o.f0 = 5 then qdelf m (fun k _ => storedP o.f2 o.f4 l k) else m
theorem learn_e {k : Nat} {m : MqS} (h : Kf k m) (hk : k < 1000) {o : S37} {s : Int} (hs : code_Sets.f o = some s) (h1 : wfi o.f1) (h2 : wfi o.f2) (h3 : wfi o.f3) (h4 : wfi o.f4) (l : List Int) :
    ∃ q, forward_known_learn.f m o l = some q ∧ Kf (k + 1) q ∧ q = (if o.f0 = 5 then qput (qdelf (lm m o l) (fun k v => setP s k v)) (o.f2, o.f4) o.f3 else if o.f0 = 4 ∧ ¬ o.f1 = o.f2 then qput (qdelf (lm m o l) (fun k v => setP s k v)) (o.f2, o.f4) o.f1 else qdelf (lm m o l) (fun k v => setP s k v)) := by
  have hlm : Kf k (lm m o l) := by
    unfold lm
    split
    · exact kf_clr h
    · split
      · exact kf_delf h _
      · exact h
  have hd := kf_delf hlm (fun k v => setP s k v)
  have hn : (qdelf (lm m o l) (fun k v => setP s k v)).1 < 17592186044416 := by have := hd.n; omega
  have e : forward_known_learn.f m o l = (if o.f0 = 5 then some (qput (qdelf (lm m o l) (fun k v => setP s k v)) (o.f2, o.f4) o.f3) else if o.f0 = 4 ∧ ¬ o.f1 = o.f2 then some (qput (qdelf (lm m o l) (fun k v => setP s k v)) (o.f2, o.f4) o.f1) else some (qdelf (lm m o l) (fun k v => setP s k v))) := by
    unfold forward_known_learn.f forward_known_stored.f forward_known_set.f
    simp only [jn, hs, Option.bind_some]
    by_cases h7 : o.f0 = 7
    · simp [h7, lm]
    · by_cases h5 : o.f0 = 5
      · have hn' : (qdelf (qdelf m (fun k _ => storedP o.f2 o.f4 l k)) (fun k v => setP s k v)).1 < 17592186044416 := by simpa [lm, h5] using hn
        simp only [h5, lm]
        simp only [show ¬ ((5 : Int) = 7) by decide, if_false, if_true]
        rw [if_pos ⟨hn', ⟨h2, h4⟩, h3⟩]
      · by_cases h44 : o.f0 = 4
        · have hn' : (qdelf m (fun k v => setP s k v)).1 < 17592186044416 := by simpa [lm, h44] using hn
          simp only [h44, lm]
          simp only [show ¬ ((4 : Int) = 7) by decide, show ¬ ((4 : Int) = 5) by decide, if_false, if_true, true_and]
          by_cases hd : o.f1 = o.f2
          · rw [if_neg (by simp [hd]), if_neg (by simp [hd])]
          · rw [if_pos (by simp [hd]), if_pos ⟨hn', ⟨h2, h4⟩, h1⟩, if_pos hd]
        · simp [h7, h5, h44, lm]
  refine ⟨_, ?_, ?_, rfl⟩
  · rw [e]
    split
    · rfl
    · split <;> rfl
  · split
    · exact kf_put hd h3
    · split
      · exact kf_put hd h1
      · exact kf_up hd
/-- What an operation becomes. -/
def fq (m : MqS) (o : S37) : S37 := if qhas m (o.f2, o.f4) = true ∧ o.f0 = 4 then ⟨3, o.f1, qget m (o.f2, o.f4), 0, 0, []⟩ else o
theorem fq_wo {k : Nat} {m : MqS} (h : Kf k m) {o : S37} (ho : Wo o) : Wo (fq m o) := by
  unfold fq
  split
  · refine ⟨ho.f1, ?_, (by decide : wfi 0), (by decide : wfi 0), by simp, by simp⟩
    show wfi (qget m (o.f2, o.f4))
    unfold qget
    cases hm : m.2 (o.f2, o.f4) with
    | none => simp; decide
    | some v => simpa using h.v _ _ hm
  · exact ho
/-- A block's operations beside what they became. -/
def FW (l : List Int) : MqS → List S37 → List S37 → Prop
  | _, [], [] => True
  | m, o :: os, q :: qs => ∃ z s, q = fq m o ∧ code_Sets.f q = some s ∧ z = (if q.f0 = 5 then qput (qdelf (lm m q l) (fun k v => setP s k v)) (q.f2, q.f4) q.f3 else if q.f0 = 4 ∧ ¬ q.f1 = q.f2 then qput (qdelf (lm m q l) (fun k v => setP s k v)) (q.f2, q.f4) q.f1 else qdelf (lm m q l) (fun k v => setP s k v)) ∧ FW l z os qs
  | _, _, _ => False
theorem FW.len {l : List Int} : ∀ {m : MqS} {os qs : List S37}, FW l m os qs → qs.length = os.length
  | _, [], [], _ => rfl
  | _, o :: os, q :: qs, h => by obtain ⟨z, s, _, _, _, h⟩ := h; simp [FW.len h]
theorem block_fw {b : S42} (hl : b.f0.length ≤ 250) (hb : ∀ o ∈ b.f0, Wo o) (l : List Int) : ∃ q, forward_Block.f b l = some q ∧ q.f1 = b.f1 ∧ FW l qnil b.f0 q.f0 ∧ ∀ o ∈ q.f0, o.f5.length ≤ 20 := by
  have := loopd (xs := b.f0) (F := fun n i acc m => forward_Block.l0 b l n i acc m) (P := fun os f => ∀ (k : Nat) (acc : List S37) (m : MqS), Kf k m → k + os.length ≤ 900 → acc.length + os.length ≤ 900 → ∃ qs, f acc m = some (acc ++ qs) ∧ FW l m os qs ∧ ∀ o ∈ qs, o.f5.length ≤ 20) (by omega)
    (fun n k acc m h _ _ => ⟨[], by simp [forward_Block.l0], trivial, by simp⟩)
    (fun n i o os hd hlt hat hm hw ih k acc m h h1 h2 => by
      have ho := hb o hm
      have hq := fq_wo h ho
      simp only [List.length_cons] at h1 h2
      obtain ⟨s, hs⟩ := sets_t (fq m o)
      obtain ⟨z, z1, z2, z3⟩ := learn_e h (by omega) hs hq.f1 hq.f2 hq.f3 hq.f4 l
      obtain ⟨qs, e1, e2, e3⟩ := ih (k + 1) (acc ++ [fq m o]) z z2 (by omega) (by simp; omega)
      have e1' : forward_Block.l0 b l n ((i + 1 : Nat) : Int) (acc ++ [fq m o]) z = _ := e1
      refine ⟨fq m o :: qs, ?_, ⟨z, s, rfl, hs, z3, e2⟩, fun x hx => ?_⟩
      · show forward_Block.l0 b l (n + 1) i acc m = _
        rw [forward_Block.l0, if_pos hlt, hat, Option.bind_some, clone_i (by have := ho.len; omega), Option.bind_some, if_pos ⟨ho.f2, ho.f4⟩]
        simp only [jn]
        by_cases c : qhas m (o.f2, o.f4) = true ∧ o.f0 = 4
        · have hf : fq m o = ⟨3, o.f1, qget m (o.f2, o.f4), 0, 0, []⟩ := by unfold fq; rw [if_pos c]
          rw [hf] at z1 e1'
          rw [if_pos c.1, if_pos (by simpa using c.2), z1, Option.bind_some, if_pos (by omega), hw, e1', hf]
          simp
        · have hf : fq m o = o := by unfold fq; rw [if_neg c]
          rw [hf] at z1 e1'
          have hgo : ((if qhas m (o.f2, o.f4) = true then if decide (o.f0 = 4) = true then (forward_known_learn.f m (⟨3, o.f1, qget m (o.f2, o.f4), 0, 0, []⟩ : S37) l).bind fun (y543 : MqS) => (if acc.length < 2199023255552 then forward_Block.l0 b l n (IntKind.i64.wrap (i + 1)) (acc ++ [(⟨3, o.f1, qget m (o.f2, o.f4), 0, 0, []⟩ : S37)]) y543 else none) else (forward_known_learn.f m (⟨o.f0, o.f1, o.f2, o.f3, o.f4, o.f5⟩ : S37) l).bind fun (y543 : MqS) => (if acc.length < 2199023255552 then forward_Block.l0 b l n (IntKind.i64.wrap (i + 1)) (acc ++ [(⟨o.f0, o.f1, o.f2, o.f3, o.f4, o.f5⟩ : S37)]) y543 else none) else if false = true then (forward_known_learn.f m (⟨3, o.f1, qget m (o.f2, o.f4), 0, 0, []⟩ : S37) l).bind fun (y543 : MqS) => (if acc.length < 2199023255552 then forward_Block.l0 b l n (IntKind.i64.wrap (i + 1)) (acc ++ [(⟨3, o.f1, qget m (o.f2, o.f4), 0, 0, []⟩ : S37)]) y543 else none) else (forward_known_learn.f m (⟨o.f0, o.f1, o.f2, o.f3, o.f4, o.f5⟩ : S37) l).bind fun (y543 : MqS) => (if acc.length < 2199023255552 then forward_Block.l0 b l n (IntKind.i64.wrap (i + 1)) (acc ++ [(⟨o.f0, o.f1, o.f2, o.f3, o.f4, o.f5⟩ : S37)]) y543 else none)) : Option (List S37)) = (forward_known_learn.f m o l).bind fun (y543 : MqS) => (if acc.length < 2199023255552 then forward_Block.l0 b l n (IntKind.i64.wrap (i + 1)) (acc ++ [o]) y543 else none) := by
            by_cases c1 : qhas m (o.f2, o.f4) = true
            · rw [if_pos c1, if_neg (by simpa using fun h => c ⟨c1, h⟩)]
            · rw [if_neg c1, if_neg (by decide)]
          refine hgo.trans ?_
          rw [z1, Option.bind_some, if_pos (by omega), hw, e1', hf]
          simp
      · rcases List.mem_cons.1 hx with rfl | hx
        · exact hq.len
        · exact e3 x hx) (b.f0.length + 1) (by omega)
  obtain ⟨qs, e1, e2, e3⟩ := this 0 [] qnil ⟨Nat.le_refl _, fun a v hv => by cases hv⟩ (by omega) (by simp; omega)
  have e1' : forward_Block.l0 b l (b.f0.length + 1) 0 [] qnil = _ := e1
  unfold forward_Block.f
  rw [e1', Option.bind_some]
  exact ⟨_, rfl, rfl, by simpa using e2, by simpa using e3⟩
/-- A block beside what became of it. -/
def Fb (l : List Int) (b b' : S42) : Prop := b'.f1 = b.f1 ∧ FW l qnil b.f0 b'.f0
def Fbs (l : List Int) : List S42 → List S42 → Prop
  | [], [] => True
  | b :: bs, y :: ys => Fb l b y ∧ Fbs l bs ys
  | _, _ => False
theorem Fbs.len {l : List Int} : ∀ {xs ys : List S42}, Fbs l xs ys → ys.length = xs.length
  | [], [], _ => rfl
  | x :: xs, y :: ys, h => by simp [Fbs.len h.2]
theorem Fbs.get {l : List Int} {xs ys : List S42} {i : Nat} {x : S42} (h : Fbs l xs ys) (hx : xs[i]? = some x) : ∃ y, ys[i]? = some y ∧ Fb l x y := by
  induction xs generalizing ys i with
  | nil => simp at hx
  | cons z zs ih =>
    cases ys with
    | nil => exact h.elim
    | cons y ys =>
      cases i with
      | zero => simp at hx; subst hx; exact ⟨y, rfl, h.1⟩
      | succ i => simpa using ih h.2 (i := i) (by simpa using hx)
theorem Fbs.mem {l : List Int} : ∀ {xs ys : List S42}, Fbs l xs ys → ∀ y ∈ ys, ∃ x ∈ xs, Fb l x y
  | [], [], _, _, hz => by cases hz
  | x :: xs, y :: ys, h, z, hz => by
    rcases List.mem_cons.1 hz with rfl | hz
    · exact ⟨x, List.mem_cons_self, h.1⟩
    · obtain ⟨w, w1, w2⟩ := Fbs.mem h.2 z hz
      exact ⟨w, List.mem_cons_of_mem _ w1, w2⟩
theorem Fbs.ops {l : List Int} : ∀ {xs ys : List S42}, Fbs l xs ys → opsN ys = opsN xs
  | [], [], _ => rfl
  | x :: xs, y :: ys, h => by
    have h1 := Fbs.ops h.2
    have h2 := FW.len h.1.2
    simp only [opsN, List.map_cons, List.sum_cons] at h1 ⊢
    rw [h1, h2]
theorem func_fw {f : S45} (hf : Fewp f) (h : ok45 f) (l : List Int) : ∃ q, forward_Func.f f l = some q ∧ q.f0 = f.f0 ∧ Fbs l f.f1 q.f1 ∧ Fewp q := by
  obtain ⟨f1, f2, f3⟩ := hf
  have hc : slices_Clone_api_Block_api_Block.f f.f1 = some f.f1 := by unfold slices_Clone_api_Block_api_Block.f; rw [if_pos (by simp; omega)]; simp
  have := loopd (xs := f.f1) (F := fun n i w => forward_Func.l0 l f.f1 n w i) (P := fun bs g => ∀ pre : List S42, pre.length + bs.length = f.f1.length → ∃ r, g (pre ++ bs) = some (pre ++ r) ∧ Fbs l bs r ∧ ∀ y ∈ r, ∀ o ∈ y.f0, o.f5.length ≤ 20) (by omega)
    (fun n pre h => ⟨[], by simp [forward_Func.l0], trivial, by simp⟩)
    (fun n i b bs hd hlt hat hm hw ih pre hp => by
      obtain ⟨y, y1, y2, y3, y4⟩ := block_fw (f3 b hm).1 (fun o ho => wo_of ((h.2.2 b hm).1.2 o ho) ((f3 b hm).2 o ho)) l
      have hi : pre.length = i := by
        have := congrArg List.length hd
        rw [List.length_drop] at this
        simp only [List.length_cons] at this hp
        omega
      have hg : at? (pre ++ b :: bs) (i : Int) = some b := by
        unfold at?; rw [if_pos (by omega), Int.toNat_natCast, ← hi]; simp
      obtain ⟨r, r1, r2, r3⟩ := ih (pre ++ [y]) (by simp at hp ⊢; omega)
      refine ⟨y :: r, ?_, ⟨⟨y2, y3⟩, r2⟩, fun c hc o ho => ?_⟩
      · show forward_Func.l0 l f.f1 (n + 1) (pre ++ b :: bs) i = _
        rw [forward_Func.l0, if_pos hlt, hg, Option.bind_some, y1, Option.bind_some, Option.bind_some, Int.toNat_natCast, hw]
        have hset : (pre ++ b :: bs).set i y = pre ++ [y] ++ bs := by rw [← hi]; simp
        rw [hset]
        have r1' : forward_Func.l0 l f.f1 n (pre ++ [y] ++ bs) ((i + 1 : Nat) : Int) = _ := r1
        rw [r1']; simp
      · rcases List.mem_cons.1 hc with rfl | hc
        · exact y4 o ho
        · exact r3 c hc o ho) (f.f1.length + 1) (by omega)
  obtain ⟨r, r1, r2, r3⟩ := this [] (by simp)
  have r1' : forward_Func.l0 l f.f1 (f.f1.length + 1) f.f1 0 = some r := by simpa using r1
  unfold forward_Func.f
  rw [hc, Option.bind_some, r1', Option.bind_some]
  have hlen := r2.len
  refine ⟨_, rfl, rfl, r2, by show r.length ≤ 40; omega, by show opsN r ≤ 250; rw [r2.ops]; exact f2, fun y hy => ⟨?_, r3 y hy⟩⟩
  obtain ⟨x, x1, x2⟩ := r2.mem y hy
  rw [FW.len x2.2]
  exact (f3 x x1).1
/-! #### Right ones -/
theorem fw_mem {l : List Int} {m z : MqS} {q : S37} {s : Int} (hz : z = (if q.f0 = 5 then qput (qdelf (lm m q l) (fun k v => setP s k v)) (q.f2, q.f4) q.f3 else if q.f0 = 4 ∧ ¬ q.f1 = q.f2 then qput (qdelf (lm m q l) (fun k v => setP s k v)) (q.f2, q.f4) q.f1 else qdelf (lm m q l) (fun k v => setP s k v))) {a : Int × Int} {v : Int} (h : z.2 a = some v) :
    (q.f0 = 5 ∧ a = (q.f2, q.f4) ∧ v = q.f3) ∨ (q.f0 = 4 ∧ ¬ q.f1 = q.f2 ∧ a = (q.f2, q.f4) ∧ v = q.f1) ∨ (m.2 a = some v ∧ ¬ q.f0 = 7 ∧ (q.f0 = 5 → storedP q.f2 q.f4 l a = false) ∧ setP s a v = false) := by
  have old : (qdelf (lm m q l) (fun k v => setP s k v)).2 a = some v → (m.2 a = some v ∧ ¬ q.f0 = 7 ∧ (q.f0 = 5 → storedP q.f2 q.f4 l a = false) ∧ setP s a v = false) := by
    intro h
    simp only [qdelf] at h
    have h1 : (lm m q l).2 a = some v ∧ setP s a v = false := by
      cases hm : (lm m q l).2 a with
      | none => rw [hm] at h; cases h
      | some w =>
        rw [hm] at h
        simp only at h
        split at h
        · cases h
        · rename_i hn
          cases h; exact ⟨rfl, by simpa using hn⟩
    obtain ⟨h1, h2⟩ := h1
    unfold lm at h1
    split at h1
    · cases h1
    · rename_i h7
      split at h1
      · rename_i h5
        simp only [qdelf] at h1
        cases hm : m.2 a with
        | none => rw [hm] at h1; cases h1
        | some w =>
          rw [hm] at h1
          simp only at h1
          split at h1
          · cases h1
          · rename_i hn
            cases h1; exact ⟨rfl, h7, fun _ => by simpa using hn, h2⟩
      · rename_i h5
        exact ⟨h1, h7, fun h => absurd h h5, h2⟩
  subst hz
  split at h
  · rename_i h5
    simp only [qput] at h
    split at h
    · rename_i ha
      cases h; exact .inl ⟨h5, ha, rfl⟩
    · exact .inr (.inr (old h))
  · split at h
    · rename_i h4
      simp only [qput] at h
      split at h
      · rename_i ha
        cases h; exact .inr (.inl ⟨h4.1, h4.2, ha, rfl⟩)
      · exact .inr (.inr (old h))
    · exact .inr (.inr (old h))
/-- What is known names registers. -/
def Kg (m : MqS) : Prop := ∀ a v, m.2 a = some v → Rg v
/-- An operation beside what became of it. -/
def Rw (o q : S37) : Prop := q = o ∨ (o.f0 = 4 ∧ ∃ v, Rg v ∧ q = ⟨3, o.f1, v, 0, 0, []⟩)
theorem ok_ls {o : S37} {k : Int} (h : okOp o k = true) : (o.f0 = 5 → Rg o.f3 ∧ o.f1 = 0) ∧ (o.f0 = 4 → Rg o.f1) ∧ (o.f0 = 4 ∨ o.f0 = 5 → Rg o.f2 ∧ -2147483648 ≤ o.f4 ∧ o.f4 ≤ 2147483647) := by
  unfold okOp at h
  by_cases h4 : o.f0 = 4
  · simp only [h4] at h ⊢
    simp at h
    exact ⟨fun h => by omega, fun _ => by omega, fun _ => by omega⟩
  · by_cases h5 : o.f0 = 5
    · simp only [h5] at h ⊢
      simp at h
      exact ⟨fun _ => by omega, fun h => by omega, fun _ => by omega⟩
    · exact ⟨fun h => absurd h h5, fun h => absurd h h4, fun h => by omega⟩
theorem rw_ok {m : MqS} (hK : Kg m) {o : S37} {k : Int} (hok : okOp o k = true) : Rw o (fq m o) ∧ okOp (fq m o) k = true := by
  unfold fq
  split
  · rename_i c
    have hv : Rg (qget m (o.f2, o.f4)) := by
      have := c.1
      unfold qhas at this
      unfold qget
      cases hm : m.2 (o.f2, o.f4) with
      | none => rw [hm] at this; cases this
      | some v => simpa using hK _ _ hm
    have h1 := (ok_ls hok).2.1 c.2
    refine ⟨.inr ⟨c.2, _, hv, rfl⟩, ?_⟩
    simp [okOp]; omega
  · exact ⟨.inl rfl, hok⟩
theorem kg_step {l : List Int} {m z : MqS} {q : S37} {s k : Int} (hK : Kg m) (hok : okOp q k = true) (hz : z = (if q.f0 = 5 then qput (qdelf (lm m q l) (fun k v => setP s k v)) (q.f2, q.f4) q.f3 else if q.f0 = 4 ∧ ¬ q.f1 = q.f2 then qput (qdelf (lm m q l) (fun k v => setP s k v)) (q.f2, q.f4) q.f1 else qdelf (lm m q l) (fun k v => setP s k v))) : Kg z := by
  intro a v h
  obtain ⟨h1, h2, _⟩ := ok_ls hok
  rcases fw_mem hz h with ⟨h5, _, rfl⟩ | ⟨h4, _, _, rfl⟩ | ⟨h, _⟩
  · exact (h1 h5).1
  · exact h2 h4
  · exact hK a v h
theorem fw_ok {l : List Int} {k : Int} : ∀ {os qs : List S37} {m : MqS}, FW l m os qs → Kg m → (∀ o ∈ os, okOp o k = true) → (∀ (i : Nat) (o : S37), os[i]? = some o → ∃ q, qs[i]? = some q ∧ Rw o q ∧ okOp q k = true) ∧ ∀ q ∈ qs, ∃ o ∈ os, Rw o q ∧ okOp q k = true
  | [], [], _, _, _, _ => ⟨fun i o h => by simp at h, fun q hq => by cases hq⟩
  | o :: os, q :: qs, m, h, hK, hok => by
    obtain ⟨z, s, rfl, hs, hz, h⟩ := h
    obtain ⟨h1, h2⟩ := rw_ok hK (hok o List.mem_cons_self)
    obtain ⟨i1, i2⟩ := fw_ok h (kg_step hK h2 hz) (fun o ho => hok o (List.mem_cons_of_mem _ ho))
    refine ⟨fun i x hx => ?_, fun x hx => ?_⟩
    · cases i with
      | zero => simp at hx; subst hx; exact ⟨_, rfl, h1, h2⟩
      | succ i => simpa using i1 i x (by simpa using hx)
    · rcases List.mem_cons.1 hx with rfl | hx
      · exact ⟨o, List.mem_cons_self, h1, h2⟩
      · obtain ⟨y, y1, y2⟩ := i2 x hx
        exact ⟨y, List.mem_cons_of_mem _ y1, y2⟩
def Fv : List S45 → List S45 → Prop
  | [], [] => True
  | x :: xs, y :: ys => forward_Func.f x [] = some y ∧ Fv xs ys
  | _, _ => False
theorem Fv.len : ∀ {xs ys : List S45}, Fv xs ys → ys.length = xs.length
  | [], [], _ => rfl
  | x :: xs, y :: ys, h => by simp [Fv.len h.2]
theorem Fv.get {xs ys : List S45} {i : Nat} {x : S45} (h : Fv xs ys) (hx : xs[i]? = some x) : ∃ y, ys[i]? = some y ∧ forward_Func.f x [] = some y := by
  induction xs generalizing ys i with
  | nil => simp at hx
  | cons z zs ih =>
    cases ys with
    | nil => exact h.elim
    | cons y ys =>
      cases i with
      | zero => simp at hx; subst hx; exact ⟨y, rfl, h.1⟩
      | succ i => simpa using ih h.2 (i := i) (by simpa using hx)
theorem Fv.mem : ∀ {xs ys : List S45}, Fv xs ys → ∀ y ∈ ys, ∃ x ∈ xs, forward_Func.f x [] = some y
  | [], [], _, _, hz => by cases hz
  | x :: xs, y :: ys, h, z, hz => by
    rcases List.mem_cons.1 hz with rfl | hz
    · exact ⟨x, List.mem_cons_self, h.1⟩
    · obtain ⟨w, w1, w2⟩ := Fv.mem h.2 z hz
      exact ⟨w, List.mem_cons_of_mem _ w1, w2⟩
theorem fvs_t {l : List S45} (h8 : l.length ≤ 8) (hf : ∀ t ∈ l, Fewp t) (h : ∀ t ∈ l, ok45 t) : ∃ m, swagelaw22_ForwardRuns.l0 l (l.length + 1) [] 0 = some m ∧ Fv l m := by
  have := loopd (xs := l) (F := fun n i w => swagelaw22_ForwardRuns.l0 l n w i) (P := fun ts g => ∀ acc : List S45, acc.length + ts.length ≤ 100 → ∃ m, g acc = some (acc ++ m) ∧ Fv ts m) (by omega)
    (fun n acc h => ⟨[], by simp [swagelaw22_ForwardRuns.l0], trivial⟩)
    (fun n i t ts hd hlt hat hm hw ih acc hp => by
      obtain ⟨q, q1, _⟩ := func_fw (hf t hm) (h t hm) []
      simp only [List.length_cons] at hp
      obtain ⟨m, m1, m2⟩ := ih (acc ++ [q]) (by simp; omega)
      refine ⟨q :: m, ?_, q1, m2⟩
      show swagelaw22_ForwardRuns.l0 l (n + 1) acc i = _
      rw [swagelaw22_ForwardRuns.l0, if_pos hlt, hat, Option.bind_some, q1, Option.bind_some, if_pos (by omega), hw]
      have m1' : swagelaw22_ForwardRuns.l0 l n (acc ++ [q]) ((i + 1 : Nat) : Int) = _ := m1
      rw [m1']; simp) (l.length + 1) (by omega)
  obtain ⟨m, m1, m2⟩ := this [] (by simp; omega)
  exact ⟨m, by simpa using m1, m2⟩
theorem fn_fw {x y : S45} {k : Int} (hf : Fewp x) (hw : ok45 x) (hok : okFn x k = true) (hy : forward_Func.f x [] = some y) : Fewp y ∧ okFn y k = true ∧ y.f0 = x.f0 ∧ Fbs [] x.f1 y.f1 := by
  obtain ⟨q, y1, y2, y3, y4⟩ := func_fw hf hw []
  obtain rfl := Option.some.inj (y1.symm.trans hy)
  have hlen := y3.len
  unfold okFn at hok
  simp only [Bool.and_eq_true, decide_eq_true_eq, List.all_eq_true] at hok
  obtain ⟨⟨⟨r1, r2⟩, r3⟩, r4⟩ := hok
  refine ⟨y4, ?_, y2, y3⟩
  unfold okFn
  simp only [Bool.and_eq_true, decide_eq_true_eq, List.all_eq_true]
  refine ⟨⟨⟨by omega, by omega⟩, fun z hz => ?_⟩, fun z hz o ho => ?_⟩
  · obtain ⟨w, w1, w2⟩ := y3.mem z hz
    rw [hlen, w2.1]; exact r3 w w1
  · obtain ⟨w, w1, w2⟩ := y3.mem z hz
    obtain ⟨p, p1, p2, p3⟩ := (fw_ok w2.2 (fun a v h => by cases h) (r4 w w1)).2 o ho
    exact p3
theorem prog_fv {l m : List S45} (h8 : l.length ≤ 8) (hf : ∀ t ∈ l, Fewp t) (hw : ∀ t ∈ l, ok45 t) (hp : okProg l = true) (hF : Fv l m) : okProg m = true := by
  have hlen := hF.len
  have hk : ∀ t ∈ l, okFn t l.length = true ∧ (∀ y ∈ t.f1, ∀ o ∈ y.f0, okCall l o = true) := fun t ht => by
    have := List.all_eq_true.1 hp t ht
    obtain ⟨h1, h2⟩ := (Bool.and_eq_true _ _).mp this
    exact ⟨h1, fun y hy o ho => List.all_eq_true.1 (List.all_eq_true.1 h2 y hy) o ho⟩
  unfold okProg
  rw [List.all_eq_true]
  intro y hy
  obtain ⟨x, x1, x2⟩ := hF.mem y hy
  obtain ⟨g1, g2, g3, g4⟩ := fn_fw (hf x x1) (hw x x1) (hk x x1).1 x2
  rw [Bool.and_eq_true]
  refine ⟨by rw [hlen]; exact g2, ?_⟩
  rw [List.all_eq_true]
  intro z hz
  rw [List.all_eq_true]
  intro o ho
  obtain ⟨w, w1, w2⟩ := g4.mem z hz
  have hokx := (hk x x1).1
  unfold okFn at hokx
  simp only [Bool.and_eq_true, decide_eq_true_eq, List.all_eq_true] at hokx
  obtain ⟨p, p1, p2, p3⟩ := (fw_ok w2.2 (fun a v h => by cases h) (hokx.2 w w1)).2 o ho
  have hcl := (hk x x1).2 w w1 p p1
  unfold okCall at hcl ⊢
  by_cases h7 : o.f0 = 7
  · rw [if_pos h7]
    have hop : o = p := by
      rcases p2 with rfl | ⟨h4, v, _, rfl⟩
      · rfl
      · simp at h7
    subst hop
    rw [if_pos h7] at hcl
    cases hg : at? l o.f4 with
    | none => rw [hg] at hcl; cases hcl
    | some g =>
      rw [hg] at hcl
      have hcl' : (o.f5.length : Int) = g.f0 := of_decide_eq_true hcl
      have h0 : 0 ≤ o.f4 := by
        unfold at? at hg
        split at hg
        · assumption
        · cases hg
      have e4 : ((o.f4.toNat : Nat) : Int) = o.f4 := by omega
      rw [← e4] at hg ⊢
      obtain ⟨g', q1, q2⟩ := hF.get (at_nat.1 hg)
      rw [at_nat.2 q1]
      have hgm := List.mem_of_getElem? (at_nat.1 hg)
      obtain ⟨_, _, q3, _⟩ := fn_fw (hf g hgm) (hw g hgm) (hk g hgm).1 q2
      exact decide_eq_true (by rw [q3]; exact hcl')
  · rw [if_neg h7]
abbrev Wa (a imm : Int) : Int := IntKind.i64.wrap (a + imm)
abbrev Bi (imm : Int) : Prop := -2147483648 ≤ imm ∧ imm ≤ 2147483647
theorem wa_ne {a i j : Int} (hi : Bi i) (hj : Bi j) (h : ¬ i = j) : ¬ Wa a i = Wa a j := by
  unfold Wa
  rw [IntKind.wrap_i64, IntKind.wrap_i64]
  obtain ⟨h1, h2⟩ := hi
  obtain ⟨h3, h4⟩ := hj
  omega
/-- What is known of cells is so. -/
def Km (r : List Int) (s : Ts) (m : MqS) : Prop := ∀ b imm held, m.2 (b, imm) = some held → Bi imm ∧ ∃ a v, at? r b = some a ∧ at? r held = some v ∧ 1 ≤ Wa a imm ∧ Wa a imm < s.h ∧ at? s.m (Wa a imm) = some v
theorem km_nil (r : List Int) (s : Ts) : Km r s qnil := fun b imm held h => by cases h
theorem km_step {l : List Int} {m z : MqS} {q : S37} {r : List Int} {s s' : Ts} {v : Int} (hK : Km r s m) (hz : z = (if q.f0 = 5 then qput (qdelf (lm m q []) (fun k v => setP q.f1 k v)) (q.f2, q.f4) q.f3 else if q.f0 = 4 ∧ ¬ q.f1 = q.f2 then qput (qdelf (lm m q []) (fun k v => setP q.f1 k v)) (q.f2, q.f4) q.f1 else qdelf (lm m q []) (fun k v => setP q.f1 k v)))
    (h0 : 0 ≤ q.f1) (h1 : q.f1 < (r.length : Int))
    (hmem : ∀ b imm held a, m.2 (b, imm) = some held → at? r b = some a → ¬ q.f0 = 7 → (q.f0 = 5 → b = q.f2 ∧ ¬ imm = q.f4) → 1 ≤ Wa a imm → Wa a imm < s.h → Wa a imm < s'.h ∧ at? s'.m (Wa a imm) = at? s.m (Wa a imm))
    (h5 : q.f0 = 5 → q.f1 = 0 ∧ Bi q.f4 ∧ ∃ a w, at? r q.f2 = some a ∧ at? r q.f3 = some w ∧ 1 ≤ Wa a q.f4 ∧ Wa a q.f4 < s'.h ∧ at? s'.m (Wa a q.f4) = some w)
    (h4 : q.f0 = 4 → ¬ q.f1 = 0 ∧ Bi q.f4 ∧ ∃ a, at? r q.f2 = some a ∧ 1 ≤ Wa a q.f4 ∧ Wa a q.f4 < s'.h ∧ at? s'.m (Wa a q.f4) = some v) :
    Km (if q.f1 = 0 then r else r.set q.f1.toNat v) s' z := by
  intro b imm held h
  rcases fw_mem hz h with ⟨k5, e, rfl⟩ | ⟨k4, hne, e, rfl⟩ | ⟨hm, k7, k5, ks⟩
  · obtain ⟨rfl, rfl⟩ := Prod.mk.inj e
    obtain ⟨g1, g2, a, w, g3, g4, g5, g6, g7⟩ := h5 k5
    rw [if_pos g1]
    exact ⟨g2, a, w, g3, g4, g5, g6, g7⟩
  · obtain ⟨rfl, rfl⟩ := Prod.mk.inj e
    obtain ⟨g1, g2, a, g3, g5, g6, g7⟩ := h4 k4
    rw [if_neg g1]
    refine ⟨g2, a, v, ?_, ?_, g5, g6, g7⟩
    · rw [at_set h0 h1, if_neg (fun h => hne h.symm)]; exact g3
    · rw [at_set h0 h1, if_pos rfl]
  · obtain ⟨hb, a, w, g3, g4, g5, g6, g7⟩ := hK b imm held hm
    obtain ⟨n1, n2⟩ := hmem b imm held a hm g3 k7 (fun h5' => by
      have := k5 h5'
      unfold storedP apartB at this
      have hp : partB [] q.f2 = 0 := by unfold partB; split; rfl; simp [at?]
      simp [hp] at this
      exact this) g5 g6
    refine ⟨hb, a, w, ?_, ?_, g5, n1, by rw [n2]; exact g7⟩
    · by_cases hd : q.f1 = 0
      · rw [if_pos hd]; exact g3
      · rw [if_neg hd, at_set h0 h1]
        unfold setP at ks
        simp [hd] at ks
        rw [if_neg ks.1]; exact g3
    · by_cases hd : q.f1 = 0
      · rw [if_pos hd]; exact g4
      · rw [if_neg hd, at_set h0 h1]
        unfold setP at ks
        simp [hd] at ks
        rw [if_neg ks.2]; exact g4
/-- Two runners alike, but for how often they loaded. -/
structure Rs (s u : Ts) : Prop where
  m : u.m = s.m
  h : u.h = s.h
  i : u.i = s.i
  f : u.f = s.f
  d : u.d = s.d
  o : u.o = s.o
  st : u.st = s.st
  c : u.c = s.c
  ld : u.ld ≤ s.ld
theorem load_ok {m : List Int} {h fl a v : Int} (hm : (m.length : Int) = fl) (h2 : h ≤ fl) (hv : memory_Memory_Load.f m h fl a = some (v, 0)) : 1 ≤ a ∧ a < h ∧ at? m a = some v := by
  unfold memory_Memory_Load.f at hv
  rw [there_eq hm h2, Option.bind_some] at hv
  by_cases hc : 1 ≤ a ∧ a < h
  · rw [decide_eq_true hc] at hv
    cases hy : at? m a with
    | none => simp [hy] at hv
    | some y => simp [hy] at hv; exact ⟨hc.1, hc.2, by rw [hv]⟩
  · rw [decide_eq_false hc] at hv
    simp at hv
theorem load_yes {m : List Int} {h fl a v : Int} (hm : (m.length : Int) = fl) (h2 : h ≤ fl) (h3 : 1 ≤ a) (h4 : a < h) (hv : at? m a = some v) : memory_Memory_Load.f m h fl a = some (v, 0) := by
  unfold memory_Memory_Load.f
  rw [there_eq hm h2, Option.bind_some, decide_eq_true ⟨h3, h4⟩]
  simp [hv]
theorem store_ok {m m' : List Int} {h fl a v : Int} (hm : (m.length : Int) = fl) (h2 : h ≤ fl) (hv : memory_Memory_Store.f m h fl a v = some (0, m')) : 1 ≤ a ∧ a < h ∧ m' = m.set a.toNat v := by
  unfold memory_Memory_Store.f at hv
  rw [there_eq hm h2, Option.bind_some] at hv
  by_cases hc : 1 ≤ a ∧ a < h
  · rw [decide_eq_true hc] at hv
    cases hy : at? m a with
    | none => simp [hy] at hv
    | some y => simp [hy] at hv; exact ⟨hc.1, hc.2, hv.symm⟩
  · rw [decide_eq_false hc] at hv
    simp at hv
def CallW (l m : List S45) (fl : Int) (n : Nat) : Prop := ∀ B s u t t' us, Iv B fl s → Iv B fl u → Rs s u → B ≤ 90000 → t ∈ l → t' ∈ m → forward_Func.f t [] = some t' → (us.length : Int) = t.f0 → 3 * (1000 - s.d) + 1 ≤ (n : Int) → ∃ v e s' u', Cf n l fl s t us = some (tv v e s') ∧ Cf n m fl u t' us = some (tv v e u') ∧ Iv B fl s' ∧ Iv B fl u' ∧ Gs 0 s s' ∧ Rs s' u'
def ValueW (l m : List S45) (fl : Int) (n : Nat) : Prop := ∀ B s u (z z' : Nat) o q r r' (kn kz : MqS), Iv B fl s → Iv B fl u → Rs s u → B ≤ 90000 → Oz z o → Oc l o → Oz z' q → Oc m q → r.length = z + 1 → r'.length = z' + 1 → Ag r r' → Km r s kn → okOp o 256 = true → okOp q 256 = true → q = fq kn o →
  kz = (if q.f0 = 5 then qput (qdelf (lm kn q []) (fun k v => setP q.f1 k v)) (q.f2, q.f4) q.f3 else if q.f0 = 4 ∧ ¬ q.f1 = q.f2 then qput (qdelf (lm kn q []) (fun k v => setP q.f1 k v)) (q.f2, q.f4) q.f1 else qdelf (lm kn q []) (fun k v => setP q.f1 k v)) →
  3 * (1000 - s.d) + 2 ≤ (n : Int) → ∃ v e s' u', Vf n l fl s o r = some (tv v e s') ∧ Vf n m fl u q r' = some (tv v e u') ∧ Iv (B + 1) fl s' ∧ Iv (B + 1) fl u' ∧ Gs 1 s s' ∧ Rs s' u' ∧ (e = 0 → Km (if o.f1 = 0 then r else r.set o.f1.toNat v) s' kz)
/-- Programs side by side. -/
structure Pw (l m : List S45) : Prop where
  ll : l.length ≤ 1000
  lm : m.length ≤ 1000
  wl : Wp l
  wm : Wp m
  fn : ∀ i g, at? l i = some g → ∃ g', at? m i = some g' ∧ forward_Func.f g [] = some g'
theorem wadd {n : Int} (h0 : 0 ≤ n) (h1 : n ≤ 100000) : IntKind.i64.wrap (n + 1) = n + 1 := w64 (by omega) (by omega)
theorem value_w {l m : List S45} {fl : Int} {n : Nat} (hQ : Pw l m) (hc : CallP l fl n) (hc' : CallP m fl n) (hR : CallW l m fl n) : ValueW l m fl (n + 1) := by
  intro B s u z z' o q r r' kn kz hI hJ hS hB ho hoc hq hqc hr hr' hA hK hok hok' hfq hkz hn
  have hlr : (r.length : Int) = z + 1 := by omega
  have hlr' : (r'.length : Int) = z' + 1 := by omega
  obtain ⟨v, e, s', t1, t2, t3⟩ := value_step hc hQ.ll B s z o r hI hB ho hoc hr hn
  obtain ⟨v', e', u', p1, p2, p3⟩ := value_step hc' hQ.lm B u z' q r' hJ hB hq hqc hr' (by rw [hS.d]; exact hn)
  have hd0 := dst0 ho.ro
  have hdz := ho.dst
  have i2 := hI.ld0; have i4 := hI.pot; have i3 := hI.st0; have i1 := hI.f0
  have j2 := hJ.ld0; have j4 := hJ.pot; have j3 := hJ.st0; have j1 := hJ.f0
  have hml := hI.ml; have hh2 := hI.h2
  have hml' := hJ.ml; have hh2' := hJ.h2
  have hro := ho.ro
  by_cases hmv : qhas kn (o.f2, o.f4) = true ∧ o.f0 = 4
  · -- a load that is known
    have hqe : q = ⟨3, o.f1, qget kn (o.f2, o.f4), 0, 0, []⟩ := by rw [hfq]; unfold fq; rw [if_pos hmv]
    obtain ⟨held, hh⟩ : ∃ held, kn.2 (o.f2, o.f4) = some held := by
      have := hmv.1
      unfold qhas at this
      cases hm : kn.2 (o.f2, o.f4) with
      | none => rw [hm] at this; cases this
      | some w => exact ⟨w, rfl⟩
    have hget : qget kn (o.f2, o.f4) = held := by unfold qget; rw [hh]; rfl
    obtain ⟨_, a, w, g1, g2, g3, g4, g5⟩ := hK _ _ _ hh
    have hx := load_yes hml hh2 g3 g4 g5
    have e1 := v4 (n := n) (l := l) (fl := fl) (s := s) hmv.2 g1 hx
    obtain ⟨rfl, rfl, rfl⟩ := tv_inj ((e1).symm.trans t1)
    have hq3 : q.f0 = 3 := by rw [hqe]
    have hq2 : q.f2 = held := by rw [hqe]; exact hget
    have hq1 : q.f1 = o.f1 := by rw [hqe]
    have hb := oz2 hq (.inr (.inl hq3))
    rw [hq2] at hb
    have e2 := v3 (n := n) (l := m) (fl := fl) (s := u) hq3 (by rw [hq2]; exact ag_at hA g2 hb.1 (by omega))
    obtain ⟨rfl, rfl, rfl⟩ := tv_inj ((e2).symm.trans p1)
    refine ⟨_, _, _, _, t1, p1, t2, p2, t3, { hS with ld := by show u.ld ≤ IntKind.i64.wrap (s.ld + 1); rw [wadd i2 (by omega)]; have := hS.ld; omega }, fun _ => ?_⟩
    have := km_step (l := []) (s' := { s with ld := IntKind.i64.wrap (s.ld + 1) }) (v := w) hK hkz (by omega) (by omega) (fun b imm held a _ _ _ _ _ h => ⟨h, rfl⟩) (fun h => by omega) (fun h => by omega)
    rw [hq1] at this
    exact this
  · have hqo : q = o := by rw [hfq]; unfold fq; rw [if_neg hmv]
    subst hqo
    have same : ∀ (s' : Ts), s'.m = s.m → s'.h = s.h → ¬ q.f0 = 5 → ¬ q.f0 = 4 → Km (if q.f1 = 0 then r else r.set q.f1.toNat v) s' kz := fun s' e1 e2 n5 n4 =>
      km_step (l := []) hK hkz hd0 (by omega) (fun b imm held a _ _ _ _ _ h => ⟨by rw [e2]; exact h, by rw [e1]⟩) (fun h => absurd h n5) (fun h => absurd h n4)
    unfold Ro at hro
    rcases hro with h | h | h | h | h | h | h | h | h
    · obtain ⟨rfl, rfl, rfl⟩ := tv_inj ((v1 h.1).symm.trans t1)
      obtain ⟨rfl, rfl, rfl⟩ := tv_inj ((v1 h.1).symm.trans p1)
      exact ⟨_, _, _, _, t1, p1, t2, p2, t3, hS, fun _ => same s rfl rfl (by omega) (by omega)⟩
    · have b1 := oz2 ho (.inl h.1); have b2 := oz3 ho (.inl h.1); have b1' := oz2 hq (.inl h.1); have b2' := oz3 hq (.inl h.1)
      obtain ⟨y, hy⟩ := at_ok (r := r) (i := q.f2) b1.1 (by omega)
      obtain ⟨w, hw⟩ := at_ok (r := r) (i := q.f3) b2.1 (by omega)
      obtain ⟨k, e0, hk⟩ := do_f q.f4 y w
      obtain ⟨rfl, rfl, rfl⟩ := tv_inj ((v2 h.1 hy hw hk).symm.trans t1)
      obtain ⟨rfl, rfl, rfl⟩ := tv_inj ((v2 h.1 (ag_at hA hy b1'.1 (by omega)) (ag_at hA hw b2'.1 (by omega)) hk).symm.trans p1)
      exact ⟨_, _, _, _, t1, p1, t2, p2, t3, hS, fun _ => same s rfl rfl (by omega) (by omega)⟩
    · have b1 := oz2 ho (.inr (.inl h.1)); have b1' := oz2 hq (.inr (.inl h.1))
      obtain ⟨y, hy⟩ := at_ok (r := r) (i := q.f2) b1.1 (by omega)
      obtain ⟨rfl, rfl, rfl⟩ := tv_inj ((v3 h.1 hy).symm.trans t1)
      obtain ⟨rfl, rfl, rfl⟩ := tv_inj ((v3 h.1 (ag_at hA hy b1'.1 (by omega))).symm.trans p1)
      exact ⟨_, _, _, _, t1, p1, t2, p2, t3, hS, fun _ => same s rfl rfl (by omega) (by omega)⟩
    · have b1 := oz2 ho (.inr (.inr (.inl h.1))); have b1' := oz2 hq (.inr (.inr (.inl h.1)))
      obtain ⟨y, hy⟩ := at_ok (r := r) (i := q.f2) b1.1 (by omega)
      obtain ⟨x, g, hx⟩ := load_f hI (Wa y q.f4)
      obtain ⟨rfl, rfl, rfl⟩ := tv_inj ((v4 h.1 hy hx).symm.trans t1)
      obtain ⟨rfl, rfl, rfl⟩ := tv_inj ((v4 h.1 (ag_at hA hy b1'.1 (by omega)) (by rw [hS.m, hS.h]; exact hx)).symm.trans p1)
      refine ⟨_, _, _, _, t1, p1, t2, p2, t3, { hS with ld := ?_ }, fun he => ?_⟩
      · show (if g = 0 then IntKind.i64.wrap (u.ld + 1) else u.ld) ≤ (if g = 0 then IntKind.i64.wrap (s.ld + 1) else s.ld)
        have := hS.ld
        rw [wadd i2 (by omega), wadd j2 (by omega)]
        split <;> omega
      · subst he
        obtain ⟨g1, g2, g3⟩ := load_ok hml hh2 hx
        have hl := ok_ls hok
        exact km_step (l := []) (s := s) hK hkz hd0 (by omega) (fun b imm held a _ _ _ _ _ h => ⟨h, rfl⟩) (fun h5 => by omega) (fun _ => ⟨by have := (hl.2.1 h.1).1; omega, (hl.2.2 (.inl h.1)).2, y, hy, g1, g2, g3⟩)
    · have b1 := oz2 ho (.inr (.inr (.inr (.inl h.1)))); have b2 := oz3 ho (.inr h.1); have b1' := oz2 hq (.inr (.inr (.inr (.inl h.1)))); have b2' := oz3 hq (.inr h.1)
      obtain ⟨y, hy⟩ := at_ok (r := r) (i := q.f2) b1.1 (by omega)
      obtain ⟨w, hw⟩ := at_ok (r := r) (i := q.f3) b2.1 (by omega)
      obtain ⟨g, m', hx, _⟩ := store_f hI (Wa y q.f4) w
      obtain ⟨rfl, rfl, rfl⟩ := tv_inj ((v5 h.1 hy hw hx).symm.trans t1)
      obtain ⟨rfl, rfl, rfl⟩ := tv_inj ((v5 h.1 (ag_at hA hy b1'.1 (by omega)) (ag_at hA hw b2'.1 (by omega)) (by rw [hS.m, hS.h]; exact hx)).symm.trans p1)
      refine ⟨_, _, _, _, t1, p1, t2, p2, t3, { hS with m := rfl, st := ?_ }, fun he => ?_⟩
      · show (if g = 0 then IntKind.i64.wrap (u.st + 1) else u.st) = (if g = 0 then IntKind.i64.wrap (s.st + 1) else s.st)
        rw [hS.st]
      · subst he
        obtain ⟨g1, g2, rfl⟩ := store_ok hml hh2 hx
        have hl := ok_ls hok
        have hbi := (hl.2.2 (.inr h.1)).2
        refine km_step (l := []) (s := s) hK hkz hd0 (by omega) (fun b imm held a hm' hab _ h5 ha1 ha2 => ⟨ha2, ?_⟩) (fun _ => ⟨(hl.1 h.1).2, hbi, y, w, hy, hw, g1, g2, ?_⟩) (fun h4 => by omega)
        · obtain ⟨rfl, hne⟩ := h5 h.1
          rw [hy] at hab
          obtain rfl := Option.some.inj hab
          have hbi' := (hK _ _ _ hm').1
          show at? (s.m.set (Wa y q.f4).toNat w) (Wa y imm) = _
          rw [at_set (by omega) (by omega), if_neg (wa_ne hbi' hbi hne)]
        · show at? (s.m.set (Wa y q.f4).toNat w) (Wa y q.f4) = _
          rw [at_set (by omega) (by omega), if_pos rfl]
    · obtain ⟨k0, k1⟩ := hoc.new h.1
      by_cases hk : fl - s.h < q.f4
      · have hx := alloc_no (m := s.m) k0 (by have := hI.h1; omega) hI.h2 hI.fl1 hk
        obtain ⟨rfl, rfl, rfl⟩ := tv_inj ((v6 h.1 hx).symm.trans t1)
        obtain ⟨rfl, rfl, rfl⟩ := tv_inj ((v6 h.1 (by rw [hS.m, hS.h]; exact hx)).symm.trans p1)
        exact ⟨_, _, _, _, t1, p1, t2, p2, t3, { hS with m := rfl, h := rfl, c := hS.c }, fun he => absurd he (by decide)⟩
      · have hx := alloc_yes (m := s.m) k0 (by have := hI.h1; omega) hI.h2 hI.fl1 hI.ml hk
        obtain ⟨rfl, rfl, rfl⟩ := tv_inj ((v6 h.1 hx).symm.trans t1)
        obtain ⟨rfl, rfl, rfl⟩ := tv_inj ((v6 h.1 (by rw [hS.m, hS.h]; exact hx)).symm.trans p1)
        refine ⟨_, _, _, _, t1, p1, t2, p2, t3, { hS with m := rfl, h := rfl, c := by show (if (0 : Int) = 0 then IntKind.i64.wrap (u.c + q.f4) else u.c) = (if (0 : Int) = 0 then IntKind.i64.wrap (s.c + q.f4) else s.c); rw [hS.c] }, fun _ => ?_⟩
        exact km_step (l := []) (s := s) hK hkz hd0 (by omega) (fun b imm held a _ _ _ _ g1 g2 => ⟨by show Wa a imm < s.h + q.f4; omega, by show at? (clrL s.m s.h (s.h + q.f4)) (Wa a imm) = _; exact at_clr_lo (by have := hI.h1; omega) (by omega) g2⟩) (fun h5 => by omega) (fun h4 => by omega)
    · obtain ⟨us, a1, a2⟩ := args_at ho h.1 hr
      obtain ⟨us', c1, c2⟩ := args_at hq h.1 hr'
      have huu : us' = us := by
        refine map_some ?_
        rw [← c2, ← a2]
        refine List.map_congr_left (fun a ha => ?_)
        have hb := oz5 hq h.1 a ha
        obtain ⟨y', hy'⟩ : ∃ y', at? r a = some y' := by
          have : at? r a ∈ us.map some := by rw [← a2]; exact List.mem_map_of_mem ha
          obtain ⟨y', _, hy'⟩ := List.mem_map.1 this
          exact ⟨y', hy'.symm⟩
        rw [hy', ag_at hA hy' hb.1 (by omega)]
      subst huu
      have hul : us'.length = q.f5.length := by have := congrArg List.length a2; simpa using this.symm
      obtain ⟨g, g1, g2⟩ := hoc.call h.1
      obtain ⟨g', g3, g4⟩ := hQ.fn _ _ g1
      obtain ⟨x, y, s1, u1, w1, w2, w3, w4, w5, w6⟩ := hR B s u g g' us' hI hJ hS hB (at_mem g1) (at_mem g3) g4 (by omega) (by omega)
      obtain ⟨rfl, rfl, rfl⟩ := tv_inj ((v7 h.1 ho.args a1 g1 w1).symm.trans t1)
      obtain ⟨rfl, rfl, rfl⟩ := tv_inj ((v7 h.1 hq.args c1 g3 w2).symm.trans p1)
      refine ⟨_, _, _, _, t1, p1, t2, p2, t3, w6, fun _ => ?_⟩
      exact km_step (l := []) (s := s) hK hkz hd0 (by omega) (fun b imm held a _ _ h7 _ _ _ => absurd h.1 h7) (fun h5 => by omega) (fun h4 => by omega)
    · by_cases hi : (s.i.length : Int) = 0
      · obtain ⟨rfl, rfl, rfl⟩ := tv_inj ((v8 h.1 hi).symm.trans t1)
        obtain ⟨rfl, rfl, rfl⟩ := tv_inj ((v8 h.1 (by rw [hS.i]; exact hi)).symm.trans p1)
        exact ⟨_, _, _, _, t1, p1, t2, p2, t3, hS, fun he => absurd he (by decide)⟩
      · obtain ⟨y, hy⟩ := at_ok (r := s.i) (i := 0) (by omega) (by omega)
        obtain ⟨w, hw⟩ : ∃ w, cut? s.i (1 : Int) (s.i.length : Int) = some w := by unfold cut?; exact ⟨_, if_pos (by omega)⟩
        obtain ⟨rfl, rfl, rfl⟩ := tv_inj ((v8' h.1 hi hy hw).symm.trans t1)
        obtain ⟨rfl, rfl, rfl⟩ := tv_inj ((v8' h.1 (by rw [hS.i]; exact hi) (by rw [hS.i]; exact hy) (by rw [hS.i]; exact hw)).symm.trans p1)
        exact ⟨_, _, _, _, t1, p1, t2, p2, t3, { hS with i := rfl }, fun _ => same _ rfl rfl (by omega) (by omega)⟩
    · have b1 := oz2 ho (.inr (.inr (.inr (.inr h.1)))); have b1' := oz2 hq (.inr (.inr (.inr (.inr h.1))))
      obtain ⟨y, hy⟩ := at_ok (r := r) (i := q.f2) b1.1 (by omega)
      obtain ⟨rfl, rfl, rfl⟩ := tv_inj ((v9 h.1 hy (by omega)).symm.trans t1)
      obtain ⟨rfl, rfl, rfl⟩ := tv_inj ((v9 h.1 (ag_at hA hy b1'.1 (by omega)) (by omega)).symm.trans p1)
      exact ⟨_, _, _, _, t1, p1, t2, p2, t3, { hS with o := by show u.o ++ [y] = s.o ++ [y]; rw [hS.o] }, fun _ => same _ rfl rfl (by omega) (by omega)⟩
end Go.Proofs.Ytfmocegnpmomnaa.Sy
