/- Texts of this work, joined: TrG, TrF, TrH, SyF48, SyF41, SyF65, SyF93, SyF116, SyF117, SyF118, SyF49, SyF119, SyF120, SyF121, SyF94, SyF68, SyF95, SyF69, SyF70, SyF71, SyF45, SyF46, SyF47. -/
import Derived.Test.YtfmocegnpmomnaaSyNFoldRunsd
set_option linter.unusedVariables false
set_option linter.unusedSimpArgs false
namespace Go.Proofs.Ytfmocegnpmomnaa.Sy
open Go Go.RowKit Go.Proofs.YtfmocegnpmomnaaW.PrintWords Go.Proofs.Ytfmocegnpmomnaa.SyO
/-- Two runners: the second has more fuel; the cells up to the heap's end are alike. -/
structure Rl (m : Int) (s u : Ts) : Prop where
  h : u.h = s.h
  i : u.i = s.i
  f : u.f = s.f + m
  d : u.d = s.d
  o : u.o = s.o
  ld : u.ld = s.ld
  st : u.st = s.st
  c : u.c = s.c
  m : ∀ k : Int, k < s.h → at? u.m k = at? s.m k
structure Ex (s u : Ts) : Prop where
  o : ∃ t, u.o = s.o ++ t
  ld : s.ld ≤ u.ld
  st : s.st ≤ u.st
theorem Ex.go {s u u' : Ts} {k : Int} (h : Ex s u) (g : Gs k u u') : Ex s u' := by
  obtain ⟨t, ht⟩ := h.o
  obtain ⟨q, hq⟩ := g.o
  exact ⟨⟨t ++ q, by rw [hq, ht, List.append_assoc]⟩, Int.le_trans h.ld g.ld, Int.le_trans h.st g.st⟩
theorem Rl.ex {m : Int} {s u : Ts} (h : Rl m s u) : Ex s u := ⟨⟨[], by rw [h.o]; simp⟩, by rw [h.ld]; exact Int.le_refl _, by rw [h.st]; exact Int.le_refl _⟩
/-- Why two runs part. -/
def Dv (fl fl' m e : Int) : Prop := (e = 12 ∧ 0 < m) ∨ (e = 9 ∧ fl < fl')
def RV (fl fl' m v e : Int) (s : Ts) (v' e' : Int) (u : Ts) : Prop := (v = v' ∧ e = e' ∧ Rl m s u) ∨ (Dv fl fl' m e ∧ Ex s u)
def CallR (l : List S45) (fl fl' m : Int) (n : Nat) : Prop := ∀ B s u t us, Iv B fl s → Iv (B + m) fl' u → Rl m s u → B + m ≤ 90000 → t ∈ l → (us.length : Int) = t.f0 → 3 * (1000 - s.d) + 1 ≤ (n : Int) → ∃ v e s' v' e' u', Cf n l fl s t us = some (tv v e s') ∧ Cf n l fl' u t us = some (tv v' e' u') ∧ RV fl fl' m v e s' v' e' u'
def BlockR (l : List S45) (fl fl' m : Int) (n : Nat) : Prop := ∀ B s u (z : Nat) b r, Iv B fl s → Iv (B + m) fl' u → Rl m s u → B + m ≤ 90000 → b.f0.length ≤ 250 → (∀ o ∈ b.f0, Oz z o ∧ Oc l o) → r.length = z + 1 → 3 * (1000 - s.d) + 3 ≤ (n : Int) → ∃ e s' r1 e' u' r2, Bf n l fl s b r = some (tb e s' r1) ∧ Bf n l fl' u b r = some (tb e' u' r2) ∧ ((e = e' ∧ r1 = r2 ∧ Rl m s' u') ∨ (Dv fl fl' m e ∧ Ex s' u'))
def ValueR (l : List S45) (fl fl' m : Int) (n : Nat) : Prop := ∀ B s u (z : Nat) o r, Iv B fl s → Iv (B + m) fl' u → Rl m s u → B + m ≤ 90000 → Oz z o → Oc l o → r.length = z + 1 → 3 * (1000 - s.d) + 2 ≤ (n : Int) → ∃ v e s' v' e' u', Vf n l fl s o r = some (tv v e s') ∧ Vf n l fl' u o r = some (tv v' e' u') ∧ RV fl fl' m v e s' v' e' u'
/-! #### An operation, by its kind -/
section
variable {n : Nat} {l : List S45} {fl : Int} {s : Ts} {o : S37} {r : List Int}
theorem v1 (h : o.f0 = 1) : Vf (n + 1) l fl s o r = some (tv o.f4 0 s) := by
  show trace_runner_value.g (trace_runner_call.fix n).1 (trace_runner_call.fix n).2.1 (trace_runner_call.fix n).2.2 l s.m s.h fl s.i s.f s.d s.o 0 s.ld s.st s.c o r = _
  unfold trace_runner_value.g; rw [if_pos h]
theorem v2 {y w k e : Int} (h : o.f0 = 2) (hy : at? r o.f2 = some y) (hw : at? r o.f3 = some w) (hk : word_Do.f o.f4 y w = some (k, e)) : Vf (n + 1) l fl s o r = some (tv k e s) := by
  show trace_runner_value.g (trace_runner_call.fix n).1 (trace_runner_call.fix n).2.1 (trace_runner_call.fix n).2.2 l s.m s.h fl s.i s.f s.d s.o 0 s.ld s.st s.c o r = _
  unfold trace_runner_value.g
  rw [if_neg (by omega), if_neg (by omega), if_pos h, hy, Option.bind_some, hw, Option.bind_some, hk, Option.bind_some]
theorem v3 {y : Int} (h : o.f0 = 3) (hy : at? r o.f2 = some y) : Vf (n + 1) l fl s o r = some (tv y 0 s) := by
  show trace_runner_value.g (trace_runner_call.fix n).1 (trace_runner_call.fix n).2.1 (trace_runner_call.fix n).2.2 l s.m s.h fl s.i s.f s.d s.o 0 s.ld s.st s.c o r = _
  unfold trace_runner_value.g
  rw [if_neg (by omega), if_pos h, hy, Option.bind_some]
theorem v4 {y v e : Int} (h : o.f0 = 4) (hy : at? r o.f2 = some y) (hv : memory_Memory_Load.f s.m s.h fl (IntKind.i64.wrap (y + o.f4)) = some (v, e)) : Vf (n + 1) l fl s o r = some (tv v e { s with ld := if e = 0 then IntKind.i64.wrap (s.ld + 1) else s.ld }) := by
  show trace_runner_value.g (trace_runner_call.fix n).1 (trace_runner_call.fix n).2.1 (trace_runner_call.fix n).2.2 l s.m s.h fl s.i s.f s.d s.o 0 s.ld s.st s.c o r = _
  unfold trace_runner_value.g
  rw [if_neg (by omega), if_neg (by omega), if_neg (by omega), if_neg (by omega), if_neg (by omega), if_neg (by omega)]
  unfold trace_runner_cells.f
  rw [if_pos h, hy, Option.bind_some, hv, Option.bind_some]
  simp only [jn]
  by_cases he : e = 0
  · rw [if_pos he, Option.bind_some, if_pos he]
  · rw [if_neg he, Option.bind_some, if_neg he]
theorem v5 {y w e : Int} {m' : List Int} (h : o.f0 = 5) (hy : at? r o.f2 = some y) (hw : at? r o.f3 = some w) (hv : memory_Memory_Store.f s.m s.h fl (IntKind.i64.wrap (y + o.f4)) w = some (e, m')) : Vf (n + 1) l fl s o r = some (tv 0 e { s with m := m', st := if e = 0 then IntKind.i64.wrap (s.st + 1) else s.st }) := by
  show trace_runner_value.g (trace_runner_call.fix n).1 (trace_runner_call.fix n).2.1 (trace_runner_call.fix n).2.2 l s.m s.h fl s.i s.f s.d s.o 0 s.ld s.st s.c o r = _
  unfold trace_runner_value.g
  rw [if_neg (by omega), if_neg (by omega), if_neg (by omega), if_neg (by omega), if_neg (by omega), if_neg (by omega)]
  unfold trace_runner_cells.f
  rw [if_neg (by omega), if_pos h, hy, Option.bind_some, hw, Option.bind_some, hv, Option.bind_some]
  simp only [jn]
  by_cases he : e = 0
  · rw [if_pos he, Option.bind_some, if_pos he]
  · rw [if_neg he, Option.bind_some, if_neg he]
theorem v6 {v e h' : Int} {m' : List Int} (h : o.f0 = 6) (hv : memory_Memory_Alloc.f s.m s.h fl o.f4 = some (v, e, m', h')) : Vf (n + 1) l fl s o r = some (tv v e { s with m := m', h := h', c := if e = 0 then IntKind.i64.wrap (s.c + o.f4) else s.c }) := by
  show trace_runner_value.g (trace_runner_call.fix n).1 (trace_runner_call.fix n).2.1 (trace_runner_call.fix n).2.2 l s.m s.h fl s.i s.f s.d s.o 0 s.ld s.st s.c o r = _
  unfold trace_runner_value.g
  rw [if_neg (by omega), if_neg (by omega), if_neg (by omega), if_neg (by omega), if_neg (by omega), if_neg (by omega)]
  unfold trace_runner_cells.f
  rw [if_neg (by omega), if_neg (by omega), hv, Option.bind_some]
  simp only [jn]
  by_cases he : e = 0
  · rw [if_pos he, Option.bind_some, if_pos he]
  · rw [if_neg he, Option.bind_some, if_neg he]
theorem v7 {g : S45} {us : List Int} {v e : Int} {s' : Ts} (h : o.f0 = 7) (hl : o.f5.length ≤ 20) (ha : trace_runner_value.l0 o r (o.f5.length + 1) (List.replicate (o.f5.length : Int).toNat (0 : Int)) 0 = some us) (hg : at? l o.f4 = some g) (hs : Cf n l fl s g us = some (tv v e s')) : Vf (n + 1) l fl s o r = some (tv v e s') := by
  show trace_runner_value.g (trace_runner_call.fix n).1 (trace_runner_call.fix n).2.1 (trace_runner_call.fix n).2.2 l s.m s.h fl s.i s.f s.d s.o 0 s.ld s.st s.c o r = _
  unfold trace_runner_value.g
  have hs1' : (trace_runner_call.fix n).1 l s.m s.h fl s.i s.f s.d s.o 0 s.ld s.st s.c g us = some (tv v e s') := hs
  rw [if_neg (by omega), if_neg (by omega), if_neg (by omega), if_neg (by omega), if_neg (by omega), if_pos h, if_pos (by omega), ha, Option.bind_some, hg, Option.bind_some, hs1', Option.bind_some]
theorem v8 (h : o.f0 = 8) (hi : (s.i.length : Int) = 0) : Vf (n + 1) l fl s o r = some (tv 0 10 s) := by
  show trace_runner_value.g (trace_runner_call.fix n).1 (trace_runner_call.fix n).2.1 (trace_runner_call.fix n).2.2 l s.m s.h fl s.i s.f s.d s.o 0 s.ld s.st s.c o r = _
  unfold trace_runner_value.g
  rw [if_neg (by omega), if_neg (by omega), if_neg (by omega), if_pos h]
  unfold trace_runner_read.f
  rw [if_pos hi, Option.bind_some]
theorem v8' {y : Int} {u : List Int} (h : o.f0 = 8) (hi : ¬ (s.i.length : Int) = 0) (hy : at? s.i 0 = some y) (hu : cut? s.i (1 : Int) (s.i.length : Int) = some u) : Vf (n + 1) l fl s o r = some (tv y 0 { s with i := u }) := by
  show trace_runner_value.g (trace_runner_call.fix n).1 (trace_runner_call.fix n).2.1 (trace_runner_call.fix n).2.2 l s.m s.h fl s.i s.f s.d s.o 0 s.ld s.st s.c o r = _
  unfold trace_runner_value.g
  rw [if_neg (by omega), if_neg (by omega), if_neg (by omega), if_pos h]
  unfold trace_runner_read.f
  rw [if_neg hi, hy, Option.bind_some, hu, Option.bind_some, Option.bind_some]
theorem v9 {y : Int} (h : o.f0 = 9) (hy : at? r o.f2 = some y) (hl : s.o.length < 17592186044416) : Vf (n + 1) l fl s o r = some (tv 0 0 { s with o := s.o ++ [y] }) := by
  show trace_runner_value.g (trace_runner_call.fix n).1 (trace_runner_call.fix n).2.1 (trace_runner_call.fix n).2.2 l s.m s.h fl s.i s.f s.d s.o 0 s.ld s.st s.c o r = _
  unfold trace_runner_value.g
  rw [if_neg (by omega), if_neg (by omega), if_neg (by omega), if_neg (by omega), if_pos h, hy, Option.bind_some, if_pos hl]
end
theorem alloc_no {m : List Int} {h fl k : Int} (h0 : 0 ≤ k) (h1 : 0 ≤ h) (h2 : h ≤ fl) (h3 : fl ≤ 1048576) (hk : fl - h < k) : memory_Memory_Alloc.f m h fl k = some (0, 9, m, h) := by
  unfold memory_Memory_Alloc.f
  rw [if_neg (by omega), w64 (n := fl - h) (by omega) (by omega), if_pos hk]
theorem alloc_yes {m : List Int} {h fl k : Int} (h0 : 0 ≤ k) (h1 : 0 ≤ h) (h2 : h ≤ fl) (h3 : fl ≤ 1048576) (hm : (m.length : Int) = fl) (hk : ¬ fl - h < k) : memory_Memory_Alloc.f m h fl k = some (h, 0, clrL m h (h + k), h + k) := by
  unfold memory_Memory_Alloc.f
  rw [if_neg (by omega), w64 (n := fl - h) (by omega) (by omega), w64 (n := h + k) (by omega) (by omega), if_neg hk, if_pos (by omega), Option.bind_some]
end Go.Proofs.Ytfmocegnpmomnaa.Sy
set_option linter.unusedVariables false
set_option linter.unusedSimpArgs false
namespace Go.Proofs.Ytfmocegnpmomnaa.Sy
open Go Go.RowKit Go.Proofs.YtfmocegnpmomnaaW.PrintWords Go.Proofs.Ytfmocegnpmomnaa.SyO
/-! #### Rows -/
theorem sleq (xs ys : List Int) (hl : xs.length ≤ 140737488355328) : slices_Equal_int_int.f xs ys = some (decide (xs = ys)) := by
  unfold slices_Equal_int_int.f
  by_cases hlen : xs.length = ys.length
  · rw [if_neg (by simp [hlen])]
    have hz : (xs.zip ys).length = xs.length := by rw [List.length_zip]; omega
    have := loopd (xs := xs.zip ys) (F := fun n i => slices_Equal_int_int.l0 xs ys n i) (P := fun ps r => r = some (if (∀ p ∈ ps, p.1 = p.2) then .inr () else .inl false)) (by omega) (fun n => by
        show slices_Equal_int_int.l0 xs ys (n + 1) ((xs.zip ys).length : Int) = _
        rw [slices_Equal_int_int.l0, hz, if_neg (by omega)]; simp) (fun n i p r hd hlt hat hm hw ih => by
        obtain ⟨a1, a2⟩ := at_zip hat
        show slices_Equal_int_int.l0 xs ys (n + 1) (i : Int) = _
        rw [slices_Equal_int_int.l0, if_pos (by omega), a1, a2]
        simp only [Option.bind_some, hw]
        by_cases hp : p.1 = p.2
        · rw [if_neg (by simp [hp])]
          have ih' : slices_Equal_int_int.l0 xs ys n ((i + 1 : Nat) : Int) = _ := ih
          rw [ih']; simp only [List.forall_mem_cons, hp, true_and]
        · rw [if_pos (by simp [hp])]; simp only [List.forall_mem_cons, hp, false_and, if_false]) (xs.length + 1) (by omega)
    have this' : slices_Equal_int_int.l0 xs ys (xs.length + 1) 0 = _ := this
    rw [this']
    have hza := zip_all hlen
    by_cases he : xs = ys
    · rw [if_pos (hza.2 he)]; simp [he]
    · rw [if_neg (fun h => he (hza.1 h))]; simp [he]
  · rw [if_pos (by simp; omega)]
    have : ¬ xs = ys := fun h => hlen (by rw [h])
    simp [this]
theorem same_s (a b : S28) (hl : a.f0.length ≤ 140737488355328) : trace_Same.f a b = some (decide (a.f1 = b.f1 ∧ a.f0 = b.f0)) := by
  unfold trace_Same.f
  by_cases h : a.f1 = b.f1
  · rw [if_pos h, sleq _ _ hl]; simp [h]
  · rw [if_neg h]; simp [h]
/-! #### Few -/
theorem suses_f {o : S37} (hl : o.f5.length ≤ 20) : ∃ u, swageref14_Uses.f o = some u ∧ u.length ≤ 20 := by
  unfold swageref14_Uses.f
  simp only [jn]
  repeat' split
  all_goals first | (refine ⟨_, rfl, ?_⟩; first | exact hl | (simp; done)) | (exfalso; simp at *; omega)
theorem ssets_f (o : S37) : ∃ u, swageref14_Sets.f o = some u := by
  unfold swageref14_Sets.f
  simp only [jn]
  repeat' split
  all_goals exact ⟨_, rfl⟩
theorem stuses_f (t : S40) : ∃ u, swageref14_TermUses.f t = some u ∧ u.length ≤ 20 := by
  unfold swageref14_TermUses.f
  simp only [jn]
  repeat' split
  all_goals exact ⟨_, rfl, by simp⟩
theorem sreg_l3 {u : List Int} (hl : u.length ≤ 20) (x : Int) : ∃ z, swageref14_Regs.l3 u (u.length + 1) x 0 = some z := by
  have := loopd (xs := u) (F := fun n i w => swageref14_Regs.l3 u n w i) (P := fun _ f => ∀ w : Int, ∃ z, f w = some z) (by omega) (fun n w => ⟨w, by simp [swageref14_Regs.l3]⟩) (fun n i y r hd hlt hat hm hw ih w => by
    show ∃ z, swageref14_Regs.l3 u (n + 1) w i = some z
    rw [swageref14_Regs.l3, if_pos hlt, hat, Option.bind_some, hw]; exact ih _) (u.length + 1) (by omega)
  exact this x
theorem sreg_l2 {u : List Int} (hl : u.length ≤ 20) (x : Int) : ∃ z, swageref14_Regs.l2 u (u.length + 1) x 0 = some z := by
  have := loopd (xs := u) (F := fun n i w => swageref14_Regs.l2 u n w i) (P := fun _ f => ∀ w : Int, ∃ z, f w = some z) (by omega) (fun n w => ⟨w, by simp [swageref14_Regs.l2]⟩) (fun n i y r hd hlt hat hm hw ih w => by
    show ∃ z, swageref14_Regs.l2 u (n + 1) w i = some z
    rw [swageref14_Regs.l2, if_pos hlt, hat, Option.bind_some, hw]; exact ih _) (u.length + 1) (by omega)
  exact this x
theorem sreg_l1 {t : S45} {x : Int} {y : S42} (hy : at? t.f1 x = some y) (hl : y.f0.length ≤ 250) (ho : ∀ o ∈ y.f0, o.f5.length ≤ 20) (x0 : Int) : ∃ z, swageref14_Regs.l1 t x (y.f0.length + 1) x0 0 = some z := by
  have := loopd (xs := y.f0) (F := fun n i w => swageref14_Regs.l1 t x n w i) (P := fun _ f => ∀ w : Int, ∃ z, f w = some z) (by omega) (fun n w => ⟨w, by simp [swageref14_Regs.l1, hy]⟩) (fun n i o r hd hlt hat hm hw ih w => by
    obtain ⟨u, u1, u2⟩ := suses_f (ho o hm)
    obtain ⟨s, s1⟩ := ssets_f o
    show ∃ z, swageref14_Regs.l1 t x (n + 1) w i = some z
    obtain ⟨v, hv⟩ := sreg_l3 u2 (if w < s then s else w)
    rw [swageref14_Regs.l1, hy, Option.bind_some, if_pos hlt, hat, Option.bind_some, s1, Option.bind_some, u1, Option.bind_some, hv, Option.bind_some, hw]; exact ih _) (y.f0.length + 1) (by omega)
  exact this x0
theorem sreg_f {t : S45} (h : Fewp t) : ∃ z, swageref14_Regs.f t = some z := by
  obtain ⟨f1, f2, f3⟩ := h
  have := loopd (xs := t.f1) (F := fun n i w => swageref14_Regs.l0 t n w i) (P := fun _ f => ∀ w : Int, ∃ z, f w = some z) (by omega) (fun n w => ⟨w, by simp [swageref14_Regs.l0]⟩) (fun n i y r hd hlt hat hm hw ih w => by
    obtain ⟨v, hv⟩ := sreg_l1 hat (f3 y hm).1 (f3 y hm).2 w
    obtain ⟨u, u1, u2⟩ := stuses_f y.f1
    obtain ⟨q, hq⟩ := sreg_l2 u2 v
    show ∃ z, swageref14_Regs.l0 t (n + 1) w i = some z
    rw [swageref14_Regs.l0, if_pos hlt, hat]
    simp only [Option.elim_some]
    rw [hv, Option.bind_some, Option.bind_some, u1, Option.bind_some, hq, Option.bind_some, hw]; exact ih _) (t.f1.length + 1) (by omega)
  obtain ⟨z, hz⟩ := this (if t.f0 < 0 then 0 else t.f0)
  unfold swageref14_Regs.f
  have hz' : swageref14_Regs.l0 t (t.f1.length + 1) (if t.f0 < 0 then 0 else t.f0) 0 = some z := hz
  rw [hz']; exact ⟨_, rfl⟩
theorem few15 {l : List S45} (h : l.length * 32 ≤ 140737488351232 ∧ ∀ y ∈ l, ok45 y) : ∃ b, swagelaw15_Few.f l = some b ∧ (b = true → l.length ≤ 8 ∧ ∀ t ∈ l, Fewp t) := by
  have h0 : ∃ r, swagelaw15_Few.l0 l (l.length + 1) 0 = some r ∧ (r = .inl false ∨ (r = .inr () ∧ (l.length ≤ 20 → ∀ t ∈ l, Fewp t))) := by
    refine loopd (xs := l) (F := fun n i => swagelaw15_Few.l0 l n i) (P := fun ts f => ∃ r, f = some r ∧ (r = .inl false ∨ (r = .inr () ∧ (l.length ≤ 20 → ∀ t ∈ ts, Fewp t)))) (by have := h.1; omega) (fun n => ⟨.inr (), by simp [swagelaw15_Few.l0, jn], .inr ⟨rfl, by simp⟩⟩) (fun n i t r hd hlt hat hm hw ih => ?_) (l.length + 1) (by omega)
    show ∃ r, swagelaw15_Few.l0 l (n + 1) i = some r ∧ _
    obtain ⟨b, b1, b2⟩ := few_f (h.2 t hm)
    rw [swagelaw15_Few.l0]
    simp only [jn]
    rw [if_pos hlt]
    by_cases h20 : (i : Int) < 20
    · rw [if_pos (by simpa using h20), hat, Option.bind_some, b1, Option.bind_some]
      cases b with
      | false => exact ⟨.inl false, by simp, .inl rfl⟩
      | true =>
        obtain ⟨z, hz⟩ := sreg_f (b2 rfl)
        rw [if_neg (by simp), hz, Option.bind_some, hw]
        by_cases h60 : 60 < z
        · exact ⟨.inl false, by simp [h60], .inl rfl⟩
        · obtain ⟨q, q1, q2⟩ := ih
          refine ⟨q, by simp only [h60, decide_false, Bool.false_eq_true, if_false]; exact q1, ?_⟩
          rcases q2 with q2 | ⟨q2, q3⟩
          · exact .inl q2
          · refine .inr ⟨q2, fun hl u hu => ?_⟩
            rcases List.mem_cons.1 hu with rfl | hu
            · exact b2 rfl
            · exact q3 hl u hu
    · rw [if_neg (by simpa using h20)]
      exact ⟨.inr (), rfl, .inr ⟨rfl, fun hl => by omega⟩⟩
  obtain ⟨r, r1, r2⟩ := h0
  unfold swagelaw15_Few.f
  rw [r1, Option.bind_some]
  rcases r2 with rfl | ⟨rfl, r3⟩
  · exact ⟨false, rfl, fun h => by cases h⟩
  · exact ⟨decide ((l.length : Int) ≤ 8), rfl, fun h => by have := of_decide_eq_true h; exact ⟨by omega, r3 (by omega)⟩⟩
/-! #### Programs -/
def okProg (l : List S45) : Bool := l.all fun t => okFn t l.length && (t.f1.all fun y => y.f0.all fun o => okCall l o)
theorem prog_f {l : List S45} (h8 : l.length ≤ 8) (hf : ∀ t ∈ l, Fewp t) : ∃ b, code_Program.f l = some b ∧ (b = true → okProg l = true ∧ ∃ t, at? l 0 = some t ∧ t.f0 = 0) := by
  have h0 : code_Program.l0 l (l.length + 1) 0 = some (if okProg l then .inr () else .inl false) := by
    refine loopd (xs := l) (F := fun n i => code_Program.l0 l n i) (P := fun ts f => f = some (if (ts.all fun t => okFn t l.length && (t.f1.all fun y => y.f0.all fun o => okCall l o)) then .inr () else .inl false)) (by omega) (fun n => by simp [code_Program.l0]) (fun n i t r hd hlt hat hm hw ih => ?_) (l.length + 1) (by omega)
    rw [code_Program.l0, if_pos hlt, hat, Option.bind_some, cright_f (by omega) (by omega) (hf t hm), Option.bind_some]
    cases hr : okFn t (l.length : Int) with
    | false => rw [if_pos (by simp)]; simp [hr]
    | true =>
      rw [if_neg (by simp), cprog_l1 (hf t hm) hr, Option.bind_some, hw]
      cases hc : (t.f1.all fun y => y.f0.all fun o => okCall l o) with
      | false => simp [hr, hc]
      | true =>
        simp only [if_true, List.all_cons, hr, hc, Bool.true_and]
        exact ih
  unfold code_Program.f
  simp only [jn, within_f, Option.bind_some]
  by_cases hl : 1 ≤ (l.length : Int) ∧ (l.length : Int) ≤ 256
  · obtain ⟨t, ht⟩ := at_ok (r := l) (i := 0) (by omega) (by omega)
    rw [decide_eq_true hl, if_neg (by simp), ht, Option.bind_some]
    by_cases ht0 : t.f0 = 0
    · rw [if_neg (by simp [ht0]), h0, Option.bind_some]
      cases hp : okProg l with
      | false => exact ⟨false, rfl, fun h => by cases h⟩
      | true => exact ⟨true, rfl, fun _ => ⟨rfl, t, rfl, ht0⟩⟩
    · rw [if_pos (by simp [ht0])]; exact ⟨false, rfl, fun h => by cases h⟩
  · rw [decide_eq_false hl, if_pos (by simp)]; exact ⟨false, rfl, fun h => by cases h⟩
theorem wp_of {l : List S45} (h8 : l.length ≤ 8) (hf : ∀ t ∈ l, Fewp t) (hp : okProg l = true) : Wp l := by
  have hk : ∀ t ∈ l, okFn t l.length = true ∧ (∀ y ∈ t.f1, ∀ o ∈ y.f0, okCall l o = true) := fun t ht => by
    have := List.all_eq_true.1 hp t ht
    obtain ⟨h1, h2⟩ := (Bool.and_eq_true _ _).mp this
    exact ⟨h1, fun y hy o ho => List.all_eq_true.1 (List.all_eq_true.1 h2 y hy) o ho⟩
  refine ⟨fun t ht => ?_, fun t ht y hy => ⟨((hf t ht).2.2 y hy).1, fun o ho => ?_⟩⟩
  · obtain ⟨b, b1, b2⟩ := right_f (hf t ht) (l.length : Int)
    rw [cright_f (by omega) (by omega) (hf t ht), (hk t ht).1] at b1
    exact regs_full (hf t ht) (b2 (Option.some.inj b1).symm)
  · have hfn := (hk t ht).1
    unfold okFn at hfn
    obtain ⟨_, hr⟩ := (Bool.and_eq_true _ _).mp hfn
    have hop := List.all_eq_true.1 (List.all_eq_true.1 hr y hy) o ho
    refine ⟨fun h7 => ?_, fun h6 => ?_⟩
    · obtain ⟨g, hg⟩ := call_at hop h7
      have := (hk t ht).2 y hy o ho
      unfold okCall at this
      rw [if_pos h7, hg] at this
      exact ⟨g, hg, of_decide_eq_true this⟩
    · unfold okOp at hop
      simp only [h6] at hop
      simp at hop
      omega
/-! #### Runs -/
/-- What a runner holds at first. -/
abbrev ts0 (a1 : Int) (a2 : List Int) (a3 : Int) : Ts := ⟨List.replicate a1.toNat (0 : Int), 1, a2, a3, 0, [], 0, 0, 0⟩
abbrev none28 : S28 := ⟨[], 0, 0, 0, 0⟩
theorem run_f {l : List S45} (h8 : l.length ≤ 8) (hf : ∀ t ∈ l, Fewp t) : (∀ a1 a2 a3, 1 ≤ a1 → a1 ≤ 4096 → trace_Run.f l a1 a2 a3 = some (none28, 1)) ∨ (Wp l ∧ ∃ t, t ∈ l ∧ t.f0 = 0 ∧ ∀ a1 a2 a3, 1 ≤ a1 → a1 ≤ 4096 → ∀ v e s', Cf 100000 l a1 (ts0 a1 a2 a3) t [] = some (tv v e s') → trace_Run.f l a1 a2 a3 = some (⟨s'.o, e, s'.ld, s'.st, s'.c⟩, 0)) := by
  obtain ⟨b, b1, b2⟩ := prog_f h8 hf
  cases b with
  | false =>
    refine .inl fun a1 a2 a3 h1 h2 => ?_
    unfold trace_Run.f
    simp only [jn]
    rw [if_neg (by omega), if_neg (by simp; omega), if_pos (by omega), b1]; rfl
  | true =>
    obtain ⟨hp, t, ht, ht0⟩ := b2 rfl
    refine .inr ⟨wp_of h8 hf hp, t, at_mem ht, ht0, fun a1 a2 a3 h1 h2 v e s' hs => ?_⟩
    have hs' : trace_runner_call.f l (List.replicate a1.toNat (0 : Int)) 1 a1 a2 a3 0 ([] : List Int) 0 0 0 0 t ([] : List Int) = some (tv v e s') := hs
    unfold trace_Run.f
    simp only [jn]
    rw [if_neg (by omega), if_neg (by simp; omega), if_pos (by omega), b1, Option.bind_some, if_neg (by simp), ht, Option.bind_some, hs']; rfl
theorem iv0 {a1 a3 : Int} {a2 : List Int} (h1 : 1 ≤ a1) (h2 : a1 ≤ 4096) (h3 : 0 ≤ a3) : Iv a3 a1 (ts0 a1 a2 a3) :=
  ⟨h3, Int.le_refl _, by show (0 : Int) ≤ 1000; omega, by show ((List.replicate a1.toNat (0 : Int)).length : Int) = a1; rw [List.length_replicate]; omega, Int.le_refl _, h1, by omega, rfl, Int.le_refl _, Int.le_refl _, by show (([] : List Int).length : Int) + 0 + 0 + a3 ≤ a3; simp⟩
end Go.Proofs.Ytfmocegnpmomnaa.Sy
set_option linter.unusedVariables false
set_option linter.unusedSimpArgs false
namespace Go.Proofs.Ytfmocegnpmomnaa.Sy
open Go Go.RowKit Go.Proofs.YtfmocegnpmomnaaW.PrintWords Go.Proofs.Ytfmocegnpmomnaa.SyO
theorem tv_inj {v e v' e' : Int} {s s' : Ts} (h : (some (tv v e s) : Option _) = some (tv v' e' s')) : v = v' ∧ e = e' ∧ s = s' := by
  obtain ⟨⟩ := s; obtain ⟨⟩ := s'
  simp only [tv, Option.some.injEq, Prod.mk.injEq] at h
  obtain ⟨rfl, rfl, rfl, rfl, rfl, rfl, rfl, rfl, rfl, rfl, rfl⟩ := h
  exact ⟨rfl, rfl, rfl⟩
abbrev Bl (n : Nat) (l : List S45) (fl : Int) (b : S42) (N : Nat) (i : Int) (s : Ts) (r : List Int) := trace_runner_block.l0 (trace_runner_call.fix n).2.2 l fl 0 b N r i s.i s.f s.d s.o s.ld s.st s.c s.m s.h
section
variable {n : Nat} {l : List S45} {fl : Int} {b : S42} {N : Nat} {i : Int} {s : Ts} {r : List Int} {o : S37}
theorem b_lo (hlt : i < (b.f0.length : Int)) (hat : at? b.f0 i = some o) (hf : s.f < 1) : Bl n l fl b (N + 1) i s r = some (.inl (tb 12 s r)) := by
  show trace_runner_block.l0 (trace_runner_call.fix n).2.2 l fl 0 b (N + 1) r i s.i s.f s.d s.o s.ld s.st s.c s.m s.h = _
  rw [trace_runner_block.l0, if_pos hlt, hat, Option.bind_some, pay_lo hf, Option.bind_some, if_pos (show (!decide ((12 : Int) = 0)) = true by decide)]
theorem b_hi {v e : Int} {s' : Ts} (hlt : i < (b.f0.length : Int)) (hat : at? b.f0 i = some o) (hf : ¬ s.f < 1) (h1 : s.f ≤ 100000) (hv : Vf n l fl (less s) o r = some (tv v e s')) (he : ¬ e = 0) : Bl n l fl b (N + 1) i s r = some (.inl (tb e s' r)) := by
  show trace_runner_block.l0 (trace_runner_call.fix n).2.2 l fl 0 b (N + 1) r i s.i s.f s.d s.o s.ld s.st s.c s.m s.h = _
  have e1' : (trace_runner_call.fix n).2.2 l s.m s.h fl s.i (s.f - 1) s.d s.o 0 s.ld s.st s.c o r = some (tv v e s') := hv
  rw [trace_runner_block.l0, if_pos hlt, hat, Option.bind_some, pay_hi hf h1, Option.bind_some, if_neg (show ¬ (!decide ((0 : Int) = 0)) = true by decide), e1', Option.bind_some]
  simp only [jn]
  rw [if_pos (by simp [he])]
theorem b_go {v : Int} {s' : Ts} (hlt : i < (b.f0.length : Int)) (hat : at? b.f0 i = some o) (hw : IntKind.i64.wrap (i + 1) = i + 1) (hf : ¬ s.f < 1) (h1 : s.f ≤ 100000) (hv : Vf n l fl (less s) o r = some (tv v 0 s')) (ho : 0 ≤ o.f1) (ho1 : o.f1 < (r.length : Int)) : Bl n l fl b (N + 1) i s r = Bl n l fl b N (i + 1) s' (if o.f1 = 0 then r else r.set o.f1.toNat v) := by
  show trace_runner_block.l0 (trace_runner_call.fix n).2.2 l fl 0 b (N + 1) r i s.i s.f s.d s.o s.ld s.st s.c s.m s.h = trace_runner_block.l0 (trace_runner_call.fix n).2.2 l fl 0 b N _ (i + 1) s'.i s'.f s'.d s'.o s'.ld s'.st s'.c s'.m s'.h
  have e1' : (trace_runner_call.fix n).2.2 l s.m s.h fl s.i (s.f - 1) s.d s.o 0 s.ld s.st s.c o r = some (tv v 0 s') := hv
  rw [trace_runner_block.l0, if_pos hlt, hat, Option.bind_some, pay_hi hf h1, Option.bind_some, if_neg (show ¬ (!decide ((0 : Int) = 0)) = true by decide), e1', Option.bind_some]
  simp only [jn]
  rw [if_neg (show ¬ (!decide True) = true by decide), hw]
  by_cases h0 : o.f1 = 0
  · rw [if_neg (by simp [h0]), if_pos h0]
  · obtain ⟨y, hy⟩ := at_ok (r := r) (i := o.f1) ho ho1
    rw [if_pos (by simp [h0]), hy, Option.bind_some, if_neg h0]
end
/-- What a block's loop comes to. -/
def BO (B fl : Int) (z : Nat) (s : Ts) (q : Option (Sum (Int × List Int × Int × List Int × Int × Int × List Int × Int × Int × Int × List Int) (List Int × Int × Int × List Int × Int × Int × Int × List Int × Int × List Int))) : Prop :=
  (∃ e s' r', ¬ e = 0 ∧ q = some (.inl (tb e s' r')) ∧ Iv B fl s' ∧ Gs 0 s s' ∧ r'.length = z + 1) ∨ (∃ s' r', q = some (.inr (tr s' r')) ∧ Iv B fl s' ∧ Gs 0 s s' ∧ r'.length = z + 1)
theorem BO.after {B fl : Int} {z : Nat} {s s1 : Ts} {q} (h : BO B fl z s1 q) (g : Gs 0 s s1) : BO B fl z s q := by
  rcases h with ⟨e, s', r', a, b, c, d, f⟩ | ⟨s', r', b, c, d, f⟩
  · exact .inl ⟨e, s', r', a, b, c, g.trans d, f⟩
  · exact .inr ⟨s', r', b, c, g.trans d, f⟩
/-- What two block loops come to. -/
def BR (fl fl' m B d : Int) (z : Nat) (q q' : Option (Sum (Int × List Int × Int × List Int × Int × Int × List Int × Int × Int × Int × List Int) (List Int × Int × Int × List Int × Int × Int × Int × List Int × Int × List Int))) : Prop :=
  (∃ e s' u' r', ¬ e = 0 ∧ q = some (.inl (tb e s' r')) ∧ q' = some (.inl (tb e u' r')) ∧ Rl m s' u') ∨
  (∃ e s' r' u', Dv fl fl' m e ∧ q = some (.inl (tb e s' r')) ∧ Ex s' u' ∧ BO (B + m) fl' z u' q') ∨
  (∃ s' u' r', q = some (.inr (tr s' r')) ∧ q' = some (.inr (tr u' r')) ∧ Rl m s' u' ∧ Iv B fl s' ∧ Iv (B + m) fl' u' ∧ s'.d = d)
theorem Rl.less {m : Int} {s u : Ts} (h : Rl m s u) : Rl m (less s) (less u) := { h with f := by show u.f - 1 = s.f - 1 + m; have := h.f; omega }
section
variable {n : Nat} {l : List S45} {fl : Int} {b : S42} {s : Ts} {r : List Int}
theorem bf_l {e : Int} {s' : Ts} {r' : List Int} (h : Bl n l fl b (b.f0.length + 1) 0 s r = some (.inl (tb e s' r'))) : Bf (n + 1) l fl s b r = some (tb e s' r') := by
  show trace_runner_block.g (trace_runner_call.fix n).1 (trace_runner_call.fix n).2.1 (trace_runner_call.fix n).2.2 l s.m s.h fl s.i s.f s.d s.o 0 s.ld s.st s.c b r = _
  unfold trace_runner_block.g
  have h' : trace_runner_block.l0 (trace_runner_call.fix n).2.2 l fl 0 b (b.f0.length + 1) r 0 s.i s.f s.d s.o s.ld s.st s.c s.m s.h = _ := h
  rw [h', Option.bind_some]
theorem bf_lo {s' : Ts} {r' : List Int} (h : Bl n l fl b (b.f0.length + 1) 0 s r = some (.inr (tr s' r'))) (hf : s'.f < 1) : Bf (n + 1) l fl s b r = some (tb 12 s' r') := by
  show trace_runner_block.g (trace_runner_call.fix n).1 (trace_runner_call.fix n).2.1 (trace_runner_call.fix n).2.2 l s.m s.h fl s.i s.f s.d s.o 0 s.ld s.st s.c b r = _
  unfold trace_runner_block.g
  have h' : trace_runner_block.l0 (trace_runner_call.fix n).2.2 l fl 0 b (b.f0.length + 1) r 0 s.i s.f s.d s.o s.ld s.st s.c s.m s.h = _ := h
  rw [h', Option.bind_some]
  simp only []
  rw [pay_lo hf, Option.bind_some]
theorem bf_hi {s' : Ts} {r' : List Int} (h : Bl n l fl b (b.f0.length + 1) 0 s r = some (.inr (tr s' r'))) (hf : ¬ s'.f < 1) (h1 : s'.f ≤ 100000) : Bf (n + 1) l fl s b r = some (tb 0 (less s') r') := by
  show trace_runner_block.g (trace_runner_call.fix n).1 (trace_runner_call.fix n).2.1 (trace_runner_call.fix n).2.2 l s.m s.h fl s.i s.f s.d s.o 0 s.ld s.st s.c b r = _
  unfold trace_runner_block.g
  have h' : trace_runner_block.l0 (trace_runner_call.fix n).2.2 l fl 0 b (b.f0.length + 1) r 0 s.i s.f s.d s.o s.ld s.st s.c s.m s.h = _ := h
  rw [h', Option.bind_some]
  simp only []
  rw [pay_hi hf h1, Option.bind_some]
end
abbrev Kl (n : Nat) (l : List S45) (fl : Int) (t : S45) (N : Nat) (x : Int) (s : Ts) (r : List Int) := trace_runner_call.l0 (trace_runner_call.fix n).2.1 l fl 0 t N r x s.i s.f s.d s.o s.ld s.st s.c s.m s.h
section
variable {n : Nat} {l : List S45} {fl : Int} {t : S45} {N : Nat} {x : Int} {s s' : Ts} {r r' : List Int} {y : S42} {e : Int}
theorem c_err (hy : at? t.f1 x = some y) (hb : Bf n l fl s y r = some (tb e s' r')) (he : ¬ e = 0) : Kl n l fl t (N + 1) x s r = some (tv 0 e (back s')) := by
  show trace_runner_call.l0 (trace_runner_call.fix n).2.1 l fl 0 t (N + 1) r x s.i s.f s.d s.o s.ld s.st s.c s.m s.h = _
  have q1' : (trace_runner_call.fix n).2.1 l s.m s.h fl s.i s.f s.d s.o 0 s.ld s.st s.c y r = some (tb e s' r') := hb
  rw [trace_runner_call.l0, hy, Option.bind_some, q1', Option.bind_some]
  simp only [jn]
  rw [if_pos (by simp [he])]
end
theorem Ex.back {s u : Ts} (h : Ex s u) : Ex (back s) (back u) := ⟨h.o, h.ld, h.st⟩
theorem Rl.back {m : Int} {s u : Ts} (h : Rl m s u) : Rl m (back s) (back u) := { h with d := by show IntKind.i64.wrap (u.d - 1) = IntKind.i64.wrap (s.d - 1); rw [h.d] }
theorem cf_hi {l : List S45} {fl : Int} {n : Nat} {s : Ts} {t : S45} {us : List Int} (hd : 1000 ≤ s.d) : Cf (n + 1) l fl s t us = some (tv 0 8 s) := by
  show trace_runner_call.g (trace_runner_call.fix n).1 (trace_runner_call.fix n).2.1 (trace_runner_call.fix n).2.2 l s.m s.h fl s.i s.f s.d s.o 0 s.ld s.st s.c t us = _
  unfold trace_runner_call.g
  rw [if_pos hd]
abbrev rg (z : Nat) (us : List Int) : List Int := cpyL (List.replicate ((z : Int) + 1).toNat (0 : Int)) 1 (((z : Int) + 1).toNat : Int) us
theorem rg_len (z : Nat) (us : List Int) : (rg z us).length = z + 1 := by
  have := cpy_len (xs := List.replicate ((z : Int) + 1).toNat (0 : Int)) (ys := us) (l := 1) (by omega) (by simp; omega)
  rw [List.length_replicate] at this
  show (cpyL (List.replicate ((z : Int) + 1).toNat (0 : Int)) 1 (((z : Int) + 1).toNat : Int) us).length = _
  rw [this]; omega
theorem cf_lo {l : List S45} {fl : Int} {n z : Nat} {s : Ts} {t : S45} {us : List Int} (hd0 : 0 ≤ s.d) (hd : ¬ 1000 ≤ s.d) (hz : Fz z t) {v e : Int} {s' : Ts} (h : Kl n l fl t 100000 0 { s with d := s.d + 1 } (rg z us) = some (tv v e s')) : Cf (n + 1) l fl s t us = some (tv v e s') := by
  show trace_runner_call.g (trace_runner_call.fix n).1 (trace_runner_call.fix n).2.1 (trace_runner_call.fix n).2.2 l s.m s.h fl s.i s.f s.d s.o 0 s.ld s.st s.c t us = _
  unfold trace_runner_call.g
  have hle := hz.le
  rw [if_neg hd, hz.regs, Option.bind_some, w64 (n := (z : Int) + 1) (by omega) (by omega), if_pos (by omega), List.length_replicate, if_pos (by omega), Option.bind_some, w64 (n := s.d + 1) (by omega) (by omega)]
  have h' : trace_runner_call.l0 (trace_runner_call.fix n).2.1 l fl 0 t 100000 (cpyL (List.replicate ((z : Int) + 1).toNat (0 : Int)) 1 (((z : Int) + 1).toNat : Int) us) 0 s.i s.f (s.d + 1) s.o s.ld s.st s.c s.m s.h = some (tv v e s') := h
  rw [h', Option.bind_some]
end Go.Proofs.Ytfmocegnpmomnaa.Sy
set_option linter.unusedVariables false
set_option linter.unusedSimpArgs false
set_option maxRecDepth 100000
set_option maxHeartbeats 4000000
namespace Go.Proofs.Ytfmocegnpmomnaa.Sy
open Go Go.RowKit Go.Proofs.YtfmocegnpmomnaaW.PrintWords 
def swageref14_SameOp.f (a0:S37) (a1:S37):Option Bool:=(swageref02_Ints.f a0.f5 a1.f5).bind fun (y11:Bool)=>(if y11=true then (if a0.f0=a1.f0 then (if a0.f1=a1.f1 then (if a0.f2=a1.f2 then (if a0.f3=a1.f3 then some (decide (a0.f4=a1.f4)) else some false) else some false) else some false) else some false) else some false)
def swageref14_SameOp.post (G:Gd)  (r:Bool) (v:Value) (G':Gd) (Lr:List Ch):Prop:=G=G'∧v=.bool r∧Lr=[]
theorem swageref14_SameOp.calls {G:Gd} {r:Bool} {a0:S37} {a1:S37} {A1:Option Addr} {c2:Nat} {A5:Option Addr} {c6:Nat} (hr3:Rd G kI A1 a0.f5) (hl4:a0.f5.length ≤ c2) (hr7:Rd G kI A5 a1.f5) (hl8:a1.f5.length ≤ c6) (h:swageref14_SameOp.f a0 a1=some r):Fn Try.prog 48 G [] [.agg #[VI a0.f0,VI a0.f1,VI a0.f2,VI a0.f3,VI a0.f4,.slice A1 a0.f5.length c2],.agg #[VI a1.f0,VI a1.f1,VI a1.f2,VI a1.f3,VI a1.f4,.slice A5 a1.f5.length c6]] (swageref14_SameOp.post G  r):=by
 refine Fn.intro (e:=[(0,.agg #[VI a0.f0,VI a0.f1,VI a0.f2,VI a0.f3,VI a0.f4,.slice A1 a0.f5.length c2]),(1,.agg #[VI a1.f0,VI a1.f1,VI a1.f2,VI a1.f3,VI a1.f4,.slice A5 a1.f5.length c6])]) 47 Try.func48 rfl Try.ntmps48 rfl rfl (Nat.le_of_ble_eq_true rfl) (fun L=>?_)
 unfold swageref14_SameOp.f at h
 refine TC.seq ?_
 refine TC.region ?_
 refine TL.cons (TL.box (cs:=[VI a0.f0,VI a0.f1,VI a0.f2,VI a0.f3,VI a0.f4,.slice A1 a0.f5.length c2]) rfl rfl rfl rfl (fun b9=>?_))
 refine TL.cons (TL.box (cs:=[VI a1.f0,VI a1.f1,VI a1.f2,VI a1.f3,VI a1.f4,.slice A5 a1.f5.length c6]) rfl rfl rfl rfl (fun b10=>?_))
 refine TV rfl rfl rfl (Val.assign rfl) ?_
 refine TL.nil ?_
 refine TQ.then_ ?_
 refine TC.seq ?_
 refine TC.region ?_
 refine TV rfl rfl rfl (Val.fieldAddrB Try.underlying37 rfl fsz23 rfl rfl rfl) ?_
 refine TV rfl rfl rfl (Val.loadB 1 agg23 rfl rfl rfl) ?_
 refine TV rfl rfl rfl (Val.fieldAddrB Try.underlying37 rfl fsz23 rfl rfl rfl) ?_
 refine TV rfl rfl rfl (Val.loadB 0 agg23 rfl rfl rfl) ?_
 obtain ⟨y11,hy12,h⟩:=bind_no h
 refine TL.cons (TL.callV (Lin:=[]) (args:=[.slice A1 a0.f5.length c2,.slice A5 a1.f5.length c6]) rfl rfl rfl hbd14 rfl rfl (swageref02_Ints.calls (a0:=a0.f5) (a1:=a1.f5) hr3 hl4 hr7 hl8 hy12) rfl ?_)
 rintro _ _ _ _ ⟨rfl,rfl,rfl⟩
 refine TV rfl rfl rfl (Val.assign rfl) ?_
 refine TL.nil ?_
 refine TQ.then_ ?_
 refine TC.seq ?_
 refine TC.region ?_
 refine TV rfl rfl rfl (Val.move rfl) ?_
 refine TV rfl rfl rfl (Val.move rfl) ?_
 refine TK.split (p:=y11=true) h (fun hg28 h=>?_) (fun hg28 h=>?_)
 ·
  have hk29:y11=true:=hg28
  refine TV (Wt.yes rfl rfl rfl hk29) rfl rfl (Val.fieldAddrB Try.underlying37 rfl fsz3 rfl rfl rfl) ?_
  refine TV (Wt.yes rfl rfl rfl hk29) rfl rfl (Val.loadB 1 agg3 rfl rfl rfl) ?_
  refine TV (Wt.yes rfl rfl rfl hk29) rfl rfl (Val.fieldAddrB Try.underlying37 rfl fsz3 rfl rfl rfl) ?_
  refine TV (Wt.yes rfl rfl rfl hk29) rfl rfl (Val.loadB 0 agg3 rfl rfl rfl) ?_
  refine TV (Wt.yes rfl rfl rfl hk29) rfl rfl (Val.cmp rfl rfl run_eql) ?_
  refine TV rfl rfl rfl (Val.pickY rfl hk29 rfl) ?_
  refine TV rfl rfl rfl (Val.move rfl) ?_
  refine TK.split (p:=a0.f0=a1.f0) h (fun hg30 h=>?_) (fun hg30 h=>?_)
  ·
   have hk31:decide (a0.f0=a1.f0)=true:=decide_eq_true hg30
   refine TV (Wt.yes rfl rfl rfl hk31) rfl rfl (Val.fieldAddrB Try.underlying37 rfl fsz3 rfl rfl rfl) ?_
   refine TV (Wt.yes rfl rfl rfl hk31) rfl rfl (Val.loadB 1 agg3 rfl rfl rfl) ?_
   refine TV (Wt.yes rfl rfl rfl hk31) rfl rfl (Val.fieldAddrB Try.underlying37 rfl fsz3 rfl rfl rfl) ?_
   refine TV (Wt.yes rfl rfl rfl hk31) rfl rfl (Val.loadB 0 agg3 rfl rfl rfl) ?_
   refine TV (Wt.yes rfl rfl rfl hk31) rfl rfl (Val.cmp rfl rfl run_eql) ?_
   refine TV rfl rfl rfl (Val.pickY rfl hk31 rfl) ?_
   refine TV rfl rfl rfl (Val.move rfl) ?_
   refine TK.split (p:=a0.f1=a1.f1) h (fun hg32 h=>?_) (fun hg32 h=>?_)
   ·
    have hk33:decide (a0.f1=a1.f1)=true:=decide_eq_true hg32
    refine TV (Wt.yes rfl rfl rfl hk33) rfl rfl (Val.fieldAddrB Try.underlying37 rfl fsz3 rfl rfl rfl) ?_
    refine TV (Wt.yes rfl rfl rfl hk33) rfl rfl (Val.loadB 1 agg3 rfl rfl rfl) ?_
    refine TV (Wt.yes rfl rfl rfl hk33) rfl rfl (Val.fieldAddrB Try.underlying37 rfl fsz3 rfl rfl rfl) ?_
    refine TV (Wt.yes rfl rfl rfl hk33) rfl rfl (Val.loadB 0 agg3 rfl rfl rfl) ?_
    refine TV (Wt.yes rfl rfl rfl hk33) rfl rfl (Val.cmp rfl rfl run_eql) ?_
    refine TV rfl rfl rfl (Val.pickY rfl hk33 rfl) ?_
    refine TV rfl rfl rfl (Val.move rfl) ?_
    refine TK.split (p:=a0.f2=a1.f2) h (fun hg34 h=>?_) (fun hg34 h=>?_)
    ·
     have hk35:decide (a0.f2=a1.f2)=true:=decide_eq_true hg34
     refine TV (Wt.yes rfl rfl rfl hk35) rfl rfl (Val.fieldAddrB Try.underlying37 rfl fsz3 rfl rfl rfl) ?_
     refine TV (Wt.yes rfl rfl rfl hk35) rfl rfl (Val.loadB 1 agg3 rfl rfl rfl) ?_
     refine TV (Wt.yes rfl rfl rfl hk35) rfl rfl (Val.fieldAddrB Try.underlying37 rfl fsz3 rfl rfl rfl) ?_
     refine TV (Wt.yes rfl rfl rfl hk35) rfl rfl (Val.loadB 0 agg3 rfl rfl rfl) ?_
     refine TV (Wt.yes rfl rfl rfl hk35) rfl rfl (Val.cmp rfl rfl run_eql) ?_
     refine TV rfl rfl rfl (Val.pickY rfl hk35 rfl) ?_
     refine TV rfl rfl rfl (Val.move rfl) ?_
     refine TK.split (p:=a0.f3=a1.f3) h (fun hg36 h=>?_) (fun hg36 h=>?_)
     ·
      have hk37:decide (a0.f3=a1.f3)=true:=decide_eq_true hg36
      refine TV (Wt.yes rfl rfl rfl hk37) rfl rfl (Val.fieldAddrB Try.underlying37 rfl fsz3 rfl rfl rfl) ?_
      refine TV (Wt.yes rfl rfl rfl hk37) rfl rfl (Val.loadB 1 agg3 rfl rfl rfl) ?_
      refine TV (Wt.yes rfl rfl rfl hk37) rfl rfl (Val.fieldAddrB Try.underlying37 rfl fsz3 rfl rfl rfl) ?_
      refine TV (Wt.yes rfl rfl rfl hk37) rfl rfl (Val.loadB 0 agg3 rfl rfl rfl) ?_
      refine TV (Wt.yes rfl rfl rfl hk37) rfl rfl (Val.cmp rfl rfl run_eql) ?_
      refine TV rfl rfl rfl (Val.pickY rfl hk37 rfl) ?_
      refine TV rfl rfl rfl (Val.assign rfl) ?_
      refine TL.nil ?_
      refine TQ.then_ ?_
      refine TC.ret ?_
      obtain rfl:=Option.some.inj h
      exact TQ.fin (.inl rfl) rfl Try.results48 (.tmp rfl .nil) rfl (FRel.mk (Ls:=[]) [] 2 (Gd.le.refl _) rfl rfl rfl ⟨rfl,rfl,rfl⟩)
     ·
      have hk38:decide (a0.f3=a1.f3)=false:=decide_eq_false hg36
      refine TL.cons (TL.not (Wt.no rfl rfl rfl hk38) rfl ?_)
      refine TL.cons (TL.not (Wt.no rfl rfl rfl hk38) rfl ?_)
      refine TL.cons (TL.not (Wt.no rfl rfl rfl hk38) rfl ?_)
      refine TL.cons (TL.not (Wt.no rfl rfl rfl hk38) rfl ?_)
      refine TL.cons (TL.not (Wt.no rfl rfl rfl hk38) rfl ?_)
      refine TV rfl rfl rfl (Val.pickN rfl hk38 rfl) ?_
      refine TV rfl rfl rfl (Val.assign rfl) ?_
      refine TL.nil ?_
      refine TQ.then_ ?_
      refine TC.ret ?_
      obtain rfl:=Option.some.inj h
      exact TQ.fin (.inl rfl) rfl Try.results48 (.tmp rfl .nil) rfl (FRel.mk (Ls:=[]) [] 2 (Gd.le.refl _) rfl rfl rfl ⟨rfl,rfl,rfl⟩)
    ·
     have hk39:decide (a0.f2=a1.f2)=false:=decide_eq_false hg34
     refine TL.cons (TL.not (Wt.no rfl rfl rfl hk39) rfl ?_)
     refine TL.cons (TL.not (Wt.no rfl rfl rfl hk39) rfl ?_)
     refine TL.cons (TL.not (Wt.no rfl rfl rfl hk39) rfl ?_)
     refine TL.cons (TL.not (Wt.no rfl rfl rfl hk39) rfl ?_)
     refine TL.cons (TL.not (Wt.no rfl rfl rfl hk39) rfl ?_)
     refine TV rfl rfl rfl (Val.pickN rfl hk39 rfl) ?_
     refine TV rfl rfl rfl (Val.move rfl) ?_
     refine TL.cons (TL.not (Wt.no rfl rfl rfl rfl) rfl ?_)
     refine TL.cons (TL.not (Wt.no rfl rfl rfl rfl) rfl ?_)
     refine TL.cons (TL.not (Wt.no rfl rfl rfl rfl) rfl ?_)
     refine TL.cons (TL.not (Wt.no rfl rfl rfl rfl) rfl ?_)
     refine TL.cons (TL.not (Wt.no rfl rfl rfl rfl) rfl ?_)
     refine TV rfl rfl rfl (Val.pickN rfl rfl rfl) ?_
     refine TV rfl rfl rfl (Val.assign rfl) ?_
     refine TL.nil ?_
     refine TQ.then_ ?_
     refine TC.ret ?_
     obtain rfl:=Option.some.inj h
     exact TQ.fin (.inl rfl) rfl Try.results48 (.tmp rfl .nil) rfl (FRel.mk (Ls:=[]) [] 2 (Gd.le.refl _) rfl rfl rfl ⟨rfl,rfl,rfl⟩)
   ·
    have hk40:decide (a0.f1=a1.f1)=false:=decide_eq_false hg32
    refine TL.cons (TL.not (Wt.no rfl rfl rfl hk40) rfl ?_)
    refine TL.cons (TL.not (Wt.no rfl rfl rfl hk40) rfl ?_)
    refine TL.cons (TL.not (Wt.no rfl rfl rfl hk40) rfl ?_)
    refine TL.cons (TL.not (Wt.no rfl rfl rfl hk40) rfl ?_)
    refine TL.cons (TL.not (Wt.no rfl rfl rfl hk40) rfl ?_)
    refine TV rfl rfl rfl (Val.pickN rfl hk40 rfl) ?_
    refine TV rfl rfl rfl (Val.move rfl) ?_
    refine TL.cons (TL.not (Wt.no rfl rfl rfl rfl) rfl ?_)
    refine TL.cons (TL.not (Wt.no rfl rfl rfl rfl) rfl ?_)
    refine TL.cons (TL.not (Wt.no rfl rfl rfl rfl) rfl ?_)
    refine TL.cons (TL.not (Wt.no rfl rfl rfl rfl) rfl ?_)
    refine TL.cons (TL.not (Wt.no rfl rfl rfl rfl) rfl ?_)
    refine TV rfl rfl rfl (Val.pickN rfl rfl rfl) ?_
    refine TV rfl rfl rfl (Val.move rfl) ?_
    refine TL.cons (TL.not (Wt.no rfl rfl rfl rfl) rfl ?_)
    refine TL.cons (TL.not (Wt.no rfl rfl rfl rfl) rfl ?_)
    refine TL.cons (TL.not (Wt.no rfl rfl rfl rfl) rfl ?_)
    refine TL.cons (TL.not (Wt.no rfl rfl rfl rfl) rfl ?_)
    refine TL.cons (TL.not (Wt.no rfl rfl rfl rfl) rfl ?_)
    refine TV rfl rfl rfl (Val.pickN rfl rfl rfl) ?_
    refine TV rfl rfl rfl (Val.assign rfl) ?_
    refine TL.nil ?_
    refine TQ.then_ ?_
    refine TC.ret ?_
    obtain rfl:=Option.some.inj h
    exact TQ.fin (.inl rfl) rfl Try.results48 (.tmp rfl .nil) rfl (FRel.mk (Ls:=[]) [] 2 (Gd.le.refl _) rfl rfl rfl ⟨rfl,rfl,rfl⟩)
  ·
   have hk41:decide (a0.f0=a1.f0)=false:=decide_eq_false hg30
   refine TL.cons (TL.not (Wt.no rfl rfl rfl hk41) rfl ?_)
   refine TL.cons (TL.not (Wt.no rfl rfl rfl hk41) rfl ?_)
   refine TL.cons (TL.not (Wt.no rfl rfl rfl hk41) rfl ?_)
   refine TL.cons (TL.not (Wt.no rfl rfl rfl hk41) rfl ?_)
   refine TL.cons (TL.not (Wt.no rfl rfl rfl hk41) rfl ?_)
   refine TV rfl rfl rfl (Val.pickN rfl hk41 rfl) ?_
   refine TV rfl rfl rfl (Val.move rfl) ?_
   refine TL.cons (TL.not (Wt.no rfl rfl rfl rfl) rfl ?_)
   refine TL.cons (TL.not (Wt.no rfl rfl rfl rfl) rfl ?_)
   refine TL.cons (TL.not (Wt.no rfl rfl rfl rfl) rfl ?_)
   refine TL.cons (TL.not (Wt.no rfl rfl rfl rfl) rfl ?_)
   refine TL.cons (TL.not (Wt.no rfl rfl rfl rfl) rfl ?_)
   refine TV rfl rfl rfl (Val.pickN rfl rfl rfl) ?_
   refine TV rfl rfl rfl (Val.move rfl) ?_
   refine TL.cons (TL.not (Wt.no rfl rfl rfl rfl) rfl ?_)
   refine TL.cons (TL.not (Wt.no rfl rfl rfl rfl) rfl ?_)
   refine TL.cons (TL.not (Wt.no rfl rfl rfl rfl) rfl ?_)
   refine TL.cons (TL.not (Wt.no rfl rfl rfl rfl) rfl ?_)
   refine TL.cons (TL.not (Wt.no rfl rfl rfl rfl) rfl ?_)
   refine TV rfl rfl rfl (Val.pickN rfl rfl rfl) ?_
   refine TV rfl rfl rfl (Val.move rfl) ?_
   refine TL.cons (TL.not (Wt.no rfl rfl rfl rfl) rfl ?_)
   refine TL.cons (TL.not (Wt.no rfl rfl rfl rfl) rfl ?_)
   refine TL.cons (TL.not (Wt.no rfl rfl rfl rfl) rfl ?_)
   refine TL.cons (TL.not (Wt.no rfl rfl rfl rfl) rfl ?_)
   refine TL.cons (TL.not (Wt.no rfl rfl rfl rfl) rfl ?_)
   refine TV rfl rfl rfl (Val.pickN rfl rfl rfl) ?_
   refine TV rfl rfl rfl (Val.assign rfl) ?_
   refine TL.nil ?_
   refine TQ.then_ ?_
   refine TC.ret ?_
   obtain rfl:=Option.some.inj h
   exact TQ.fin (.inl rfl) rfl Try.results48 (.tmp rfl .nil) rfl (FRel.mk (Ls:=[]) [] 2 (Gd.le.refl _) rfl rfl rfl ⟨rfl,rfl,rfl⟩)
 ·
  have hk42:y11=false:=(by simpa using hg28)
  refine TL.cons (TL.not (Wt.no rfl rfl rfl hk42) rfl ?_)
  refine TL.cons (TL.not (Wt.no rfl rfl rfl hk42) rfl ?_)
  refine TL.cons (TL.not (Wt.no rfl rfl rfl hk42) rfl ?_)
  refine TL.cons (TL.not (Wt.no rfl rfl rfl hk42) rfl ?_)
  refine TL.cons (TL.not (Wt.no rfl rfl rfl hk42) rfl ?_)
  refine TV rfl rfl rfl (Val.pickN rfl hk42 rfl) ?_
  refine TV rfl rfl rfl (Val.move rfl) ?_
  refine TL.cons (TL.not (Wt.no rfl rfl rfl rfl) rfl ?_)
  refine TL.cons (TL.not (Wt.no rfl rfl rfl rfl) rfl ?_)
  refine TL.cons (TL.not (Wt.no rfl rfl rfl rfl) rfl ?_)
  refine TL.cons (TL.not (Wt.no rfl rfl rfl rfl) rfl ?_)
  refine TL.cons (TL.not (Wt.no rfl rfl rfl rfl) rfl ?_)
  refine TV rfl rfl rfl (Val.pickN rfl rfl rfl) ?_
  refine TV rfl rfl rfl (Val.move rfl) ?_
  refine TL.cons (TL.not (Wt.no rfl rfl rfl rfl) rfl ?_)
  refine TL.cons (TL.not (Wt.no rfl rfl rfl rfl) rfl ?_)
  refine TL.cons (TL.not (Wt.no rfl rfl rfl rfl) rfl ?_)
  refine TL.cons (TL.not (Wt.no rfl rfl rfl rfl) rfl ?_)
  refine TL.cons (TL.not (Wt.no rfl rfl rfl rfl) rfl ?_)
  refine TV rfl rfl rfl (Val.pickN rfl rfl rfl) ?_
  refine TV rfl rfl rfl (Val.move rfl) ?_
  refine TL.cons (TL.not (Wt.no rfl rfl rfl rfl) rfl ?_)
  refine TL.cons (TL.not (Wt.no rfl rfl rfl rfl) rfl ?_)
  refine TL.cons (TL.not (Wt.no rfl rfl rfl rfl) rfl ?_)
  refine TL.cons (TL.not (Wt.no rfl rfl rfl rfl) rfl ?_)
  refine TL.cons (TL.not (Wt.no rfl rfl rfl rfl) rfl ?_)
  refine TV rfl rfl rfl (Val.pickN rfl rfl rfl) ?_
  refine TV rfl rfl rfl (Val.move rfl) ?_
  refine TL.cons (TL.not (Wt.no rfl rfl rfl rfl) rfl ?_)
  refine TL.cons (TL.not (Wt.no rfl rfl rfl rfl) rfl ?_)
  refine TL.cons (TL.not (Wt.no rfl rfl rfl rfl) rfl ?_)
  refine TL.cons (TL.not (Wt.no rfl rfl rfl rfl) rfl ?_)
  refine TL.cons (TL.not (Wt.no rfl rfl rfl rfl) rfl ?_)
  refine TV rfl rfl rfl (Val.pickN rfl rfl rfl) ?_
  refine TV rfl rfl rfl (Val.assign rfl) ?_
  refine TL.nil ?_
  refine TQ.then_ ?_
  refine TC.ret ?_
  obtain rfl:=Option.some.inj h
  exact TQ.fin (.inl rfl) rfl Try.results48 (.tmp rfl .nil) rfl (FRel.mk (Ls:=[]) [] 2 (Gd.le.refl _) rfl rfl rfl ⟨rfl,rfl,rfl⟩)
def swageref14_Same.l1 (a0:S45) (a1:S45) (x2185:Int):Nat → Int → Option (Sum (Sum Bool (Unit)) (Unit))
 | 0,_=>none
 | n5638 + 1,x5453=>(at? a0.f1 x2185).bind fun y5822=>(if x5453 < (y5822.f0.length:Int) then (at? y5822.f0 x5453).bind fun y5962=>(at? a1.f1 x2185).bind fun y5975=>(at? y5975.f0 x5453).bind fun y5988=>(swageref14_SameOp.f y5962 y5988).bind fun (y6001:Bool)=>(if (!y6001)=true then some (.inl (.inl false)) else swageref14_Same.l1 a0 a1 x2185 n5638 (IntKind.i64.wrap (x5453 + 1))) else some (.inr ()))
def swageref14_Same.l0 (a0:S45) (a1:S45):Nat → Int → Option (Sum Bool (Unit))
 | 0,_=>none
 | n3270 + 1,x2185=>(if x2185 < (a0.f1.length:Int) then jn (γ:=(Sum Bool (Unit))) (fun (x5082:Bool)=>(if x5082=true then some (.inl false) else (swageref14_Same.l1 a0 a1 x2185 ((at? a0.f1 x2185).elim 0 (fun vy5639=>vy5639.f0.length) + 1) 0).bind fun | .inl q_=>some q_ | .inr _=>(swageref14_Same.l0 a0 a1 n3270 (IntKind.i64.wrap (x2185 + 1))))) (fun (j5083:(Bool → Option (Sum Bool (Unit))))=>(at? a0.f1 x2185).bind fun y6034=>(at? a1.f1 x2185).bind fun y6047=>(if (!((y6034.f1.f0 == y6047.f1.f0) && ((y6034.f1.f1 == y6047.f1.f1) && ((y6034.f1.f2 == y6047.f1.f2) && (y6034.f1.f3 == y6047.f1.f3)))))=true then j5083 true else j5083 (!decide ((y6034.f0.length:Int)=(y6047.f0.length:Int))))) else some (.inr ()))
def swageref14_Same.f (a0:S45) (a1:S45):Option Bool:=jn (γ:=Bool) (fun (x14:Bool)=>(if x14=true then some false else (swageref14_Same.l0 a0 a1 (a0.f1.length + 1) 0).bind fun | .inl q_=>some q_ | .inr _=>(some true))) (fun (j15:(Bool → Option Bool))=>(if (!decide (a0.f0=a1.f0))=true then j15 true else j15 (!decide ((a0.f1.length:Int)=(a1.f1.length:Int)))))
def swageref14_Same.post (G:Gd)  (r:Bool) (v:Value) (G':Gd) (Lr:List Ch):Prop:=G=G'∧v=.bool r∧Lr=[]
theorem swageref14_Same.calls {G:Gd} {r:Bool} {a0:S45} {a1:S45} {A1:Option Addr} {c2:Nat} {A5:Option Addr} {c6:Nat} (hr3:Rd G k42 A1 a0.f1) (hl4:a0.f1.length ≤ c2) (hr7:Rd G k42 A5 a1.f1) (hl8:a1.f1.length ≤ c6) (h:swageref14_Same.f a0 a1=some r):Fn Try.prog 41 G [] [.agg #[VI a0.f0,.slice A1 a0.f1.length c2],.agg #[VI a1.f0,.slice A5 a1.f1.length c6]] (swageref14_Same.post G  r):=by
 refine Fn.intro (e:=[(0,.agg #[VI a0.f0,.slice A1 a0.f1.length c2]),(1,.agg #[VI a1.f0,.slice A5 a1.f1.length c6])]) 91 Try.func41 rfl Try.ntmps41 rfl rfl (Nat.le_of_ble_eq_true rfl) (fun L=>?_)
 unfold swageref14_Same.f at h
 refine TC.seq ?_
 refine TC.region ?_
 refine TL.cons (TL.box (cs:=[VI a0.f0,.slice A1 a0.f1.length c2]) rfl rfl rfl rfl (fun b9=>?_))
 refine TL.cons (TL.box (cs:=[VI a1.f0,.slice A5 a1.f1.length c6]) rfl rfl rfl rfl (fun b10=>?_))
 refine TV rfl rfl rfl (Val.assign rfl) ?_
 refine TL.nil ?_
 refine TQ.then_ ?_
 refine TC.seq ?_
 refine TC.seq ?_
 obtain ⟨j15,hj15,h⟩:=jn_no h
 refine TC.tail (fun a W=>∃ (x14:Bool),j15 x14=some r∧Fr 91 a [(2,VP b9 0),(3,VP b10 0),(21,.bool x14)]∧Own G (Blk b10 [VI a1.f0,.slice A5 a1.f1.length c6] 45::Blk b9 [VI a0.f0,.slice A1 a0.f1.length c2] 45::L) W) ?_ ?_
 ·
  rintro a W ⟨x14,h,hF,hO⟩
  rw [hj15] at h
  refine TQ.use ?_ hF hO
  clear hF hO
  refine TQ.then_ ?_
  refine TC.cond_b rfl h (fun hc17 h=>?_) (fun hc17 h=>?_)
  ·
   refine TC.seq ?_
   refine TC.region ?_
   refine TV rfl rfl rfl (Val.assign rfl) ?_
   refine TL.nil ?_
   refine TQ.then_ ?_
   refine TC.ret ?_
   refine TQ.thenR ?_
   obtain rfl:=Option.some.inj h
   exact TQ.fin (.inl rfl) rfl Try.results41 (.tmp rfl .nil) rfl (FRel.mk (Ls:=[]) [] 2 (Gd.le.refl _) rfl rfl rfl ⟨rfl,rfl,rfl⟩)
  ·
   refine TC.skip ?_
   refine TQ.then_ ?_
   refine TC.seq ?_
   refine TC.seq ?_
   refine TC.region ?_
   refine TV rfl rfl rfl (Val.assign rfl) ?_
   refine TL.nil ?_
   refine TQ.then_ ?_
   obtain ⟨o3269,ho3269,ko3269⟩:=bind_no h
   clear h
   refine TC.tail (fun a W=>(.inr ())=o3269∧Fr 91 a []∧Own G (L) W) ?_ ?_
   ·
    rintro a W ⟨rfl,hF,hO⟩
    have h:=ko3269
    clear ko3269 ho3269
    refine TQ.use ?_ hF hO
    clear hF hO
    refine TQ.then_ ?_
    refine TC.seq ?_
    refine TC.region ?_
    refine TV rfl rfl rfl (Val.assign rfl) ?_
    refine TL.nil ?_
    refine TQ.then_ ?_
    refine TC.ret ?_
    obtain rfl:=Option.some.inj h
    exact TQ.fin (.inl rfl) rfl Try.results41 (.tmp rfl .nil) rfl (FRel.mk (Ls:=[]) [] 0 (Gd.le.refl _) rfl rfl rfl ⟨rfl,rfl,rfl⟩)
   ·
    refine TC.block ?_
    intro a W hF hO
    have hS:∃ (x2185:Int),swageref14_Same.l0 a0 a1 (a0.f1.length + 1) x2185=some o3269∧Fr 91 a [(2,VP b9 0),(3,VP b10 0),(5,VI x2185)]∧Own G (Blk b10 [VI a1.f0,.slice A5 a1.f1.length c6] 45::Blk b9 [VI a0.f0,.slice A1 a0.f1.length c2] 45::L) W:=by
     exact ⟨0,ho3269,hF.sub ⟨rfl,rfl,rfl,trivial⟩,hO.selT (Ls:=[Blk b10 [VI a1.f0,.slice A5 a1.f1.length c6] 45,Blk b9 [VI a0.f0,.slice A1 a0.f1.length c2] 45]) [0,1] 2 rfl rfl rfl⟩
    clear hF hO ho3269
    refine TC.loop (fun n3270 a W=>∃ (x2185:Int),swageref14_Same.l0 a0 a1 n3270 x2185=some o3269∧Fr 91 a [(2,VP b9 0),(3,VP b10 0),(5,VI x2185)]∧Own G (Blk b10 [VI a1.f0,.slice A5 a1.f1.length c6] 45::Blk b9 [VI a0.f0,.slice A1 a0.f1.length c2] 45::L) W) ?_ ?_ hS
    ·
     rintro a W ⟨x2185,h,hF,hO⟩
     exact none_no h
    ·
     clear hS
     rintro n3270 a W ⟨x2185,h,hF,hO⟩
     rw [swageref14_Same.l0] at h
     refine TC.use ?_ hF hO
     clear hF hO
     refine TC.seq ?_
     refine TC.seq ?_
     refine TC.region ?_
     refine TV rfl rfl rfl (Val.move rfl) ?_
     refine TV rfl rfl rfl (Val.fieldAddrB Try.underlying45 rfl fsz43 rfl rfl rfl) ?_
     refine TV rfl rfl rfl (Val.loadB 1 agg43 rfl rfl rfl) ?_
     refine TV rfl rfl rfl (Val.len Try.underlying43 rfl) ?_
     refine TV rfl rfl rfl (Val.cmp rfl rfl run_lss) ?_
     refine TL.nil ?_
     refine TQ.then_ ?_
     refine TC.cond_p rfl h (fun hc4355 h=>?_) (fun hc4355 h=>?_)
     ·
      refine TC.skip ?_
      refine TQ.then_ ?_
      refine TC.seq ?_
      refine TC.block ?_
      refine TC.seq ?_
      refine TC.seq ?_
      obtain ⟨j5083,hj5083,h⟩:=jn_no h
      refine TC.tail (fun a W=>∃ (x5082:Bool),j5083 x5082=some o3269∧Fr 91 a [(2,VP b9 0),(3,VP b10 0),(5,VI x2185),(58,.bool x5082)]∧Own G (Blk b10 [VI a1.f0,.slice A5 a1.f1.length c6] 45::Blk b9 [VI a0.f0,.slice A1 a0.f1.length c2] 45::L) W) ?_ ?_
      ·
       rintro a W ⟨x5082,h,hF,hO⟩
       rw [hj5083] at h
       refine TQ.use ?_ hF hO
       clear hF hO
       refine TQ.then_ ?_
       refine TC.cond_b rfl h (fun hc5085 h=>?_) (fun hc5085 h=>?_)
       ·
        refine TC.seq ?_
        refine TC.region ?_
        refine TV rfl rfl rfl (Val.assign rfl) ?_
        refine TL.nil ?_
        refine TQ.then_ ?_
        refine TC.ret ?_
        refine TQ.thenR ?_
        refine TQ.inBR ?_
        refine TQ.thenR ?_
        refine TQ.thenR ?_
        refine TQ.inBR ?_
        refine TQ.thenR ?_
        refine TQ.thenR ?_
        obtain rfl:=Option.some.inj h
        have h:=ko3269
        obtain rfl:=Option.some.inj h
        exact TQ.fin (.inl rfl) rfl Try.results41 (.tmp rfl .nil) rfl (FRel.mk (Ls:=[]) [] 2 (Gd.le.refl _) rfl rfl rfl ⟨rfl,rfl,rfl⟩)
       ·
        refine TC.skip ?_
        refine TQ.then_ ?_
        refine TC.seq ?_
        refine TC.region ?_
        refine TV rfl rfl rfl (Val.assign rfl) ?_
        refine TL.nil ?_
        refine TQ.then_ ?_
        obtain ⟨o5637,ho5637,ko5637⟩:=bind_no h
        clear h
        refine TC.tail (fun a W=>(.inr ())=o5637∧Fr 91 a [(2,VP b9 0),(3,VP b10 0),(5,VI x2185)]∧Own G (Blk b10 [VI a1.f0,.slice A5 a1.f1.length c6] 45::Blk b9 [VI a0.f0,.slice A1 a0.f1.length c2] 45::L) W) ?_ ?_
        ·
         rintro a W ⟨rfl,hF,hO⟩
         have h:=ko5637
         clear ko5637 ho5637
         refine TQ.use ?_ hF hO
         clear hF hO
         refine TQ.inB ?_
         refine TQ.then_ ?_
         refine TC.region ?_
         refine TV rfl rfl rfl (Val.move rfl) ?_
         refine TV rfl rfl rfl (Val.cmp rfl rfl run_add) ?_
         refine TV rfl rfl rfl (Val.assign rfl) ?_
         refine TL.nil ?_
         exact fun a W hF hO=>⟨IntKind.i64.wrap (x2185 + 1),h,hF.sub ⟨rfl,rfl,rfl,trivial⟩,hO.selT (Ls:=[Blk b10 [VI a1.f0,.slice A5 a1.f1.length c6] 45,Blk b9 [VI a0.f0,.slice A1 a0.f1.length c2] 45]) [0,1] 2 rfl rfl rfl⟩
        ·
         refine TC.block ?_
         intro a W hF hO
         have hS:∃ (x5453:Int),swageref14_Same.l1 a0 a1 x2185 ((at? a0.f1 x2185).elim 0 (fun vy5639=>vy5639.f0.length) + 1) x5453=some o5637∧Fr 91 a [(2,VP b9 0),(3,VP b10 0),(5,VI x2185),(6,VI x5453)]∧Own G (Blk b10 [VI a1.f0,.slice A5 a1.f1.length c6] 45::Blk b9 [VI a0.f0,.slice A1 a0.f1.length c2] 45::L) W:=by
          exact ⟨0,ho5637,hF.sub ⟨rfl,rfl,rfl,rfl,trivial⟩,hO.selT (Ls:=[Blk b10 [VI a1.f0,.slice A5 a1.f1.length c6] 45,Blk b9 [VI a0.f0,.slice A1 a0.f1.length c2] 45]) [0,1] 2 rfl rfl rfl⟩
         clear hF hO ho5637
         refine TC.loop (fun n5638 a W=>∃ (x5453:Int),swageref14_Same.l1 a0 a1 x2185 n5638 x5453=some o5637∧Fr 91 a [(2,VP b9 0),(3,VP b10 0),(5,VI x2185),(6,VI x5453)]∧Own G (Blk b10 [VI a1.f0,.slice A5 a1.f1.length c6] 45::Blk b9 [VI a0.f0,.slice A1 a0.f1.length c2] 45::L) W) ?_ ?_ hS
         ·
          rintro a W ⟨x5453,h,hF,hO⟩
          exact none_no h
         ·
          clear hS
          rintro n5638 a W ⟨x5453,h,hF,hO⟩
          rw [swageref14_Same.l1] at h
          refine TC.use ?_ hF hO
          clear hF hO
          refine TC.seq ?_
          refine TC.seq ?_
          refine TC.region ?_
          refine TV rfl rfl rfl (Val.move rfl) ?_
          refine TV rfl rfl rfl (Val.fieldAddrB Try.underlying45 rfl fsz43 rfl rfl rfl) ?_
          refine TV rfl rfl rfl (Val.loadB 1 agg43 rfl rfl rfl) ?_
          refine TV rfl rfl rfl (Val.move rfl) ?_
          obtain ⟨y5822,hx5823,h⟩:=bind_no h
          obtain ⟨ad5824,cs5830,hA5825,hi5826,hj5827,hcl5828,hK5829⟩:=Rd.at hr3 hx5823
          obtain ⟨A5831,c5832,rfl,hr5833,hl5834⟩:=k42_openR hK5829
          refine TV rfl rfl rfl (Val.indexAddr Try.underlying43 fsz42 rfl hA5825 rfl hi5826 hj5827) ?_
          refine TV rfl rfl rfl (Val.fieldAddrE Try.underlying42 rfl fsz38 rfl rfl) ?_
          refine TV rfl rfl rfl (Val.loadS agg38 rfl (hcl5828 0 _ rfl)) ?_
          refine TV rfl rfl rfl (Val.len Try.underlying38 rfl) ?_
          refine TV rfl rfl rfl (Val.cmp rfl rfl run_lss) ?_
          refine TL.nil ?_
          refine TQ.then_ ?_
          refine TC.cond_p rfl h (fun hc5836 h=>?_) (fun hc5836 h=>?_)
          ·
           refine TC.skip ?_
           refine TQ.then_ ?_
           refine TC.seq ?_
           refine TC.block ?_
           refine TC.seq ?_
           refine TC.regionAny [] [0,1,2,3,4,5,6,7,8,9,10,11,12,13,14,15,16,17,19] mixed (by kernel_rfl) ?_
           refine TA.take 0 rfl (by kernel_rfl) rfl (PQ.then_ (PQ.inB (PQ.then_ (PQ.then_ (PQ.inB (PQ.then_ (PQ.inB (PQ.then_ (PQ.then_ (PQ.inB (PQ.then_ (PQ.then_ PQ.body)))))))))))) rfl (Val.fieldAddrB Try.underlying45 rfl fsz43 rfl rfl rfl) (fun W hO=>hO) ?_
           refine TA.take 1 rfl (by kernel_rfl) rfl (PQ.then_ (PQ.inB (PQ.then_ (PQ.then_ (PQ.inB (PQ.then_ (PQ.inB (PQ.then_ (PQ.then_ (PQ.inB (PQ.then_ (PQ.then_ PQ.body)))))))))))) rfl (Val.loadB 1 agg43 rfl rfl rfl) (fun W hO=>hO) ?_
           refine TA.take 2 rfl (by kernel_rfl) rfl (PQ.then_ (PQ.inB (PQ.then_ (PQ.then_ (PQ.inB (PQ.then_ (PQ.inB (PQ.then_ (PQ.then_ (PQ.inB (PQ.then_ (PQ.then_ PQ.body)))))))))))) rfl (Val.move rfl) (fun W hO=>hO) ?_
           refine TA.take 3 rfl (by kernel_rfl) rfl (PQ.then_ (PQ.inB (PQ.then_ (PQ.then_ (PQ.inB (PQ.then_ (PQ.inB (PQ.then_ (PQ.then_ (PQ.inB (PQ.then_ (PQ.then_ PQ.body)))))))))))) rfl (Val.indexAddr Try.underlying43 fsz42 rfl hA5825 rfl hi5826 hj5827) (fun W hO=>hO) ?_
           refine TA.take 4 rfl (by kernel_rfl) rfl (PQ.then_ (PQ.inB (PQ.then_ (PQ.then_ (PQ.inB (PQ.then_ (PQ.inB (PQ.then_ (PQ.then_ (PQ.inB (PQ.then_ (PQ.then_ PQ.body)))))))))))) rfl (Val.fieldAddrE Try.underlying42 rfl fsz38 rfl rfl) (fun W hO=>hO) ?_
           refine TA.take 5 rfl (by kernel_rfl) rfl (PQ.then_ (PQ.inB (PQ.then_ (PQ.then_ (PQ.inB (PQ.then_ (PQ.inB (PQ.then_ (PQ.then_ (PQ.inB (PQ.then_ (PQ.then_ PQ.body)))))))))))) rfl (Val.loadS agg38 rfl (hcl5828 0 _ rfl)) (fun W hO=>hO) ?_
           refine TA.take 6 rfl (by kernel_rfl) rfl (PQ.then_ (PQ.inB (PQ.then_ (PQ.then_ (PQ.inB (PQ.then_ (PQ.inB (PQ.then_ (PQ.then_ (PQ.inB (PQ.then_ (PQ.then_ PQ.body)))))))))))) rfl (Val.move rfl) (fun W hO=>hO) ?_
           obtain ⟨y5962,hx5963,h⟩:=bind_no h
           obtain ⟨ad5964,cs5970,hA5965,hi5966,hj5967,hcl5968,hK5969⟩:=Rd.at hr5833 hx5963
           obtain ⟨A5971,c5972,rfl,hr5973,hl5974⟩:=k37_openR hK5969
           refine TA.take 7 rfl (by kernel_rfl) rfl (PQ.then_ (PQ.inB (PQ.then_ (PQ.then_ (PQ.inB (PQ.then_ (PQ.inB (PQ.then_ (PQ.then_ (PQ.inB (PQ.then_ (PQ.then_ PQ.body)))))))))))) rfl (Val.indexAddr Try.underlying38 fsz37 rfl hA5965 rfl hi5966 hj5967) (fun W hO=>hO) ?_
           refine TA.take 8 rfl (by kernel_rfl) rfl (PQ.then_ (PQ.inB (PQ.then_ (PQ.then_ (PQ.inB (PQ.then_ (PQ.inB (PQ.then_ (PQ.then_ (PQ.inB (PQ.then_ (PQ.then_ PQ.body)))))))))))) rfl (Val.loadsS (cs:=[VI y5962.f0,VI y5962.f1,VI y5962.f2,VI y5962.f3,VI y5962.f4,.slice A5971 y5962.f5.length c5972]) agg37 fsz37 rfl rfl (Cl.sub (off:=0) (n:=6) hcl5968 rfl)) (fun W hO=>hO) ?_
           refine TA.take 9 rfl (by kernel_rfl) rfl (PQ.then_ (PQ.inB (PQ.then_ (PQ.then_ (PQ.inB (PQ.then_ (PQ.inB (PQ.then_ (PQ.then_ (PQ.inB (PQ.then_ (PQ.then_ PQ.body)))))))))))) rfl (Val.fieldAddrB Try.underlying45 rfl fsz43 rfl rfl rfl) (fun W hO=>hO) ?_
           refine TA.take 10 rfl (by kernel_rfl) rfl (PQ.then_ (PQ.inB (PQ.then_ (PQ.then_ (PQ.inB (PQ.then_ (PQ.inB (PQ.then_ (PQ.then_ (PQ.inB (PQ.then_ (PQ.then_ PQ.body)))))))))))) rfl (Val.loadB 0 agg43 rfl rfl rfl) (fun W hO=>hO) ?_
           refine TA.take 11 rfl (by kernel_rfl) rfl (PQ.then_ (PQ.inB (PQ.then_ (PQ.then_ (PQ.inB (PQ.then_ (PQ.inB (PQ.then_ (PQ.then_ (PQ.inB (PQ.then_ (PQ.then_ PQ.body)))))))))))) rfl (Val.move rfl) (fun W hO=>hO) ?_
           obtain ⟨y5975,hx5976,h⟩:=bind_no h
           obtain ⟨ad5977,cs5983,hA5978,hi5979,hj5980,hcl5981,hK5982⟩:=Rd.at hr7 hx5976
           obtain ⟨A5984,c5985,rfl,hr5986,hl5987⟩:=k42_openR hK5982
           refine TA.take 12 rfl (by kernel_rfl) rfl (PQ.then_ (PQ.inB (PQ.then_ (PQ.then_ (PQ.inB (PQ.then_ (PQ.inB (PQ.then_ (PQ.then_ (PQ.inB (PQ.then_ (PQ.then_ PQ.body)))))))))))) rfl (Val.indexAddr Try.underlying43 fsz42 rfl hA5978 rfl hi5979 hj5980) (fun W hO=>hO) ?_
           refine TA.take 13 rfl (by kernel_rfl) rfl (PQ.then_ (PQ.inB (PQ.then_ (PQ.then_ (PQ.inB (PQ.then_ (PQ.inB (PQ.then_ (PQ.then_ (PQ.inB (PQ.then_ (PQ.then_ PQ.body)))))))))))) rfl (Val.fieldAddrE Try.underlying42 rfl fsz38 rfl rfl) (fun W hO=>hO) ?_
           refine TA.take 14 rfl (by kernel_rfl) rfl (PQ.then_ (PQ.inB (PQ.then_ (PQ.then_ (PQ.inB (PQ.then_ (PQ.inB (PQ.then_ (PQ.then_ (PQ.inB (PQ.then_ (PQ.then_ PQ.body)))))))))))) rfl (Val.loadS agg38 rfl (hcl5981 0 _ rfl)) (fun W hO=>hO) ?_
           refine TA.take 15 rfl (by kernel_rfl) rfl (PQ.then_ (PQ.inB (PQ.then_ (PQ.then_ (PQ.inB (PQ.then_ (PQ.inB (PQ.then_ (PQ.then_ (PQ.inB (PQ.then_ (PQ.then_ PQ.body)))))))))))) rfl (Val.move rfl) (fun W hO=>hO) ?_
           obtain ⟨y5988,hx5989,h⟩:=bind_no h
           obtain ⟨ad5990,cs5996,hA5991,hi5992,hj5993,hcl5994,hK5995⟩:=Rd.at hr5986 hx5989
           obtain ⟨A5997,c5998,rfl,hr5999,hl6000⟩:=k37_openR hK5995
           refine TA.take 16 rfl (by kernel_rfl) rfl (PQ.then_ (PQ.inB (PQ.then_ (PQ.then_ (PQ.inB (PQ.then_ (PQ.inB (PQ.then_ (PQ.then_ (PQ.inB (PQ.then_ (PQ.then_ PQ.body)))))))))))) rfl (Val.indexAddr Try.underlying38 fsz37 rfl hA5991 rfl hi5992 hj5993) (fun W hO=>hO) ?_
           refine TA.take 17 rfl (by kernel_rfl) rfl (PQ.then_ (PQ.inB (PQ.then_ (PQ.then_ (PQ.inB (PQ.then_ (PQ.inB (PQ.then_ (PQ.then_ (PQ.inB (PQ.then_ (PQ.then_ PQ.body)))))))))))) rfl (Val.loadsS (cs:=[VI y5988.f0,VI y5988.f1,VI y5988.f2,VI y5988.f3,VI y5988.f4,.slice A5997 y5988.f5.length c5998]) agg37 fsz37 rfl rfl (Cl.sub (off:=0) (n:=6) hcl5994 rfl)) (fun W hO=>hO) ?_
           obtain ⟨y6001,hy6002,h⟩:=bind_no h
           refine TA.eff 18 rfl (by kernel_rfl) rfl (TL.callV (Lin:=[]) (args:=[.agg #[VI y5962.f0,VI y5962.f1,VI y5962.f2,VI y5962.f3,VI y5962.f4,.slice A5971 y5962.f5.length c5972],.agg #[VI y5988.f0,VI y5988.f1,VI y5988.f2,VI y5988.f3,VI y5988.f4,.slice A5997 y5988.f5.length c5998]]) rfl rfl rfl hbd48 rfl rfl (swageref14_SameOp.calls (a0:=y5962) (a1:=y5988) hr5973 hl5974 hr5999 hl6000 hy6002) rfl ?_)
           rintro _ _ _ _ ⟨rfl,rfl,rfl⟩
           refine TA.next (fun W hO=>hO) ?_
           refine TA.take 19 rfl (by kernel_rfl) rfl (PQ.then_ (PQ.inB (PQ.then_ (PQ.then_ (PQ.inB (PQ.then_ (PQ.inB (PQ.then_ (PQ.then_ (PQ.inB (PQ.then_ (PQ.then_ PQ.body)))))))))))) rfl (Val.assign rfl) (fun W hO=>hO) ?_
           refine TA.done (by kernel_rfl) ?_
           refine TQ.then_ ?_
           refine TC.seq ?_
           refine TC.region ?_
           refine TV rfl rfl rfl (Val.move rfl) ?_
           refine TV rfl rfl rfl (Val.not_ rfl) ?_
           refine TL.nil ?_
           refine TQ.then_ ?_
           refine TC.cond_b rfl h (fun hc6004 h=>?_) (fun hc6004 h=>?_)
           ·
            refine TC.seq ?_
            refine TC.region ?_
            refine TV rfl rfl rfl (Val.assign rfl) ?_
            refine TL.nil ?_
            refine TQ.then_ ?_
            refine TC.ret ?_
            refine TQ.inBR ?_
            refine TQ.thenR ?_
            refine TQ.thenR ?_
            refine TQ.inBR ?_
            refine TQ.thenR ?_
            refine TQ.inBR ?_
            refine TQ.thenR ?_
            refine TQ.thenR ?_
            refine TQ.inBR ?_
            refine TQ.thenR ?_
            refine TQ.thenR ?_
            obtain rfl:=Option.some.inj h
            have h:=ko5637
            obtain rfl:=Option.some.inj h
            have h:=ko3269
            obtain rfl:=Option.some.inj h
            exact TQ.fin (.inl rfl) rfl Try.results41 (.tmp rfl .nil) rfl (FRel.mk (Ls:=[]) [] 2 (Gd.le.refl _) rfl rfl rfl ⟨rfl,rfl,rfl⟩)
           ·
            refine TC.skip ?_
            refine TQ.inB ?_
            refine TQ.then_ ?_
            refine TC.region ?_
            refine TV rfl rfl rfl (Val.move rfl) ?_
            refine TV rfl rfl rfl (Val.cmp rfl rfl run_add) ?_
            refine TV rfl rfl rfl (Val.assign rfl) ?_
            refine TL.nil ?_
            exact fun a W hF hO=>⟨IntKind.i64.wrap (x5453 + 1),h,hF.sub ⟨rfl,rfl,rfl,rfl,trivial⟩,hO.selT (Ls:=[Blk b10 [VI a1.f0,.slice A5 a1.f1.length c6] 45,Blk b9 [VI a0.f0,.slice A1 a0.f1.length c2] 45]) [0,1] 2 rfl rfl rfl⟩
          ·
           refine TC.exit ?_
           refine TQ.thenX ?_
           refine TQ.thenX ?_
           refine TQ.inBX ?_
           exact fun a W hF hO=>⟨Option.some.inj h,hF.sub ⟨rfl,rfl,rfl,trivial⟩,hO.selT (Ls:=[Blk b10 [VI a1.f0,.slice A5 a1.f1.length c6] 45,Blk b9 [VI a0.f0,.slice A1 a0.f1.length c2] 45]) [0,1] 2 rfl rfl rfl⟩
      ·
       refine TC.regionAny [] [0,1,2,3,4,5,6,7,8,9,10,11,12,13,14,15,16,17,18,19,20,21,22,23,24,25,26,27,28,29] mixed (by kernel_rfl) ?_
       refine TA.take 0 rfl (by kernel_rfl) rfl (PQ.then_ (PQ.then_ (PQ.then_ (PQ.inB (PQ.then_ (PQ.then_ (PQ.inB (PQ.then_ (PQ.then_ PQ.body))))))))) rfl (Val.fieldAddrB Try.underlying45 rfl fsz43 rfl rfl rfl) (fun W hO=>hO) ?_
       refine TA.take 1 rfl (by kernel_rfl) rfl (PQ.then_ (PQ.then_ (PQ.then_ (PQ.inB (PQ.then_ (PQ.then_ (PQ.inB (PQ.then_ (PQ.then_ PQ.body))))))))) rfl (Val.loadB 1 agg43 rfl rfl rfl) (fun W hO=>hO) ?_
       refine TA.take 2 rfl (by kernel_rfl) rfl (PQ.then_ (PQ.then_ (PQ.then_ (PQ.inB (PQ.then_ (PQ.then_ (PQ.inB (PQ.then_ (PQ.then_ PQ.body))))))))) rfl (Val.move rfl) (fun W hO=>hO) ?_
       obtain ⟨y6034,hx6035,h⟩:=bind_no h
       obtain ⟨ad6036,cs6042,hA6037,hi6038,hj6039,hcl6040,hK6041⟩:=Rd.at hr3 hx6035
       obtain ⟨A6043,c6044,rfl,hr6045,hl6046⟩:=k42_openR hK6041
       refine TA.take 3 rfl (by kernel_rfl) rfl (PQ.then_ (PQ.then_ (PQ.then_ (PQ.inB (PQ.then_ (PQ.then_ (PQ.inB (PQ.then_ (PQ.then_ PQ.body))))))))) rfl (Val.indexAddr Try.underlying43 fsz42 rfl hA6037 rfl hi6038 hj6039) (fun W hO=>hO) ?_
       refine TA.take 4 rfl (by kernel_rfl) rfl (PQ.then_ (PQ.then_ (PQ.then_ (PQ.inB (PQ.then_ (PQ.then_ (PQ.inB (PQ.then_ (PQ.then_ PQ.body))))))))) rfl (Val.fieldAddrE Try.underlying42 rfl fsz40 rfl rfl) (fun W hO=>hO) ?_
       refine TA.take 5 rfl (by kernel_rfl) rfl (PQ.then_ (PQ.then_ (PQ.then_ (PQ.inB (PQ.then_ (PQ.then_ (PQ.inB (PQ.then_ (PQ.then_ PQ.body))))))))) rfl (Val.loadsS (cs:=[VI y6034.f1.f0,VI y6034.f1.f1,VI y6034.f1.f2,VI y6034.f1.f3]) agg40 fsz40 rfl rfl (Cl.sub (off:=1) (n:=4) hcl6040 rfl)) (fun W hO=>hO) ?_
       refine TA.take 6 rfl (by kernel_rfl) rfl (PQ.then_ (PQ.then_ (PQ.then_ (PQ.inB (PQ.then_ (PQ.then_ (PQ.inB (PQ.then_ (PQ.then_ PQ.body))))))))) rfl (Val.fieldAddrB Try.underlying45 rfl fsz43 rfl rfl rfl) (fun W hO=>hO) ?_
       refine TA.take 7 rfl (by kernel_rfl) rfl (PQ.then_ (PQ.then_ (PQ.then_ (PQ.inB (PQ.then_ (PQ.then_ (PQ.inB (PQ.then_ (PQ.then_ PQ.body))))))))) rfl (Val.loadB 0 agg43 rfl rfl rfl) (fun W hO=>hO) ?_
       refine TA.take 8 rfl (by kernel_rfl) rfl (PQ.then_ (PQ.then_ (PQ.then_ (PQ.inB (PQ.then_ (PQ.then_ (PQ.inB (PQ.then_ (PQ.then_ PQ.body))))))))) rfl (Val.move rfl) (fun W hO=>hO) ?_
       obtain ⟨y6047,hx6048,h⟩:=bind_no h
       obtain ⟨ad6049,cs6055,hA6050,hi6051,hj6052,hcl6053,hK6054⟩:=Rd.at hr7 hx6048
       obtain ⟨A6056,c6057,rfl,hr6058,hl6059⟩:=k42_openR hK6054
       refine TA.take 9 rfl (by kernel_rfl) rfl (PQ.then_ (PQ.then_ (PQ.then_ (PQ.inB (PQ.then_ (PQ.then_ (PQ.inB (PQ.then_ (PQ.then_ PQ.body))))))))) rfl (Val.indexAddr Try.underlying43 fsz42 rfl hA6050 rfl hi6051 hj6052) (fun W hO=>hO) ?_
       refine TA.take 10 rfl (by kernel_rfl) rfl (PQ.then_ (PQ.then_ (PQ.then_ (PQ.inB (PQ.then_ (PQ.then_ (PQ.inB (PQ.then_ (PQ.then_ PQ.body))))))))) rfl (Val.fieldAddrE Try.underlying42 rfl fsz40 rfl rfl) (fun W hO=>hO) ?_
       refine TA.take 11 rfl (by kernel_rfl) rfl (PQ.then_ (PQ.then_ (PQ.then_ (PQ.inB (PQ.then_ (PQ.then_ (PQ.inB (PQ.then_ (PQ.then_ PQ.body))))))))) rfl (Val.loadsS (cs:=[VI y6047.f1.f0,VI y6047.f1.f1,VI y6047.f1.f2,VI y6047.f1.f3]) agg40 fsz40 rfl rfl (Cl.sub (off:=1) (n:=4) hcl6053 rfl)) (fun W hO=>hO) ?_
       refine TA.take 12 rfl (by kernel_rfl) rfl (PQ.then_ (PQ.then_ (PQ.then_ (PQ.inB (PQ.then_ (PQ.then_ (PQ.inB (PQ.then_ (PQ.then_ PQ.body))))))))) rfl (Val.neA eqg40 rfl rfl (fun W=>eqs40 9998 W _ _ _ _ _ _ _ _)) (fun W hO=>hO) ?_
       refine TA.take 13 rfl (by kernel_rfl) rfl (PQ.then_ (PQ.then_ (PQ.then_ (PQ.inB (PQ.then_ (PQ.then_ (PQ.inB (PQ.then_ (PQ.then_ PQ.body))))))))) rfl (Val.move rfl) (fun W hO=>hO) ?_
       refine TK.split (p:=(!((y6034.f1.f0 == y6047.f1.f0) && ((y6034.f1.f1 == y6047.f1.f1) && ((y6034.f1.f2 == y6047.f1.f2) && (y6034.f1.f3 == y6047.f1.f3)))))=true) h (fun hg6060 h=>?_) (fun hg6060 h=>?_)
       ·
        have hk6061:(!((y6034.f1.f0 == y6047.f1.f0) && ((y6034.f1.f1 == y6047.f1.f1) && ((y6034.f1.f2 == y6047.f1.f2) && (y6034.f1.f3 == y6047.f1.f3)))))=true:=hg6060
        refine TA.not 14 rfl (by kernel_rfl) rfl (PQ.then_ (PQ.then_ (PQ.then_ (PQ.inB (PQ.then_ (PQ.then_ (PQ.inB (PQ.then_ (PQ.then_ PQ.body))))))))) (Wt.no rfl rfl rfl hk6061) (fun W hO=>hO) ?_
        refine TA.not 15 rfl (by kernel_rfl) rfl (PQ.then_ (PQ.then_ (PQ.then_ (PQ.inB (PQ.then_ (PQ.then_ (PQ.inB (PQ.then_ (PQ.then_ PQ.body))))))))) (Wt.no rfl rfl rfl hk6061) (fun W hO=>hO) ?_
        refine TA.not 16 rfl (by kernel_rfl) rfl (PQ.then_ (PQ.then_ (PQ.then_ (PQ.inB (PQ.then_ (PQ.then_ (PQ.inB (PQ.then_ (PQ.then_ PQ.body))))))))) (Wt.no rfl rfl rfl hk6061) (fun W hO=>hO) ?_
        refine TA.not 17 rfl (by kernel_rfl) rfl (PQ.then_ (PQ.then_ (PQ.then_ (PQ.inB (PQ.then_ (PQ.then_ (PQ.inB (PQ.then_ (PQ.then_ PQ.body))))))))) (Wt.no rfl rfl rfl hk6061) (fun W hO=>hO) ?_
        refine TA.not 18 rfl (by kernel_rfl) rfl (PQ.then_ (PQ.then_ (PQ.then_ (PQ.inB (PQ.then_ (PQ.then_ (PQ.inB (PQ.then_ (PQ.then_ PQ.body))))))))) (Wt.no rfl rfl rfl hk6061) (fun W hO=>hO) ?_
        refine TA.not 19 rfl (by kernel_rfl) rfl (PQ.then_ (PQ.then_ (PQ.then_ (PQ.inB (PQ.then_ (PQ.then_ (PQ.inB (PQ.then_ (PQ.then_ PQ.body))))))))) (Wt.no rfl rfl rfl hk6061) (fun W hO=>hO) ?_
        refine TA.not 20 rfl (by kernel_rfl) rfl (PQ.then_ (PQ.then_ (PQ.then_ (PQ.inB (PQ.then_ (PQ.then_ (PQ.inB (PQ.then_ (PQ.then_ PQ.body))))))))) (Wt.no rfl rfl rfl hk6061) (fun W hO=>hO) ?_
        refine TA.not 21 rfl (by kernel_rfl) rfl (PQ.then_ (PQ.then_ (PQ.then_ (PQ.inB (PQ.then_ (PQ.then_ (PQ.inB (PQ.then_ (PQ.then_ PQ.body))))))))) (Wt.no rfl rfl rfl hk6061) (fun W hO=>hO) ?_
        refine TA.not 22 rfl (by kernel_rfl) rfl (PQ.then_ (PQ.then_ (PQ.then_ (PQ.inB (PQ.then_ (PQ.then_ (PQ.inB (PQ.then_ (PQ.then_ PQ.body))))))))) (Wt.no rfl rfl rfl hk6061) (fun W hO=>hO) ?_
        refine TA.not 23 rfl (by kernel_rfl) rfl (PQ.then_ (PQ.then_ (PQ.then_ (PQ.inB (PQ.then_ (PQ.then_ (PQ.inB (PQ.then_ (PQ.then_ PQ.body))))))))) (Wt.no rfl rfl rfl hk6061) (fun W hO=>hO) ?_
        refine TA.not 24 rfl (by kernel_rfl) rfl (PQ.then_ (PQ.then_ (PQ.then_ (PQ.inB (PQ.then_ (PQ.then_ (PQ.inB (PQ.then_ (PQ.then_ PQ.body))))))))) (Wt.no rfl rfl rfl hk6061) (fun W hO=>hO) ?_
        refine TA.not 25 rfl (by kernel_rfl) rfl (PQ.then_ (PQ.then_ (PQ.then_ (PQ.inB (PQ.then_ (PQ.then_ (PQ.inB (PQ.then_ (PQ.then_ PQ.body))))))))) (Wt.no rfl rfl rfl hk6061) (fun W hO=>hO) ?_
        refine TA.not 26 rfl (by kernel_rfl) rfl (PQ.then_ (PQ.then_ (PQ.then_ (PQ.inB (PQ.then_ (PQ.then_ (PQ.inB (PQ.then_ (PQ.then_ PQ.body))))))))) (Wt.no rfl rfl rfl hk6061) (fun W hO=>hO) ?_
        refine TA.not 27 rfl (by kernel_rfl) rfl (PQ.then_ (PQ.then_ (PQ.then_ (PQ.inB (PQ.then_ (PQ.then_ (PQ.inB (PQ.then_ (PQ.then_ PQ.body))))))))) (Wt.no rfl rfl rfl hk6061) (fun W hO=>hO) ?_
        refine TA.not 28 rfl (by kernel_rfl) rfl (PQ.then_ (PQ.then_ (PQ.then_ (PQ.inB (PQ.then_ (PQ.then_ (PQ.inB (PQ.then_ (PQ.then_ PQ.body))))))))) (Wt.no rfl rfl rfl hk6061) (fun W hO=>hO) ?_
        refine TA.take 29 rfl (by kernel_rfl) rfl (PQ.then_ (PQ.then_ (PQ.then_ (PQ.inB (PQ.then_ (PQ.then_ (PQ.inB (PQ.then_ (PQ.then_ PQ.body))))))))) rfl (Val.pickY rfl hk6061 rfl) (fun W hO=>hO) ?_
        refine TA.done (by kernel_rfl) ?_
        exact fun a W hF hO=>⟨true,h,hF.sub ⟨rfl,rfl,rfl,rfl,trivial⟩,hO.selT (Ls:=[Blk b10 [VI a1.f0,.slice A5 a1.f1.length c6] 45,Blk b9 [VI a0.f0,.slice A1 a0.f1.length c2] 45]) [0,1] 2 rfl rfl rfl⟩
       ·
        have hk6062:(!((y6034.f1.f0 == y6047.f1.f0) && ((y6034.f1.f1 == y6047.f1.f1) && ((y6034.f1.f2 == y6047.f1.f2) && (y6034.f1.f3 == y6047.f1.f3)))))=false:=(by simpa using hg6060)
        refine TA.take 14 rfl (by kernel_rfl) rfl (PQ.then_ (PQ.then_ (PQ.then_ (PQ.inB (PQ.then_ (PQ.then_ (PQ.inB (PQ.then_ (PQ.then_ PQ.body))))))))) (Wt.yes rfl rfl rfl hk6062) (Val.fieldAddrB Try.underlying45 rfl fsz43 rfl rfl rfl) (fun W hO=>hO) ?_
        refine TA.take 15 rfl (by kernel_rfl) rfl (PQ.then_ (PQ.then_ (PQ.then_ (PQ.inB (PQ.then_ (PQ.then_ (PQ.inB (PQ.then_ (PQ.then_ PQ.body))))))))) (Wt.yes rfl rfl rfl hk6062) (Val.loadB 1 agg43 rfl rfl rfl) (fun W hO=>hO) ?_
        refine TA.take 16 rfl (by kernel_rfl) rfl (PQ.then_ (PQ.then_ (PQ.then_ (PQ.inB (PQ.then_ (PQ.then_ (PQ.inB (PQ.then_ (PQ.then_ PQ.body))))))))) (Wt.yes rfl rfl rfl hk6062) (Val.move rfl) (fun W hO=>hO) ?_
        refine TA.take 17 rfl (by kernel_rfl) rfl (PQ.then_ (PQ.then_ (PQ.then_ (PQ.inB (PQ.then_ (PQ.then_ (PQ.inB (PQ.then_ (PQ.then_ PQ.body))))))))) (Wt.yes rfl rfl rfl hk6062) (Val.indexAddr Try.underlying43 fsz42 rfl hA6037 rfl hi6038 hj6039) (fun W hO=>hO) ?_
        refine TA.take 18 rfl (by kernel_rfl) rfl (PQ.then_ (PQ.then_ (PQ.then_ (PQ.inB (PQ.then_ (PQ.then_ (PQ.inB (PQ.then_ (PQ.then_ PQ.body))))))))) (Wt.yes rfl rfl rfl hk6062) (Val.fieldAddrE Try.underlying42 rfl fsz38 rfl rfl) (fun W hO=>hO) ?_
        refine TA.take 19 rfl (by kernel_rfl) rfl (PQ.then_ (PQ.then_ (PQ.then_ (PQ.inB (PQ.then_ (PQ.then_ (PQ.inB (PQ.then_ (PQ.then_ PQ.body))))))))) (Wt.yes rfl rfl rfl hk6062) (Val.loadS agg38 rfl (hcl6040 0 _ rfl)) (fun W hO=>hO) ?_
        refine TA.take 20 rfl (by kernel_rfl) rfl (PQ.then_ (PQ.then_ (PQ.then_ (PQ.inB (PQ.then_ (PQ.then_ (PQ.inB (PQ.then_ (PQ.then_ PQ.body))))))))) (Wt.yes rfl rfl rfl hk6062) (Val.len Try.underlying38 rfl) (fun W hO=>hO) ?_
        refine TA.take 21 rfl (by kernel_rfl) rfl (PQ.then_ (PQ.then_ (PQ.then_ (PQ.inB (PQ.then_ (PQ.then_ (PQ.inB (PQ.then_ (PQ.then_ PQ.body))))))))) (Wt.yes rfl rfl rfl hk6062) (Val.fieldAddrB Try.underlying45 rfl fsz43 rfl rfl rfl) (fun W hO=>hO) ?_
        refine TA.take 22 rfl (by kernel_rfl) rfl (PQ.then_ (PQ.then_ (PQ.then_ (PQ.inB (PQ.then_ (PQ.then_ (PQ.inB (PQ.then_ (PQ.then_ PQ.body))))))))) (Wt.yes rfl rfl rfl hk6062) (Val.loadB 0 agg43 rfl rfl rfl) (fun W hO=>hO) ?_
        refine TA.take 23 rfl (by kernel_rfl) rfl (PQ.then_ (PQ.then_ (PQ.then_ (PQ.inB (PQ.then_ (PQ.then_ (PQ.inB (PQ.then_ (PQ.then_ PQ.body))))))))) (Wt.yes rfl rfl rfl hk6062) (Val.move rfl) (fun W hO=>hO) ?_
        refine TA.take 24 rfl (by kernel_rfl) rfl (PQ.then_ (PQ.then_ (PQ.then_ (PQ.inB (PQ.then_ (PQ.then_ (PQ.inB (PQ.then_ (PQ.then_ PQ.body))))))))) (Wt.yes rfl rfl rfl hk6062) (Val.indexAddr Try.underlying43 fsz42 rfl hA6050 rfl hi6051 hj6052) (fun W hO=>hO) ?_
        refine TA.take 25 rfl (by kernel_rfl) rfl (PQ.then_ (PQ.then_ (PQ.then_ (PQ.inB (PQ.then_ (PQ.then_ (PQ.inB (PQ.then_ (PQ.then_ PQ.body))))))))) (Wt.yes rfl rfl rfl hk6062) (Val.fieldAddrE Try.underlying42 rfl fsz38 rfl rfl) (fun W hO=>hO) ?_
        refine TA.take 26 rfl (by kernel_rfl) rfl (PQ.then_ (PQ.then_ (PQ.then_ (PQ.inB (PQ.then_ (PQ.then_ (PQ.inB (PQ.then_ (PQ.then_ PQ.body))))))))) (Wt.yes rfl rfl rfl hk6062) (Val.loadS agg38 rfl (hcl6053 0 _ rfl)) (fun W hO=>hO) ?_
        refine TA.take 27 rfl (by kernel_rfl) rfl (PQ.then_ (PQ.then_ (PQ.then_ (PQ.inB (PQ.then_ (PQ.then_ (PQ.inB (PQ.then_ (PQ.then_ PQ.body))))))))) (Wt.yes rfl rfl rfl hk6062) (Val.len Try.underlying38 rfl) (fun W hO=>hO) ?_
        refine TA.take 28 rfl (by kernel_rfl) rfl (PQ.then_ (PQ.then_ (PQ.then_ (PQ.inB (PQ.then_ (PQ.then_ (PQ.inB (PQ.then_ (PQ.then_ PQ.body))))))))) (Wt.yes rfl rfl rfl hk6062) (Val.cmp rfl rfl run_neq) (fun W hO=>hO) ?_
        refine TA.take 29 rfl (by kernel_rfl) rfl (PQ.then_ (PQ.then_ (PQ.then_ (PQ.inB (PQ.then_ (PQ.then_ (PQ.inB (PQ.then_ (PQ.then_ PQ.body))))))))) rfl (Val.pickN rfl hk6062 rfl) (fun W hO=>hO) ?_
        refine TA.done (by kernel_rfl) ?_
        exact fun a W hF hO=>⟨(!decide ((y6034.f0.length:Int)=(y6047.f0.length:Int))),h,hF.sub ⟨rfl,rfl,rfl,rfl,trivial⟩,hO.selT (Ls:=[Blk b10 [VI a1.f0,.slice A5 a1.f1.length c6] 45,Blk b9 [VI a0.f0,.slice A1 a0.f1.length c2] 45]) [0,1] 2 rfl rfl rfl⟩
     ·
      refine TC.exit ?_
      refine TQ.thenX ?_
      refine TQ.thenX ?_
      refine TQ.inBX ?_
      exact fun a W hF hO=>⟨Option.some.inj h,hF.sub trivial,hO.selT (Ls:=[]) [] 2 rfl rfl rfl⟩
 ·
  refine TC.region ?_
  refine TV rfl rfl rfl (Val.fieldAddrB Try.underlying45 rfl fsz3 rfl rfl rfl) ?_
  refine TV rfl rfl rfl (Val.loadB 1 agg3 rfl rfl rfl) ?_
  refine TV rfl rfl rfl (Val.fieldAddrB Try.underlying45 rfl fsz3 rfl rfl rfl) ?_
  refine TV rfl rfl rfl (Val.loadB 0 agg3 rfl rfl rfl) ?_
  refine TV rfl rfl rfl (Val.cmp rfl rfl run_neq) ?_
  refine TV rfl rfl rfl (Val.move rfl) ?_
  refine TK.split (p:=(!decide (a0.f0=a1.f0))=true) h (fun hg6063 h=>?_) (fun hg6063 h=>?_)
  ·
   have hk6064:(!decide (a0.f0=a1.f0))=true:=hg6063
   refine TL.cons (TL.not (Wt.no rfl rfl rfl hk6064) rfl ?_)
   refine TL.cons (TL.not (Wt.no rfl rfl rfl hk6064) rfl ?_)
   refine TL.cons (TL.not (Wt.no rfl rfl rfl hk6064) rfl ?_)
   refine TL.cons (TL.not (Wt.no rfl rfl rfl hk6064) rfl ?_)
   refine TL.cons (TL.not (Wt.no rfl rfl rfl hk6064) rfl ?_)
   refine TL.cons (TL.not (Wt.no rfl rfl rfl hk6064) rfl ?_)
   refine TL.cons (TL.not (Wt.no rfl rfl rfl hk6064) rfl ?_)
   refine TV rfl rfl rfl (Val.pickY rfl hk6064 rfl) ?_
   refine TL.nil ?_
   exact fun a W hF hO=>⟨true,h,hF.sub ⟨rfl,rfl,rfl,trivial⟩,hO.selT (Ls:=[Blk b10 [VI a1.f0,.slice A5 a1.f1.length c6] 45,Blk b9 [VI a0.f0,.slice A1 a0.f1.length c2] 45]) [0,1] 2 rfl rfl rfl⟩
  ·
   have hk6065:(!decide (a0.f0=a1.f0))=false:=(by simpa using hg6063)
   refine TV (Wt.yes rfl rfl rfl hk6065) rfl rfl (Val.fieldAddrB Try.underlying45 rfl fsz43 rfl rfl rfl) ?_
   refine TV (Wt.yes rfl rfl rfl hk6065) rfl rfl (Val.loadB 1 agg43 rfl rfl rfl) ?_
   refine TV (Wt.yes rfl rfl rfl hk6065) rfl rfl (Val.len Try.underlying43 rfl) ?_
   refine TV (Wt.yes rfl rfl rfl hk6065) rfl rfl (Val.fieldAddrB Try.underlying45 rfl fsz43 rfl rfl rfl) ?_
   refine TV (Wt.yes rfl rfl rfl hk6065) rfl rfl (Val.loadB 0 agg43 rfl rfl rfl) ?_
   refine TV (Wt.yes rfl rfl rfl hk6065) rfl rfl (Val.len Try.underlying43 rfl) ?_
   refine TV (Wt.yes rfl rfl rfl hk6065) rfl rfl (Val.cmp rfl rfl run_neq) ?_
   refine TV rfl rfl rfl (Val.pickN rfl hk6065 rfl) ?_
   refine TL.nil ?_
   exact fun a W hF hO=>⟨(!decide ((a0.f1.length:Int)=(a1.f1.length:Int))),h,hF.sub ⟨rfl,rfl,rfl,trivial⟩,hO.selT (Ls:=[Blk b10 [VI a1.f0,.slice A5 a1.f1.length c6] 45,Blk b9 [VI a0.f0,.slice A1 a0.f1.length c2] 45]) [0,1] 2 rfl rfl rfl⟩
def slices_Clone_int_int.f (a0:(List Int)):Option (List Int):=(if ([]:List Int).length + a0.length ≤ 17592186044416 then some (([]:List Int) ++ a0) else none)
def slices_Clone_int_int.post (G:Gd)  (r:(List Int)) (v:Value) (G':Gd) (Lr:List Ch):Prop:=G=G'∧∃ (A_1:Option Addr) (c_1:Nat),v=.slice A_1 r.length c_1∧Lr=[Row kI 3 (.slice A_1 r.length c_1) r]
theorem slices_Clone_int_int.calls {G:Gd} {r:(List Int)} {a0:(List Int)} {A1:Option Addr} {c2:Nat} (hr3:Rd G kI A1 a0) (hl4:a0.length ≤ c2) (h:slices_Clone_int_int.f a0=some r):Fn Try.prog 65 G [] [.slice A1 a0.length c2] (slices_Clone_int_int.post G  r):=by
 refine Fn.intro (e:=[(0,.slice A1 a0.length c2)]) 8 Try.func65 rfl Try.ntmps65 rfl rfl (Nat.le_of_ble_eq_true rfl) (fun L=>?_)
 unfold slices_Clone_int_int.f at h
 refine TC.seq ?_
 refine TC.region ?_
 refine TV rfl rfl rfl (Val.assign rfl) ?_
 refine TL.nil ?_
 refine TQ.then_ ?_
 refine TC.seq ?_
 refine TC.seq ?_
 refine TC.region ?_
 refine TV rfl rfl rfl (Val.move rfl) ?_
 refine TV rfl rfl rfl (Val.eqNil Try.underlying23 rfl) ?_
 refine TL.nil ?_
 refine TQ.then_ ?_
 refine TC.cond rfl (fun hc6=>?_) (fun hc6=>?_)
 ·
  have hn:=Rd.nilEq hr3 hc6
  have h:some ([]:List Int)=some r:=by first | (simpa [hn] using h) | (simp [hn] at h; simp [h,hn])
  refine TC.seq ?_
  refine TC.region ?_
  refine TV rfl rfl rfl (Val.assign rfl) ?_
  refine TL.nil ?_
  refine TQ.then_ ?_
  refine TC.ret ?_
  refine TQ.thenR ?_
  refine TQ.nilRow kI 3 ?_
  obtain rfl:=Option.some.inj h
  exact TQ.fin (.inl rfl) rfl Try.results65 (.tmp rfl .nil) rfl (FRel.mk (Ls:=[Row kI 3 (.slice none 0 0) ([]:List Int)]) [0] 1 (Gd.le.refl _) rfl rfl rfl ⟨rfl,none,0,rfl,rfl⟩)
 ·
  refine TC.skip ?_
  refine TQ.then_ ?_
  refine TC.seq ?_
  refine TC.region ?_
  refine TL.cons (TL.buildSlice0 kI rfl rfl Try.underlying23 zs3 (fun b8=>?_))
  refine TV rfl rfl rfl (Val.move rfl) ?_
  obtain ⟨ha10,h⟩:=ite_no h
  refine TL.cons (TL.appendR (xs:=([]:List Int)) (ys:=a0) kI kI rfl rfl Try.underlying23 inf3 rfl (Nat.le_of_ble_eq_true rfl) (Nat.le_of_ble_eq_true rfl) rfl rfl (by omega) hr3 rfl (fun _ _ _ _ _ h=>h) (fun A11 c12=>?_))
  refine TV rfl rfl rfl (Val.assign rfl) ?_
  refine TL.nil ?_
  refine TQ.then_ ?_
  refine TC.ret ?_
  obtain rfl:=Option.some.inj h
  exact TQ.fin (.inl rfl) rfl Try.results65 (.tmp rfl .nil) rfl (FRel.mk (Ls:=[Row kI 3 (.slice A11 (([]:List Int) ++ a0).length c12) (([]:List Int) ++ a0)]) [0] 1 (Gd.le.refl _) rfl rfl rfl ⟨rfl,A11,c12,rfl,rfl⟩)
def fold_constant.f (a0:S37) (a1:Int):Option S37:=some (⟨1,a0.f1,0,0,a1,([]:List Int)⟩:S37)
def fold_constant.post (G:Gd)  (r:S37) (v:Value) (G':Gd) (Lr:List Ch):Prop:=G=G'∧∃ (A_1:Option Addr) (c_1:Nat),v=.agg #[VI r.f0,VI r.f1,VI r.f2,VI r.f3,VI r.f4,.slice A_1 r.f5.length c_1]∧Lr=[Row kI 3 (.slice A_1 r.f5.length c_1) r.f5]
theorem fold_constant.calls {G:Gd} {r:S37} {a0:S37} {a1:Int} {A1:Option Addr} {c2:Nat} (hr3:Rd G kI A1 a0.f5) (hl4:a0.f5.length ≤ c2) (h:fold_constant.f a0 a1=some r):Fn Try.prog 93 G [] [.agg #[VI a0.f0,VI a0.f1,VI a0.f2,VI a0.f3,VI a0.f4,.slice A1 a0.f5.length c2],VI a1] (fold_constant.post G  r):=by
 refine Fn.intro (e:=[(0,.agg #[VI a0.f0,VI a0.f1,VI a0.f2,VI a0.f3,VI a0.f4,.slice A1 a0.f5.length c2]),(1,VI a1)]) 9 Try.func93 rfl Try.ntmps93 rfl rfl (Nat.le_of_ble_eq_true rfl) (fun L=>?_)
 unfold fold_constant.f at h
 refine TC.seq ?_
 refine TC.region ?_
 refine TL.cons (TL.box (cs:=[VI a0.f0,VI a0.f1,VI a0.f2,VI a0.f3,VI a0.f4,.slice A1 a0.f5.length c2]) rfl rfl rfl rfl (fun b5=>?_))
 refine TL.cons (TL.alloc (cs:=[VI 0,VI 0,VI 0,VI 0,VI 0,.slice none 0 0]) rfl rfl zr37 rfl (fun b6=>?_))
 refine TL.nil ?_
 refine TQ.then_ ?_
 refine TC.seq ?_
 refine TC.region ?_
 refine TV rfl rfl rfl (Val.fieldAddrB Try.underlying37 rfl fsz3 rfl rfl rfl) ?_
 refine TV rfl rfl rfl (Val.loadB 1 agg3 rfl rfl rfl) ?_
 refine TV rfl rfl rfl (Val.move rfl) ?_
 refine TV rfl rfl rfl (Val.build (cs:=[VI 1,VI a0.f1,VI 0,VI 0,VI a1,.slice none 0 0]) (is:=[0,1,4]) (xs:=[.const (VI 1),.tmp 6,.tmp 7]) Try.underlying37 zr37 bld37 rfl rfl rfl rfl) ?_
 refine TL.cons (TL.store 0 (ds:=[VI 1,VI a0.f1,VI 0,VI 0,VI a1,.slice none 0 0]) (cs':=[VI 1,VI a0.f1,VI 0,VI 0,VI a1,.slice none 0 0]) (L':=(Blk b6 [VI 1,VI a0.f1,VI 0,VI 0,VI a1,.slice none 0 0] 37::Blk b5 [VI a0.f0,VI a0.f1,VI a0.f2,VI a0.f3,VI a0.f4,.slice A1 a0.f5.length c2] 37::L)) rfl fsz37 rfl rfl rfl rfl rfl (Nat.le_of_ble_eq_true rfl) rfl rfl ?_)
 refine TL.nil ?_
 refine TQ.then_ ?_
 refine TC.ret ?_
 refine TQ.nilRow kI 3 ?_
 obtain rfl:=Option.some.inj h
 exact TQ.fin (.inl rfl) rfl Try.results93 (.cells 1 rfl rfl agg37 fsz37 .nil) rfl (FRel.mk (Ls:=[Row kI 3 (.slice none 0 0) ([]:List Int)]) [0] 3 (Gd.le.refl _) rfl rfl rfl ⟨rfl,none,0,rfl,rfl⟩)
def fold_numbers_both.f (a0_0:MpS) (a1:S37):Option (Int × Bool):=(if wfi a1.f2 then (if wfi a1.f3 then jn (γ:=(Int × Bool)) (fun (x12:Bool)=>(if x12=true then some (0,false) else (word_Do.f a1.f4 (mget a0_0 a1.f2) (mget a0_0 a1.f3)).bind fun (y16:(Int × Int))=>some (y16.1,decide (y16.2=0)))) (fun (j13:(Bool → Option (Int × Bool)))=>(if (!(mhas a0_0 a1.f2))=true then j13 true else j13 (!(mhas a0_0 a1.f3)))) else none) else none)
def fold_numbers_both.post (G:Gd) (b1:Nat) (A2:Option Addr) (c3:Nat) (a0_0:MpS) (a1:S37) (r:(Int × Bool)) (v:Value) (G':Gd) (Lr:List Ch):Prop:=G=G'∧v=.tuple #[VI r.1,.bool r.2]∧Lr=[Mp Try.prog 3 3 b1 a0_0]
theorem fold_numbers_both.calls {G:Gd} {r:(Int × Bool)} {a0_0:MpS} {a1:S37} {b1:Nat} {A2:Option Addr} {c3:Nat} (hr4:Rd G kI A2 a1.f5) (hl5:a1.f5.length ≤ c3) (h:fold_numbers_both.f a0_0 a1=some r):Fn Try.prog 116 G [Mp Try.prog 3 3 b1 a0_0] [.map (some b1),.agg #[VI a1.f0,VI a1.f1,VI a1.f2,VI a1.f3,VI a1.f4,.slice A2 a1.f5.length c3]] (fold_numbers_both.post G b1 A2 c3 a0_0 a1 r):=by
 refine Fn.intro (e:=[(0,.map (some b1)),(1,.agg #[VI a1.f0,VI a1.f1,VI a1.f2,VI a1.f3,VI a1.f4,.slice A2 a1.f5.length c3])]) 43 Try.func116 rfl Try.ntmps116 rfl rfl (Nat.le_of_ble_eq_true rfl) (fun L=>?_)
 unfold fold_numbers_both.f at h
 refine TC.seq ?_
 refine TC.region ?_
 refine TL.cons (TL.box (cs:=[VI a1.f0,VI a1.f1,VI a1.f2,VI a1.f3,VI a1.f4,.slice A2 a1.f5.length c3]) rfl rfl rfl rfl (fun b6=>?_))
 refine TV rfl rfl rfl (Val.assign rfl) ?_
 refine TV rfl rfl rfl (Val.assign rfl) ?_
 refine TL.nil ?_
 refine TQ.then_ ?_
 refine TC.seq ?_
 refine TC.region ?_
 refine TV rfl rfl rfl (Val.move rfl) ?_
 refine TV rfl rfl rfl (Val.fieldAddrB Try.underlying37 rfl fsz3 rfl rfl rfl) ?_
 refine TV rfl rfl rfl (Val.loadB 0 agg3 rfl rfl rfl) ?_
 obtain ⟨hz7,h⟩:=ite_no h
 refine TV rfl rfl rfl (Val.lookupOk 1 Try.underlying110 Try.underlying3 Try.underlying3 zr3 rfl rfl rfl hz7) ?_
 refine TV rfl rfl rfl (Val.move rfl) ?_
 refine TV rfl rfl rfl (Val.extract rfl rfl) ?_
 refine TV rfl rfl rfl (Val.extract rfl rfl) ?_
 refine TV rfl rfl rfl (Val.assign rfl) ?_
 refine TV rfl rfl rfl (Val.assign rfl) ?_
 refine TL.nil ?_
 refine TQ.then_ ?_
 refine TC.seq ?_
 refine TC.region ?_
 refine TV rfl rfl rfl (Val.move rfl) ?_
 refine TV rfl rfl rfl (Val.fieldAddrB Try.underlying37 rfl fsz3 rfl rfl rfl) ?_
 refine TV rfl rfl rfl (Val.loadB 0 agg3 rfl rfl rfl) ?_
 obtain ⟨hz8,h⟩:=ite_no h
 refine TV rfl rfl rfl (Val.lookupOk 1 Try.underlying110 Try.underlying3 Try.underlying3 zr3 rfl rfl rfl hz8) ?_
 refine TV rfl rfl rfl (Val.move rfl) ?_
 refine TV rfl rfl rfl (Val.extract rfl rfl) ?_
 refine TV rfl rfl rfl (Val.extract rfl rfl) ?_
 refine TV rfl rfl rfl (Val.assign rfl) ?_
 refine TV rfl rfl rfl (Val.assign rfl) ?_
 refine TL.nil ?_
 refine TQ.then_ ?_
 refine TC.seq ?_
 refine TC.seq ?_
 obtain ⟨j13,hj13,h⟩:=jn_no h
 refine TC.tail (fun a W=>∃ (x12:Bool),j13 x12=some r∧Fr 43 a [(3,VP b6 0),(6,VI (mget a0_0 a1.f2)),(8,VI (mget a0_0 a1.f3)),(31,.bool x12)]∧Own G (Mp Try.prog 3 3 b1 a0_0::Blk b6 [VI a1.f0,VI a1.f1,VI a1.f2,VI a1.f3,VI a1.f4,.slice A2 a1.f5.length c3] 37::L) W) ?_ ?_
 ·
  rintro a W ⟨x12,h,hF,hO⟩
  rw [hj13] at h
  refine TQ.use ?_ hF hO
  clear hF hO
  refine TQ.then_ ?_
  refine TC.cond_b rfl h (fun hc15 h=>?_) (fun hc15 h=>?_)
  ·
   refine TC.seq ?_
   refine TC.region ?_
   refine TV rfl rfl rfl (Val.assign rfl) ?_
   refine TV rfl rfl rfl (Val.assign rfl) ?_
   refine TL.nil ?_
   refine TQ.then_ ?_
   refine TC.ret ?_
   refine TQ.thenR ?_
   obtain rfl:=Option.some.inj h
   exact TQ.fin (.inl rfl) rfl Try.results116 (.tmp rfl (.tmp rfl .nil)) rfl (FRel.mk (Ls:=[Mp Try.prog 3 3 b1 a0_0]) [0] 2 (Gd.le.refl _) rfl rfl rfl ⟨rfl,rfl,rfl⟩)
  ·
   refine TC.skip ?_
   refine TQ.then_ ?_
   refine TC.seq ?_
   refine TC.region ?_
   refine TV rfl rfl rfl (Val.fieldAddrB Try.underlying37 rfl fsz3 rfl rfl rfl) ?_
   refine TV rfl rfl rfl (Val.loadB 1 agg3 rfl rfl rfl) ?_
   refine TV rfl rfl rfl (Val.move rfl) ?_
   refine TV rfl rfl rfl (Val.move rfl) ?_
   obtain ⟨y16,hy17,h⟩:=bind_no h
   refine TL.cons (TL.callV (Lin:=[]) (args:=[VI a1.f4,VI (mget a0_0 a1.f2),VI (mget a0_0 a1.f3)]) rfl rfl rfl hbd19 rfl rfl (word_Do.calls (a0:=a1.f4) (a1:=(mget a0_0 a1.f2)) (a2:=(mget a0_0 a1.f3)) hy17) rfl ?_)
   rintro _ _ _ _ ⟨rfl,rfl,rfl⟩
   refine TV rfl rfl rfl (Val.move rfl) ?_
   refine TV rfl rfl rfl (Val.extract rfl rfl) ?_
   refine TV rfl rfl rfl (Val.extract rfl rfl) ?_
   refine TV rfl rfl rfl (Val.assign rfl) ?_
   refine TV rfl rfl rfl (Val.assign rfl) ?_
   refine TL.nil ?_
   refine TQ.then_ ?_
   refine TC.seq ?_
   refine TC.region ?_
   refine TV rfl rfl rfl (Val.move rfl) ?_
   refine TV rfl rfl rfl (Val.move rfl) ?_
   refine TV rfl rfl rfl (Val.cmp rfl rfl run_eql) ?_
   refine TV rfl rfl rfl (Val.assign rfl) ?_
   refine TV rfl rfl rfl (Val.assign rfl) ?_
   refine TL.nil ?_
   refine TQ.then_ ?_
   refine TC.ret ?_
   obtain rfl:=Option.some.inj h
   exact TQ.fin (.inl rfl) rfl Try.results116 (.tmp rfl (.tmp rfl .nil)) rfl (FRel.mk (Ls:=[Mp Try.prog 3 3 b1 a0_0]) [0] 2 (Gd.le.refl _) rfl rfl rfl ⟨rfl,rfl,rfl⟩)
 ·
  refine TC.region ?_
  refine TV rfl rfl rfl (Val.move rfl) ?_
  refine TV rfl rfl rfl (Val.not_ rfl) ?_
  refine TV rfl rfl rfl (Val.move rfl) ?_
  refine TK.split (p:=(!(mhas a0_0 a1.f2))=true) h (fun hg18 h=>?_) (fun hg18 h=>?_)
  ·
   have hk19:(!(mhas a0_0 a1.f2))=true:=hg18
   refine TL.cons (TL.not (Wt.no rfl rfl rfl hk19) rfl ?_)
   refine TL.cons (TL.not (Wt.no rfl rfl rfl hk19) rfl ?_)
   refine TV rfl rfl rfl (Val.pickY rfl hk19 rfl) ?_
   refine TL.nil ?_
   exact fun a W hF hO=>⟨true,h,hF.sub ⟨rfl,rfl,rfl,rfl,trivial⟩,hO.selT (Ls:=[Mp Try.prog 3 3 b1 a0_0,Blk b6 [VI a1.f0,VI a1.f1,VI a1.f2,VI a1.f3,VI a1.f4,.slice A2 a1.f5.length c3] 37]) [1,0] 2 rfl rfl rfl⟩
  ·
   have hk20:(!(mhas a0_0 a1.f2))=false:=(by simpa using hg18)
   refine TV (Wt.yes rfl rfl rfl hk20) rfl rfl (Val.move rfl) ?_
   refine TV (Wt.yes rfl rfl rfl hk20) rfl rfl (Val.not_ rfl) ?_
   refine TV rfl rfl rfl (Val.pickN rfl hk20 rfl) ?_
   refine TL.nil ?_
   exact fun a W hF hO=>⟨(!(mhas a0_0 a1.f3)),h,hF.sub ⟨rfl,rfl,rfl,rfl,trivial⟩,hO.selT (Ls:=[Mp Try.prog 3 3 b1 a0_0,Blk b6 [VI a1.f0,VI a1.f1,VI a1.f2,VI a1.f3,VI a1.f4,.slice A2 a1.f5.length c3] 37]) [1,0] 2 rfl rfl rfl⟩
def word_Turned.f (a0:Int):Option (Int × Bool):=jn (γ:=(Int × Bool)) (fun (x38:Bool)=>(if x38=true then some (a0,true) else some (0,false))) (fun (j39:(Bool → Option (Int × Bool)))=>(if a0=1 then j39 (decide (a0=1)) else (if a0=3 then j39 (decide (a0=3)) else (if a0=6 then j39 (decide (a0=6)) else (if a0=7 then j39 (decide (a0=7)) else (if a0=8 then j39 (decide (a0=8)) else (if a0=13 then j39 (decide (a0=13)) else j39 (decide (a0=14)))))))))
def word_Turned.post (G:Gd)  (r:(Int × Bool)) (v:Value) (G':Gd) (Lr:List Ch):Prop:=G=G'∧v=.tuple #[VI r.1,.bool r.2]∧Lr=[]
theorem word_Turned.calls {G:Gd} {r:(Int × Bool)} {a0:Int} (h:word_Turned.f a0=some r):Fn Try.prog 117 G [] [VI a0] (word_Turned.post G  r):=by
 refine Fn.intro (e:=[(0,VI a0)]) 14 Try.func117 rfl Try.ntmps117 rfl rfl (Nat.le_of_ble_eq_true rfl) (fun L=>?_)
 unfold word_Turned.f at h
 refine TC.seq ?_
 refine TC.region ?_
 refine TV rfl rfl rfl (Val.assign rfl) ?_
 refine TV rfl rfl rfl (Val.assign rfl) ?_
 refine TL.nil ?_
 refine TQ.then_ ?_
 refine TC.seq ?_
 refine TC.seq ?_
 refine TC.region ?_
 refine TV rfl rfl rfl (Val.move rfl) ?_
 refine TL.nil ?_
 refine TQ.then_ ?_
 refine TC.block ?_
 refine TC.seq ?_
 refine TC.seq ?_
 refine TC.region ?_
 refine TV rfl rfl rfl (Val.cmp rfl rfl run_eql) ?_
 refine TV rfl rfl rfl (Val.assign rfl) ?_
 refine TL.nil ?_
 refine TQ.then_ ?_
 obtain ⟨j39,hj39,h⟩:=jn_no h
 refine TC.tail (fun a W=>∃ (x38:Bool),j39 x38=some r∧Fr 14 a [(0,VI a0),(5,.bool x38)]∧Own G (L) W) ?_ ?_
 ·
  rintro a W ⟨x38,h,hF,hO⟩
  rw [hj39] at h
  refine TQ.use ?_ hF hO
  clear hF hO
  refine TQ.then_ ?_
  refine TC.cond_b rfl h (fun hc41 h=>?_) (fun hc41 h=>?_)
  ·
   refine TC.seq ?_
   refine TC.region ?_
   refine TV rfl rfl rfl (Val.move rfl) ?_
   refine TV rfl rfl rfl (Val.assign rfl) ?_
   refine TV rfl rfl rfl (Val.assign rfl) ?_
   refine TL.nil ?_
   refine TQ.then_ ?_
   refine TC.ret ?_
   refine TQ.inBR ?_
   refine TQ.thenR ?_
   obtain rfl:=Option.some.inj h
   exact TQ.fin (.inl rfl) rfl Try.results117 (.tmp rfl (.tmp rfl .nil)) rfl (FRel.mk (Ls:=[]) [] 0 (Gd.le.refl _) rfl rfl rfl ⟨rfl,rfl,rfl⟩)
  ·
   refine TC.skip ?_
   refine TQ.inB ?_
   refine TQ.then_ ?_
   refine TC.seq ?_
   refine TC.region ?_
   refine TV rfl rfl rfl (Val.assign rfl) ?_
   refine TV rfl rfl rfl (Val.assign rfl) ?_
   refine TL.nil ?_
   refine TQ.then_ ?_
   refine TC.ret ?_
   obtain rfl:=Option.some.inj h
   exact TQ.fin (.inl rfl) rfl Try.results117 (.tmp rfl (.tmp rfl .nil)) rfl (FRel.mk (Ls:=[]) [] 0 (Gd.le.refl _) rfl rfl rfl ⟨rfl,rfl,rfl⟩)
 ·
  refine TC.cond_p rfl h (fun hc42 h=>?_) (fun hc42 h=>?_)
  ·
   refine TC.skip ?_
   exact fun a W hF hO=>⟨decide (a0=1),h,hF.sub ⟨rfl,rfl,trivial⟩,hO.selT (Ls:=[]) [] 0 rfl rfl rfl⟩
  ·
   refine TC.seq ?_
   refine TC.region ?_
   refine TV rfl rfl rfl (Val.cmp rfl rfl run_eql) ?_
   refine TV rfl rfl rfl (Val.assign rfl) ?_
   refine TL.nil ?_
   refine TQ.then_ ?_
   refine TC.cond_p rfl h (fun hc48 h=>?_) (fun hc48 h=>?_)
   ·
    refine TC.skip ?_
    exact fun a W hF hO=>⟨decide (a0=3),h,hF.sub ⟨rfl,rfl,trivial⟩,hO.selT (Ls:=[]) [] 0 rfl rfl rfl⟩
   ·
    refine TC.seq ?_
    refine TC.region ?_
    refine TV rfl rfl rfl (Val.cmp rfl rfl run_eql) ?_
    refine TV rfl rfl rfl (Val.assign rfl) ?_
    refine TL.nil ?_
    refine TQ.then_ ?_
    refine TC.cond_p rfl h (fun hc53 h=>?_) (fun hc53 h=>?_)
    ·
     refine TC.skip ?_
     exact fun a W hF hO=>⟨decide (a0=6),h,hF.sub ⟨rfl,rfl,trivial⟩,hO.selT (Ls:=[]) [] 0 rfl rfl rfl⟩
    ·
     refine TC.seq ?_
     refine TC.region ?_
     refine TV rfl rfl rfl (Val.cmp rfl rfl run_eql) ?_
     refine TV rfl rfl rfl (Val.assign rfl) ?_
     refine TL.nil ?_
     refine TQ.then_ ?_
     refine TC.cond_p rfl h (fun hc57 h=>?_) (fun hc57 h=>?_)
     ·
      refine TC.skip ?_
      exact fun a W hF hO=>⟨decide (a0=7),h,hF.sub ⟨rfl,rfl,trivial⟩,hO.selT (Ls:=[]) [] 0 rfl rfl rfl⟩
     ·
      refine TC.seq ?_
      refine TC.region ?_
      refine TV rfl rfl rfl (Val.cmp rfl rfl run_eql) ?_
      refine TV rfl rfl rfl (Val.assign rfl) ?_
      refine TL.nil ?_
      refine TQ.then_ ?_
      refine TC.cond_p rfl h (fun hc60 h=>?_) (fun hc60 h=>?_)
      ·
       refine TC.skip ?_
       exact fun a W hF hO=>⟨decide (a0=8),h,hF.sub ⟨rfl,rfl,trivial⟩,hO.selT (Ls:=[]) [] 0 rfl rfl rfl⟩
      ·
       refine TC.seq ?_
       refine TC.region ?_
       refine TV rfl rfl rfl (Val.cmp rfl rfl run_eql) ?_
       refine TV rfl rfl rfl (Val.assign rfl) ?_
       refine TL.nil ?_
       refine TQ.then_ ?_
       refine TC.cond_p rfl h (fun hc62 h=>?_) (fun hc62 h=>?_)
       ·
        refine TC.skip ?_
        exact fun a W hF hO=>⟨decide (a0=13),h,hF.sub ⟨rfl,rfl,trivial⟩,hO.selT (Ls:=[]) [] 0 rfl rfl rfl⟩
       ·
        refine TC.region ?_
        refine TV rfl rfl rfl (Val.cmp rfl rfl run_eql) ?_
        refine TV rfl rfl rfl (Val.assign rfl) ?_
        refine TL.nil ?_
        exact fun a W hF hO=>⟨decide (a0=14),h,hF.sub ⟨rfl,rfl,trivial⟩,hO.selT (Ls:=[]) [] 0 rfl rfl rfl⟩
def word_Fold.f (a0:Int) (a1:Int):Option (Int × Bool):=jn (γ:=(Int × Bool)) (fun (x28:Bool)=>(if x28=true then some (0,true) else jn (γ:=(Int × Bool)) (fun (x38:Bool)=>(if x38=true then some (1,true) else some (0,false))) (fun (j39:(Bool → Option (Int × Bool)))=>(if a0=12 then j39 (decide (a0=12)) else j39 (decide (a0=13)))))) (fun (j29:(Bool → Option (Int × Bool)))=>(if a0=2 then j29 (decide (a0=2)) else (if a0=8 then j29 (decide (a0=8)) else (if a0=11 then j29 (decide (a0=11)) else j29 (decide (a0=14))))))
def word_Fold.post (G:Gd)  (r:(Int × Bool)) (v:Value) (G':Gd) (Lr:List Ch):Prop:=G=G'∧v=.tuple #[VI r.1,.bool r.2]∧Lr=[]
theorem word_Fold.calls {G:Gd} {r:(Int × Bool)} {a0:Int} {a1:Int} (h:word_Fold.f a0 a1=some r):Fn Try.prog 118 G [] [VI a0,VI a1] (word_Fold.post G  r):=by
 refine Fn.intro (e:=[(0,VI a0),(1,VI a1)]) 15 Try.func118 rfl Try.ntmps118 rfl rfl (Nat.le_of_ble_eq_true rfl) (fun L=>?_)
 unfold word_Fold.f at h
 refine TC.seq ?_
 refine TC.region ?_
 refine TV rfl rfl rfl (Val.assign rfl) ?_
 refine TV rfl rfl rfl (Val.assign rfl) ?_
 refine TL.nil ?_
 refine TQ.then_ ?_
 refine TC.seq ?_
 refine TC.seq ?_
 refine TC.region ?_
 refine TV rfl rfl rfl (Val.move rfl) ?_
 refine TL.nil ?_
 refine TQ.then_ ?_
 refine TC.block ?_
 refine TC.seq ?_
 refine TC.seq ?_
 refine TC.region ?_
 refine TV rfl rfl rfl (Val.cmp rfl rfl run_eql) ?_
 refine TV rfl rfl rfl (Val.assign rfl) ?_
 refine TL.nil ?_
 refine TQ.then_ ?_
 obtain ⟨j29,hj29,h⟩:=jn_no h
 refine TC.tail (fun a W=>∃ (x28:Bool),j29 x28=some r∧Fr 15 a [(6,VI a0),(7,.bool x28)]∧Own G (L) W) ?_ ?_
 ·
  rintro a W ⟨x28,h,hF,hO⟩
  rw [hj29] at h
  refine TQ.use ?_ hF hO
  clear hF hO
  refine TQ.then_ ?_
  refine TC.cond_b rfl h (fun hc36 h=>?_) (fun hc36 h=>?_)
  ·
   refine TC.seq ?_
   refine TC.region ?_
   refine TV rfl rfl rfl (Val.assign rfl) ?_
   refine TV rfl rfl rfl (Val.assign rfl) ?_
   refine TL.nil ?_
   refine TQ.then_ ?_
   refine TC.ret ?_
   refine TQ.inBR ?_
   refine TQ.thenR ?_
   obtain rfl:=Option.some.inj h
   exact TQ.fin (.inl rfl) rfl Try.results118 (.tmp rfl (.tmp rfl .nil)) rfl (FRel.mk (Ls:=[]) [] 0 (Gd.le.refl _) rfl rfl rfl ⟨rfl,rfl,rfl⟩)
  ·
   refine TC.seq ?_
   refine TC.seq ?_
   refine TC.region ?_
   refine TV rfl rfl rfl (Val.cmp rfl rfl run_eql) ?_
   refine TV rfl rfl rfl (Val.assign rfl) ?_
   refine TL.nil ?_
   refine TQ.then_ ?_
   obtain ⟨j39,hj39,h⟩:=jn_no h
   refine TC.tail (fun a W=>∃ (x38:Bool),j39 x38=some r∧Fr 15 a [(12,.bool x38)]∧Own G (L) W) ?_ ?_
   ·
    rintro a W ⟨x38,h,hF,hO⟩
    rw [hj39] at h
    refine TQ.use ?_ hF hO
    clear hF hO
    refine TQ.then_ ?_
    refine TC.cond_b rfl h (fun hc41 h=>?_) (fun hc41 h=>?_)
    ·
     refine TC.seq ?_
     refine TC.region ?_
     refine TV rfl rfl rfl (Val.assign rfl) ?_
     refine TV rfl rfl rfl (Val.assign rfl) ?_
     refine TL.nil ?_
     refine TQ.then_ ?_
     refine TC.ret ?_
     refine TQ.inBR ?_
     refine TQ.thenR ?_
     obtain rfl:=Option.some.inj h
     exact TQ.fin (.inl rfl) rfl Try.results118 (.tmp rfl (.tmp rfl .nil)) rfl (FRel.mk (Ls:=[]) [] 0 (Gd.le.refl _) rfl rfl rfl ⟨rfl,rfl,rfl⟩)
    ·
     refine TC.skip ?_
     refine TQ.inB ?_
     refine TQ.then_ ?_
     refine TC.seq ?_
     refine TC.region ?_
     refine TV rfl rfl rfl (Val.assign rfl) ?_
     refine TV rfl rfl rfl (Val.assign rfl) ?_
     refine TL.nil ?_
     refine TQ.then_ ?_
     refine TC.ret ?_
     obtain rfl:=Option.some.inj h
     exact TQ.fin (.inl rfl) rfl Try.results118 (.tmp rfl (.tmp rfl .nil)) rfl (FRel.mk (Ls:=[]) [] 0 (Gd.le.refl _) rfl rfl rfl ⟨rfl,rfl,rfl⟩)
   ·
    refine TC.cond_p rfl h (fun hc42 h=>?_) (fun hc42 h=>?_)
    ·
     refine TC.skip ?_
     exact fun a W hF hO=>⟨decide (a0=12),h,hF.sub ⟨rfl,trivial⟩,hO.selT (Ls:=[]) [] 0 rfl rfl rfl⟩
    ·
     refine TC.region ?_
     refine TV rfl rfl rfl (Val.cmp rfl rfl run_eql) ?_
     refine TV rfl rfl rfl (Val.assign rfl) ?_
     refine TL.nil ?_
     exact fun a W hF hO=>⟨decide (a0=13),h,hF.sub ⟨rfl,trivial⟩,hO.selT (Ls:=[]) [] 0 rfl rfl rfl⟩
 ·
  refine TC.cond_p rfl h (fun hc43 h=>?_) (fun hc43 h=>?_)
  ·
   refine TC.skip ?_
   exact fun a W hF hO=>⟨decide (a0=2),h,hF.sub ⟨rfl,rfl,trivial⟩,hO.selT (Ls:=[]) [] 0 rfl rfl rfl⟩
  ·
   refine TC.seq ?_
   refine TC.region ?_
   refine TV rfl rfl rfl (Val.cmp rfl rfl run_eql) ?_
   refine TV rfl rfl rfl (Val.assign rfl) ?_
   refine TL.nil ?_
   refine TQ.then_ ?_
   refine TC.cond_p rfl h (fun hc46 h=>?_) (fun hc46 h=>?_)
   ·
    refine TC.skip ?_
    exact fun a W hF hO=>⟨decide (a0=8),h,hF.sub ⟨rfl,rfl,trivial⟩,hO.selT (Ls:=[]) [] 0 rfl rfl rfl⟩
   ·
    refine TC.seq ?_
    refine TC.region ?_
    refine TV rfl rfl rfl (Val.cmp rfl rfl run_eql) ?_
    refine TV rfl rfl rfl (Val.assign rfl) ?_
    refine TL.nil ?_
    refine TQ.then_ ?_
    refine TC.cond_p rfl h (fun hc48 h=>?_) (fun hc48 h=>?_)
    ·
     refine TC.skip ?_
     exact fun a W hF hO=>⟨decide (a0=11),h,hF.sub ⟨rfl,rfl,trivial⟩,hO.selT (Ls:=[]) [] 0 rfl rfl rfl⟩
    ·
     refine TC.region ?_
     refine TV rfl rfl rfl (Val.cmp rfl rfl run_eql) ?_
     refine TV rfl rfl rfl (Val.assign rfl) ?_
     refine TL.nil ?_
     exact fun a W hF hO=>⟨decide (a0=14),h,hF.sub ⟨rfl,rfl,trivial⟩,hO.selT (Ls:=[]) [] 0 rfl rfl rfl⟩
def fold_Neutral.f (a0:Int) (a1:Int):Option Bool:=jn (γ:=Bool) (fun (x45:Bool)=>(if x45=true then some (decide (a1=0)) else jn (γ:=Bool) (fun (x56:Bool)=>(if x56=true then some (decide (a1=1)) else (if a0=6 then some (decide (a1=(-1))) else some false))) (fun (j57:(Bool → Option Bool))=>(if a0=3 then j57 (decide (a0=3)) else j57 (decide (a0=4)))))) (fun (j46:(Bool → Option Bool))=>(if a0=1 then j46 (decide (a0=1)) else (if a0=2 then j46 (decide (a0=2)) else (if a0=7 then j46 (decide (a0=7)) else (if a0=8 then j46 (decide (a0=8)) else (if a0=9 then j46 (decide (a0=9)) else j46 (decide (a0=10))))))))
def fold_Neutral.post (G:Gd)  (r:Bool) (v:Value) (G':Gd) (Lr:List Ch):Prop:=G=G'∧v=.bool r∧Lr=[]
theorem fold_Neutral.calls {G:Gd} {r:Bool} {a0:Int} {a1:Int} (h:fold_Neutral.f a0 a1=some r):Fn Try.prog 49 G [] [VI a0,VI a1] (fold_Neutral.post G  r):=by
 refine Fn.intro (e:=[(0,VI a0),(1,VI a1)]) 24 Try.func49 rfl Try.ntmps49 rfl rfl (Nat.le_of_ble_eq_true rfl) (fun L=>?_)
 unfold fold_Neutral.f at h
 refine TC.seq ?_
 refine TC.region ?_
 refine TV rfl rfl rfl (Val.assign rfl) ?_
 refine TL.nil ?_
 refine TQ.then_ ?_
 refine TC.seq ?_
 refine TC.seq ?_
 refine TC.region ?_
 refine TV rfl rfl rfl (Val.move rfl) ?_
 refine TL.nil ?_
 refine TQ.then_ ?_
 refine TC.block ?_
 refine TC.seq ?_
 refine TC.seq ?_
 refine TC.region ?_
 refine TV rfl rfl rfl (Val.cmp rfl rfl run_eql) ?_
 refine TV rfl rfl rfl (Val.assign rfl) ?_
 refine TL.nil ?_
 refine TQ.then_ ?_
 obtain ⟨j46,hj46,h⟩:=jn_no h
 refine TC.tail (fun a W=>∃ (x45:Bool),j46 x45=some r∧Fr 24 a [(1,VI a1),(5,VI a0),(6,.bool x45)]∧Own G (L) W) ?_ ?_
 ·
  rintro a W ⟨x45,h,hF,hO⟩
  rw [hj46] at h
  refine TQ.use ?_ hF hO
  clear hF hO
  refine TQ.then_ ?_
  refine TC.cond_b rfl h (fun hc54 h=>?_) (fun hc54 h=>?_)
  ·
   refine TC.seq ?_
   refine TC.region ?_
   refine TV rfl rfl rfl (Val.move rfl) ?_
   refine TV rfl rfl rfl (Val.cmp rfl rfl run_eql) ?_
   refine TV rfl rfl rfl (Val.assign rfl) ?_
   refine TL.nil ?_
   refine TQ.then_ ?_
   refine TC.ret ?_
   refine TQ.inBR ?_
   refine TQ.thenR ?_
   obtain rfl:=Option.some.inj h
   exact TQ.fin (.inl rfl) rfl Try.results49 (.tmp rfl .nil) rfl (FRel.mk (Ls:=[]) [] 0 (Gd.le.refl _) rfl rfl rfl ⟨rfl,rfl,rfl⟩)
  ·
   refine TC.seq ?_
   refine TC.seq ?_
   refine TC.region ?_
   refine TV rfl rfl rfl (Val.cmp rfl rfl run_eql) ?_
   refine TV rfl rfl rfl (Val.assign rfl) ?_
   refine TL.nil ?_
   refine TQ.then_ ?_
   obtain ⟨j57,hj57,h⟩:=jn_no h
   refine TC.tail (fun a W=>∃ (x56:Bool),j57 x56=some r∧Fr 24 a [(1,VI a1),(5,VI a0),(15,.bool x56)]∧Own G (L) W) ?_ ?_
   ·
    rintro a W ⟨x56,h,hF,hO⟩
    rw [hj57] at h
    refine TQ.use ?_ hF hO
    clear hF hO
    refine TQ.then_ ?_
    refine TC.cond_b rfl h (fun hc60 h=>?_) (fun hc60 h=>?_)
    ·
     refine TC.seq ?_
     refine TC.region ?_
     refine TV rfl rfl rfl (Val.move rfl) ?_
     refine TV rfl rfl rfl (Val.cmp rfl rfl run_eql) ?_
     refine TV rfl rfl rfl (Val.assign rfl) ?_
     refine TL.nil ?_
     refine TQ.then_ ?_
     refine TC.ret ?_
     refine TQ.inBR ?_
     refine TQ.thenR ?_
     obtain rfl:=Option.some.inj h
     exact TQ.fin (.inl rfl) rfl Try.results49 (.tmp rfl .nil) rfl (FRel.mk (Ls:=[]) [] 0 (Gd.le.refl _) rfl rfl rfl ⟨rfl,rfl,rfl⟩)
    ·
     refine TC.seq ?_
     refine TC.region ?_
     refine TV rfl rfl rfl (Val.cmp rfl rfl run_eql) ?_
     refine TV rfl rfl rfl (Val.assign rfl) ?_
     refine TL.nil ?_
     refine TQ.then_ ?_
     refine TC.cond_p rfl h (fun hc62 h=>?_) (fun hc62 h=>?_)
     ·
      refine TC.seq ?_
      refine TC.region ?_
      refine TV rfl rfl rfl (Val.move rfl) ?_
      refine TV rfl rfl rfl (Val.cmp rfl rfl run_eql) ?_
      refine TV rfl rfl rfl (Val.assign rfl) ?_
      refine TL.nil ?_
      refine TQ.then_ ?_
      refine TC.ret ?_
      refine TQ.inBR ?_
      refine TQ.thenR ?_
      obtain rfl:=Option.some.inj h
      exact TQ.fin (.inl rfl) rfl Try.results49 (.tmp rfl .nil) rfl (FRel.mk (Ls:=[]) [] 0 (Gd.le.refl _) rfl rfl rfl ⟨rfl,rfl,rfl⟩)
     ·
      refine TC.skip ?_
      refine TQ.inB ?_
      refine TQ.then_ ?_
      refine TC.seq ?_
      refine TC.region ?_
      refine TV rfl rfl rfl (Val.assign rfl) ?_
      refine TL.nil ?_
      refine TQ.then_ ?_
      refine TC.ret ?_
      obtain rfl:=Option.some.inj h
      exact TQ.fin (.inl rfl) rfl Try.results49 (.tmp rfl .nil) rfl (FRel.mk (Ls:=[]) [] 0 (Gd.le.refl _) rfl rfl rfl ⟨rfl,rfl,rfl⟩)
   ·
    refine TC.cond_p rfl h (fun hc63 h=>?_) (fun hc63 h=>?_)
    ·
     refine TC.skip ?_
     exact fun a W hF hO=>⟨decide (a0=3),h,hF.sub ⟨rfl,rfl,rfl,trivial⟩,hO.selT (Ls:=[]) [] 0 rfl rfl rfl⟩
    ·
     refine TC.region ?_
     refine TV rfl rfl rfl (Val.cmp rfl rfl run_eql) ?_
     refine TV rfl rfl rfl (Val.assign rfl) ?_
     refine TL.nil ?_
     exact fun a W hF hO=>⟨decide (a0=4),h,hF.sub ⟨rfl,rfl,rfl,trivial⟩,hO.selT (Ls:=[]) [] 0 rfl rfl rfl⟩
 ·
  refine TC.cond_p rfl h (fun hc64 h=>?_) (fun hc64 h=>?_)
  ·
   refine TC.skip ?_
   exact fun a W hF hO=>⟨decide (a0=1),h,hF.sub ⟨rfl,rfl,rfl,trivial⟩,hO.selT (Ls:=[]) [] 0 rfl rfl rfl⟩
  ·
   refine TC.seq ?_
   refine TC.region ?_
   refine TV rfl rfl rfl (Val.cmp rfl rfl run_eql) ?_
   refine TV rfl rfl rfl (Val.assign rfl) ?_
   refine TL.nil ?_
   refine TQ.then_ ?_
   refine TC.cond_p rfl h (fun hc69 h=>?_) (fun hc69 h=>?_)
   ·
    refine TC.skip ?_
    exact fun a W hF hO=>⟨decide (a0=2),h,hF.sub ⟨rfl,rfl,rfl,trivial⟩,hO.selT (Ls:=[]) [] 0 rfl rfl rfl⟩
   ·
    refine TC.seq ?_
    refine TC.region ?_
    refine TV rfl rfl rfl (Val.cmp rfl rfl run_eql) ?_
    refine TV rfl rfl rfl (Val.assign rfl) ?_
    refine TL.nil ?_
    refine TQ.then_ ?_
    refine TC.cond_p rfl h (fun hc73 h=>?_) (fun hc73 h=>?_)
    ·
     refine TC.skip ?_
     exact fun a W hF hO=>⟨decide (a0=7),h,hF.sub ⟨rfl,rfl,rfl,trivial⟩,hO.selT (Ls:=[]) [] 0 rfl rfl rfl⟩
    ·
     refine TC.seq ?_
     refine TC.region ?_
     refine TV rfl rfl rfl (Val.cmp rfl rfl run_eql) ?_
     refine TV rfl rfl rfl (Val.assign rfl) ?_
     refine TL.nil ?_
     refine TQ.then_ ?_
     refine TC.cond_p rfl h (fun hc76 h=>?_) (fun hc76 h=>?_)
     ·
      refine TC.skip ?_
      exact fun a W hF hO=>⟨decide (a0=8),h,hF.sub ⟨rfl,rfl,rfl,trivial⟩,hO.selT (Ls:=[]) [] 0 rfl rfl rfl⟩
     ·
      refine TC.seq ?_
      refine TC.region ?_
      refine TV rfl rfl rfl (Val.cmp rfl rfl run_eql) ?_
      refine TV rfl rfl rfl (Val.assign rfl) ?_
      refine TL.nil ?_
      refine TQ.then_ ?_
      refine TC.cond_p rfl h (fun hc78 h=>?_) (fun hc78 h=>?_)
      ·
       refine TC.skip ?_
       exact fun a W hF hO=>⟨decide (a0=9),h,hF.sub ⟨rfl,rfl,rfl,trivial⟩,hO.selT (Ls:=[]) [] 0 rfl rfl rfl⟩
      ·
       refine TC.region ?_
       refine TV rfl rfl rfl (Val.cmp rfl rfl run_eql) ?_
       refine TV rfl rfl rfl (Val.assign rfl) ?_
       refine TL.nil ?_
       exact fun a W hF hO=>⟨decide (a0=10),h,hF.sub ⟨rfl,rfl,rfl,trivial⟩,hO.selT (Ls:=[]) [] 0 rfl rfl rfl⟩
def fold_numbers_neutral.f (a0_0:MpS) (a1:Int) (a2:Int):Option Bool:=(if wfi a2 then (if (mhas a0_0 a2)=true then (fold_Neutral.f a1 (mget a0_0 a2)).bind fun (y10:Bool)=>some y10 else some false) else none)
def fold_numbers_neutral.post (G:Gd) (b1:Nat) (a0_0:MpS) (a1:Int) (a2:Int) (r:Bool) (v:Value) (G':Gd) (Lr:List Ch):Prop:=G=G'∧v=.bool r∧Lr=[Mp Try.prog 3 3 b1 a0_0]
theorem fold_numbers_neutral.calls {G:Gd} {r:Bool} {a0_0:MpS} {a1:Int} {a2:Int} {b1:Nat} (h:fold_numbers_neutral.f a0_0 a1 a2=some r):Fn Try.prog 119 G [Mp Try.prog 3 3 b1 a0_0] [.map (some b1),VI a1,VI a2] (fold_numbers_neutral.post G b1 a0_0 a1 a2 r):=by
 refine Fn.intro (e:=[(0,.map (some b1)),(1,VI a1),(2,VI a2)]) 21 Try.func119 rfl Try.ntmps119 rfl rfl (Nat.le_of_ble_eq_true rfl) (fun L=>?_)
 unfold fold_numbers_neutral.f at h
 refine TC.seq ?_
 refine TC.region ?_
 refine TV rfl rfl rfl (Val.assign rfl) ?_
 refine TL.nil ?_
 refine TQ.then_ ?_
 refine TC.seq ?_
 refine TC.region ?_
 refine TV rfl rfl rfl (Val.move rfl) ?_
 refine TV rfl rfl rfl (Val.move rfl) ?_
 obtain ⟨hz2,h⟩:=ite_no h
 refine TV rfl rfl rfl (Val.lookupOk 0 Try.underlying110 Try.underlying3 Try.underlying3 zr3 rfl rfl rfl hz2) ?_
 refine TV rfl rfl rfl (Val.move rfl) ?_
 refine TV rfl rfl rfl (Val.extract rfl rfl) ?_
 refine TV rfl rfl rfl (Val.extract rfl rfl) ?_
 refine TV rfl rfl rfl (Val.assign rfl) ?_
 refine TV rfl rfl rfl (Val.assign rfl) ?_
 refine TL.nil ?_
 refine TQ.then_ ?_
 refine TC.seq ?_
 refine TC.region ?_
 refine TV rfl rfl rfl (Val.move rfl) ?_
 refine TV rfl rfl rfl (Val.move rfl) ?_
 refine TK.split (p:=(mhas a0_0 a2)=true) h (fun hg8 h=>?_) (fun hg8 h=>?_)
 ·
  have hk9:(mhas a0_0 a2)=true:=hg8
  refine TV (Wt.yes rfl rfl rfl hk9) rfl rfl (Val.move rfl) ?_
  refine TV (Wt.yes rfl rfl rfl hk9) rfl rfl (Val.move rfl) ?_
  obtain ⟨y10,hy11,h⟩:=bind_no h
  refine TL.cons (TL.callV (Lin:=[]) (args:=[VI a1,VI (mget a0_0 a2)]) (Wt.yes rfl rfl rfl hk9) rfl rfl hbd49 rfl rfl (fold_Neutral.calls (a0:=a1) (a1:=(mget a0_0 a2)) hy11) rfl ?_)
  rintro _ _ _ _ ⟨rfl,rfl,rfl⟩
  refine TV rfl rfl rfl (Val.pickY rfl hk9 rfl) ?_
  refine TV rfl rfl rfl (Val.assign rfl) ?_
  refine TL.nil ?_
  refine TQ.then_ ?_
  refine TC.ret ?_
  obtain rfl:=Option.some.inj h
  exact TQ.fin (.inl rfl) rfl Try.results119 (.tmp rfl .nil) rfl (FRel.mk (Ls:=[Mp Try.prog 3 3 b1 a0_0]) [0] 1 (Gd.le.refl _) rfl rfl rfl ⟨rfl,rfl,rfl⟩)
 ·
  have hk12:(mhas a0_0 a2)=false:=(by simpa using hg8)
  refine TL.cons (TL.not (Wt.no rfl rfl rfl hk12) rfl ?_)
  refine TL.cons (TL.not (Wt.no rfl rfl rfl hk12) rfl ?_)
  refine TL.cons (TL.not (Wt.no rfl rfl rfl hk12) rfl ?_)
  refine TV rfl rfl rfl (Val.pickN rfl hk12 rfl) ?_
  refine TV rfl rfl rfl (Val.assign rfl) ?_
  refine TL.nil ?_
  refine TQ.then_ ?_
  refine TC.ret ?_
  obtain rfl:=Option.some.inj h
  exact TQ.fin (.inl rfl) rfl Try.results119 (.tmp rfl .nil) rfl (FRel.mk (Ls:=[Mp Try.prog 3 3 b1 a0_0]) [0] 1 (Gd.le.refl _) rfl rfl rfl ⟨rfl,rfl,rfl⟩)
def fold_move.f (a0:S37) (a1:Int):Option S37:=some (⟨3,a0.f1,a1,0,0,([]:List Int)⟩:S37)
def fold_move.post (G:Gd)  (r:S37) (v:Value) (G':Gd) (Lr:List Ch):Prop:=G=G'∧∃ (A_1:Option Addr) (c_1:Nat),v=.agg #[VI r.f0,VI r.f1,VI r.f2,VI r.f3,VI r.f4,.slice A_1 r.f5.length c_1]∧Lr=[Row kI 3 (.slice A_1 r.f5.length c_1) r.f5]
theorem fold_move.calls {G:Gd} {r:S37} {a0:S37} {a1:Int} {A1:Option Addr} {c2:Nat} (hr3:Rd G kI A1 a0.f5) (hl4:a0.f5.length ≤ c2) (h:fold_move.f a0 a1=some r):Fn Try.prog 120 G [] [.agg #[VI a0.f0,VI a0.f1,VI a0.f2,VI a0.f3,VI a0.f4,.slice A1 a0.f5.length c2],VI a1] (fold_move.post G  r):=by
 refine Fn.intro (e:=[(0,.agg #[VI a0.f0,VI a0.f1,VI a0.f2,VI a0.f3,VI a0.f4,.slice A1 a0.f5.length c2]),(1,VI a1)]) 9 Try.func120 rfl Try.ntmps120 rfl rfl (Nat.le_of_ble_eq_true rfl) (fun L=>?_)
 unfold fold_move.f at h
 refine TC.seq ?_
 refine TC.region ?_
 refine TL.cons (TL.box (cs:=[VI a0.f0,VI a0.f1,VI a0.f2,VI a0.f3,VI a0.f4,.slice A1 a0.f5.length c2]) rfl rfl rfl rfl (fun b5=>?_))
 refine TL.cons (TL.alloc (cs:=[VI 0,VI 0,VI 0,VI 0,VI 0,.slice none 0 0]) rfl rfl zr37 rfl (fun b6=>?_))
 refine TL.nil ?_
 refine TQ.then_ ?_
 refine TC.seq ?_
 refine TC.region ?_
 refine TV rfl rfl rfl (Val.fieldAddrB Try.underlying37 rfl fsz3 rfl rfl rfl) ?_
 refine TV rfl rfl rfl (Val.loadB 1 agg3 rfl rfl rfl) ?_
 refine TV rfl rfl rfl (Val.move rfl) ?_
 refine TV rfl rfl rfl (Val.build (cs:=[VI 3,VI a0.f1,VI a1,VI 0,VI 0,.slice none 0 0]) (is:=[0,1,2]) (xs:=[.const (VI 3),.tmp 6,.tmp 7]) Try.underlying37 zr37 bld37 rfl rfl rfl rfl) ?_
 refine TL.cons (TL.store 0 (ds:=[VI 3,VI a0.f1,VI a1,VI 0,VI 0,.slice none 0 0]) (cs':=[VI 3,VI a0.f1,VI a1,VI 0,VI 0,.slice none 0 0]) (L':=(Blk b6 [VI 3,VI a0.f1,VI a1,VI 0,VI 0,.slice none 0 0] 37::Blk b5 [VI a0.f0,VI a0.f1,VI a0.f2,VI a0.f3,VI a0.f4,.slice A1 a0.f5.length c2] 37::L)) rfl fsz37 rfl rfl rfl rfl rfl (Nat.le_of_ble_eq_true rfl) rfl rfl ?_)
 refine TL.nil ?_
 refine TQ.then_ ?_
 refine TC.ret ?_
 refine TQ.nilRow kI 3 ?_
 obtain rfl:=Option.some.inj h
 exact TQ.fin (.inl rfl) rfl Try.results120 (.cells 1 rfl rfl agg37 fsz37 .nil) rfl (FRel.mk (Ls:=[Row kI 3 (.slice none 0 0) ([]:List Int)]) [0] 3 (Gd.le.refl _) rfl rfl rfl ⟨rfl,none,0,rfl,rfl⟩)
def fold_numbers_zero.f (a0_0:MpS) (a1:Int):Option Bool:=(if wfi a1 then (if (mhas a0_0 a1)=true then some (decide ((mget a0_0 a1)=0)) else some false) else none)
def fold_numbers_zero.post (G:Gd) (b1:Nat) (a0_0:MpS) (a1:Int) (r:Bool) (v:Value) (G':Gd) (Lr:List Ch):Prop:=G=G'∧v=.bool r∧Lr=[Mp Try.prog 3 3 b1 a0_0]
theorem fold_numbers_zero.calls {G:Gd} {r:Bool} {a0_0:MpS} {a1:Int} {b1:Nat} (h:fold_numbers_zero.f a0_0 a1=some r):Fn Try.prog 121 G [Mp Try.prog 3 3 b1 a0_0] [.map (some b1),VI a1] (fold_numbers_zero.post G b1 a0_0 a1 r):=by
 refine Fn.intro (e:=[(0,.map (some b1)),(1,VI a1)]) 18 Try.func121 rfl Try.ntmps121 rfl rfl (Nat.le_of_ble_eq_true rfl) (fun L=>?_)
 unfold fold_numbers_zero.f at h
 refine TC.seq ?_
 refine TC.region ?_
 refine TV rfl rfl rfl (Val.assign rfl) ?_
 refine TL.nil ?_
 refine TQ.then_ ?_
 refine TC.seq ?_
 refine TC.region ?_
 refine TV rfl rfl rfl (Val.move rfl) ?_
 refine TV rfl rfl rfl (Val.move rfl) ?_
 obtain ⟨hz2,h⟩:=ite_no h
 refine TV rfl rfl rfl (Val.lookupOk 0 Try.underlying110 Try.underlying3 Try.underlying3 zr3 rfl rfl rfl hz2) ?_
 refine TV rfl rfl rfl (Val.move rfl) ?_
 refine TV rfl rfl rfl (Val.extract rfl rfl) ?_
 refine TV rfl rfl rfl (Val.extract rfl rfl) ?_
 refine TV rfl rfl rfl (Val.assign rfl) ?_
 refine TV rfl rfl rfl (Val.assign rfl) ?_
 refine TL.nil ?_
 refine TQ.then_ ?_
 refine TC.seq ?_
 refine TC.region ?_
 refine TV rfl rfl rfl (Val.move rfl) ?_
 refine TV rfl rfl rfl (Val.move rfl) ?_
 refine TK.split (p:=(mhas a0_0 a1)=true) h (fun hg6 h=>?_) (fun hg6 h=>?_)
 ·
  have hk7:(mhas a0_0 a1)=true:=hg6
  refine TV (Wt.yes rfl rfl rfl hk7) rfl rfl (Val.move rfl) ?_
  refine TV (Wt.yes rfl rfl rfl hk7) rfl rfl (Val.cmp rfl rfl run_eql) ?_
  refine TV rfl rfl rfl (Val.pickY rfl hk7 rfl) ?_
  refine TV rfl rfl rfl (Val.assign rfl) ?_
  refine TL.nil ?_
  refine TQ.then_ ?_
  refine TC.ret ?_
  obtain rfl:=Option.some.inj h
  exact TQ.fin (.inl rfl) rfl Try.results121 (.tmp rfl .nil) rfl (FRel.mk (Ls:=[Mp Try.prog 3 3 b1 a0_0]) [0] 1 (Gd.le.refl _) rfl rfl rfl ⟨rfl,rfl,rfl⟩)
 ·
  have hk8:(mhas a0_0 a1)=false:=(by simpa using hg6)
  refine TL.cons (TL.not (Wt.no rfl rfl rfl hk8) rfl ?_)
  refine TL.cons (TL.not (Wt.no rfl rfl rfl hk8) rfl ?_)
  refine TV rfl rfl rfl (Val.pickN rfl hk8 rfl) ?_
  refine TV rfl rfl rfl (Val.assign rfl) ?_
  refine TL.nil ?_
  refine TQ.then_ ?_
  refine TC.ret ?_
  obtain rfl:=Option.some.inj h
  exact TQ.fin (.inl rfl) rfl Try.results121 (.tmp rfl .nil) rfl (FRel.mk (Ls:=[Mp Try.prog 3 3 b1 a0_0]) [0] 1 (Gd.le.refl _) rfl rfl rfl ⟨rfl,rfl,rfl⟩)
def fold_numbers_reckon.f (a0_0:MpS) (a1:S37):Option S37:=(fold_numbers_both.f a0_0 a1).bind fun (y8:(Int × Bool))=>(word_Turned.f a1.f4).bind fun (y10:(Int × Bool))=>(word_Fold.f a1.f4 0).bind fun (y12:(Int × Bool))=>(if y8.2=true then (fold_constant.f a1 y8.1).bind fun (y617:S37)=>some y617 else (fold_numbers_neutral.f a0_0 a1.f4 a1.f3).bind fun (y627:Bool)=>(if y627=true then (fold_move.f a1 a1.f2).bind fun (y736:S37)=>some y736 else jn (γ:=S37) (fun (x751:Bool)=>(if x751=true then (fold_move.f a1 a1.f3).bind fun (y842:S37)=>some y842 else jn (γ:=S37) (fun (x872:Bool)=>(if x872=true then (fold_constant.f a1 0).bind fun (y915:S37)=>some y915 else jn (γ:=S37) (fun (x931:Bool)=>(if x931=true then (fold_move.f a1 a1.f2).bind fun (y954:S37)=>some y954 else jn (γ:=S37) (fun (x967:Bool)=>(if x967=true then (fold_constant.f a1 y12.1).bind fun (y976:S37)=>some y976 else some a1)) (fun (j968:(Bool → Option S37))=>(if a1.f2=a1.f3 then j968 y12.2 else j968 false)))) (fun (j932:(Bool → Option S37))=>(if a1.f2=a1.f3 then (if a1.f4=6 then j932 true else j932 (decide (a1.f4=7))) else j932 false)))) (fun (j873:(Bool → Option S37))=>(if a1.f4=3 then (fold_numbers_zero.f a0_0 a1.f2).bind fun (y997:Bool)=>(if y997=true then j873 true else (fold_numbers_zero.f a0_0 a1.f3).bind fun (y1002:Bool)=>j873 y1002) else (if a1.f4=6 then (fold_numbers_zero.f a0_0 a1.f2).bind fun (y1007:Bool)=>(if y1007=true then j873 true else (fold_numbers_zero.f a0_0 a1.f3).bind fun (y1012:Bool)=>j873 y1012) else j873 false))))) (fun (j752:(Bool → Option S37))=>(if y10.2=true then (fold_numbers_neutral.f a0_0 a1.f4 a1.f2).bind fun (y1017:Bool)=>j752 y1017 else j752 false))))
def fold_numbers_reckon.post (G:Gd) (b1:Nat) (A2:Option Addr) (c3:Nat) (a0_0:MpS) (a1:S37) (r:S37) (v:Value) (G':Gd) (Lr:List Ch):Prop:=∃ (A_1:Option Addr) (c_1:Nat),v=.agg #[VI r.f0,VI r.f1,VI r.f2,VI r.f3,VI r.f4,.slice A_1 r.f5.length c_1]∧Lr=[Mp Try.prog 3 3 b1 a0_0]∧Rd G' kI A_1 r.f5∧r.f5.length ≤ c_1
theorem fold_numbers_reckon.calls {G:Gd} {r:S37} {a0_0:MpS} {a1:S37} {b1:Nat} {A2:Option Addr} {c3:Nat} (hr4:Rd G kI A2 a1.f5) (hl5:a1.f5.length ≤ c3) (h:fold_numbers_reckon.f a0_0 a1=some r):Fn Try.prog 94 G [Mp Try.prog 3 3 b1 a0_0] [.map (some b1),.agg #[VI a1.f0,VI a1.f1,VI a1.f2,VI a1.f3,VI a1.f4,.slice A2 a1.f5.length c3]] (fold_numbers_reckon.post G b1 A2 c3 a0_0 a1 r):=by
 refine Fn.intro (e:=[(0,.map (some b1)),(1,.agg #[VI a1.f0,VI a1.f1,VI a1.f2,VI a1.f3,VI a1.f4,.slice A2 a1.f5.length c3])]) 113 Try.func94 rfl Try.ntmps94 rfl rfl (Nat.le_of_ble_eq_true rfl) (fun L=>?_)
 unfold fold_numbers_reckon.f at h
 refine TC.seq ?_
 refine TC.region ?_
 refine TL.cons (TL.box (cs:=[VI a1.f0,VI a1.f1,VI a1.f2,VI a1.f3,VI a1.f4,.slice A2 a1.f5.length c3]) rfl rfl rfl rfl (fun b6=>?_))
 refine TL.cons (TL.alloc (cs:=[VI 0,VI 0,VI 0,VI 0,VI 0,.slice none 0 0]) rfl rfl zr37 rfl (fun b7=>?_))
 refine TL.nil ?_
 refine TQ.then_ ?_
 refine TC.seq ?_
 refine TC.region ?_
 refine TV rfl rfl rfl (Val.move rfl) ?_
 refine TV rfl rfl rfl (Val.loadsB 1 (cs:=[VI a1.f0,VI a1.f1,VI a1.f2,VI a1.f3,VI a1.f4,.slice A2 a1.f5.length c3]) agg37 fsz37 rfl rfl rfl rfl) ?_
 refine TK.sel (Ls:=[Mp Try.prog 3 3 b1 a0_0,Blk b7 [VI 0,VI 0,VI 0,VI 0,VI 0,.slice none 0 0] 37,Blk b6 [VI a1.f0,VI a1.f1,VI a1.f2,VI a1.f3,VI a1.f4,.slice A2 a1.f5.length c3] 37]) [2,0,1] 3 rfl rfl rfl ?_
 obtain ⟨y8,hy9,h⟩:=bind_no h
 refine TL.cons (TL.callV (Lin:=[Mp Try.prog 3 3 b1 a0_0]) (args:=[.map (some b1),.agg #[VI a1.f0,VI a1.f1,VI a1.f2,VI a1.f3,VI a1.f4,.slice A2 a1.f5.length c3]]) rfl rfl rfl hbd116 rfl rfl (fold_numbers_both.calls (a0_0:=a0_0) (a1:=a1) hr4 hl5 hy9) rfl ?_)
 rintro _ _ _ _ ⟨rfl,rfl,rfl⟩
 refine TV rfl rfl rfl (Val.move rfl) ?_
 refine TV rfl rfl rfl (Val.extract rfl rfl) ?_
 refine TV rfl rfl rfl (Val.extract rfl rfl) ?_
 refine TV rfl rfl rfl (Val.assign rfl) ?_
 refine TV rfl rfl rfl (Val.assign rfl) ?_
 refine TL.nil ?_
 refine TQ.then_ ?_
 refine TC.seq ?_
 refine TC.region ?_
 refine TV rfl rfl rfl (Val.fieldAddrB Try.underlying37 rfl fsz3 rfl rfl rfl) ?_
 refine TV rfl rfl rfl (Val.loadB 2 agg3 rfl rfl rfl) ?_
 obtain ⟨y10,hy11,h⟩:=bind_no h
 refine TL.cons (TL.callV (Lin:=[]) (args:=[VI a1.f4]) rfl rfl rfl hbd117 rfl rfl (word_Turned.calls (a0:=a1.f4) hy11) rfl ?_)
 rintro _ _ _ _ ⟨rfl,rfl,rfl⟩
 refine TV rfl rfl rfl (Val.move rfl) ?_
 refine TV rfl rfl rfl (Val.extract rfl rfl) ?_
 refine TV rfl rfl rfl (Val.extract rfl rfl) ?_
 refine TV rfl rfl rfl (Val.assign rfl) ?_
 refine TV rfl rfl rfl (Val.assign rfl) ?_
 refine TL.nil ?_
 refine TQ.then_ ?_
 refine TC.seq ?_
 refine TC.region ?_
 refine TV rfl rfl rfl (Val.fieldAddrB Try.underlying37 rfl fsz3 rfl rfl rfl) ?_
 refine TV rfl rfl rfl (Val.loadB 2 agg3 rfl rfl rfl) ?_
 obtain ⟨y12,hy13,h⟩:=bind_no h
 refine TL.cons (TL.callV (Lin:=[]) (args:=[VI a1.f4,VI 0]) rfl rfl rfl hbd118 rfl rfl (word_Fold.calls (a0:=a1.f4) (a1:=0) hy13) rfl ?_)
 rintro _ _ _ _ ⟨rfl,rfl,rfl⟩
 refine TV rfl rfl rfl (Val.move rfl) ?_
 refine TV rfl rfl rfl (Val.extract rfl rfl) ?_
 refine TV rfl rfl rfl (Val.extract rfl rfl) ?_
 refine TV rfl rfl rfl (Val.assign rfl) ?_
 refine TV rfl rfl rfl (Val.assign rfl) ?_
 refine TL.nil ?_
 refine TQ.then_ ?_
 refine TC.seq ?_
 refine TC.region ?_
 refine TV rfl rfl rfl (Val.fieldAddrB Try.underlying37 rfl fsz3 rfl rfl rfl) ?_
 refine TV rfl rfl rfl (Val.loadB 2 agg3 rfl rfl rfl) ?_
 refine TV rfl rfl rfl (Val.fieldAddrB Try.underlying37 rfl fsz3 rfl rfl rfl) ?_
 refine TV rfl rfl rfl (Val.loadB 2 agg3 rfl rfl rfl) ?_
 refine TV rfl rfl rfl (Val.cmp rfl rfl run_eql) ?_
 refine TV rfl rfl rfl (Val.assign rfl) ?_
 refine TL.nil ?_
 refine TQ.then_ ?_
 refine TC.seq ?_
 refine TC.block ?_
 refine TC.seq ?_
 refine TC.region ?_
 refine TV rfl rfl rfl (Val.move rfl) ?_
 refine TV rfl rfl rfl (Val.assign rfl) ?_
 refine TL.nil ?_
 refine TQ.then_ ?_
 refine TC.cond_b rfl h (fun hc616 h=>?_) (fun hc616 h=>?_)
 ·
  refine TC.seq ?_
  refine TC.region ?_
  refine TV rfl rfl rfl (Val.loadsB 2 (cs:=[VI a1.f0,VI a1.f1,VI a1.f2,VI a1.f3,VI a1.f4,.slice A2 a1.f5.length c3]) agg37 fsz37 rfl rfl rfl rfl) ?_
  refine TV rfl rfl rfl (Val.move rfl) ?_
  obtain ⟨y617,hy618,h⟩:=bind_no h
  refine TL.cons (TL.callV (Lin:=[]) (args:=[.agg #[VI a1.f0,VI a1.f1,VI a1.f2,VI a1.f3,VI a1.f4,.slice A2 a1.f5.length c3],VI y8.1]) rfl rfl rfl hbd93 rfl rfl (fold_constant.calls (a0:=a1) (a1:=y8.1) hr4 hl5 hy618) rfl ?_)
  rintro _ _ _ _ ⟨rfl,A619,c620,rfl,rfl⟩
  refine TL.cons (TL.store 2 (ds:=[VI y617.f0,VI y617.f1,VI y617.f2,VI y617.f3,VI y617.f4,.slice A619 y617.f5.length c620]) (cs':=[VI y617.f0,VI y617.f1,VI y617.f2,VI y617.f3,VI y617.f4,.slice A619 y617.f5.length c620]) (L':=(Row kI 3 (.slice A619 y617.f5.length c620) y617.f5::Mp Try.prog 3 3 b1 a0_0::Blk b7 [VI y617.f0,VI y617.f1,VI y617.f2,VI y617.f3,VI y617.f4,.slice A619 y617.f5.length c620] 37::Blk b6 [VI a1.f0,VI a1.f1,VI a1.f2,VI a1.f3,VI a1.f4,.slice A2 a1.f5.length c3] 37::L)) rfl fsz37 rfl rfl rfl rfl rfl (Nat.le_of_ble_eq_true rfl) rfl rfl ?_)
  refine TL.nil ?_
  refine TQ.then_ ?_
  refine TC.ret ?_
  refine TQ.inBR ?_
  refine TQ.thenR ?_
  refine TQ.share (fun G622 e623 hs624 _=>?_)
  have rd625:Rd G622 kI A619 y617.f5:=Rd.row hs624
  have le626:y617.f5.length ≤ c620:=Row.le hs624
  obtain rfl:=Option.some.inj h
  exact TQ.fin (.inl rfl) rfl Try.results94 (.cells 1 rfl rfl agg37 fsz37 .nil) rfl (FRel.mk (Ls:=[Mp Try.prog 3 3 b1 a0_0]) [0] 3 e623 rfl rfl rfl ⟨A619,c620,rfl,rfl,rd625,le626⟩)
 ·
  refine TC.seq ?_
  refine TC.region ?_
  refine TV rfl rfl rfl (Val.move rfl) ?_
  refine TV rfl rfl rfl (Val.fieldAddrB Try.underlying37 rfl fsz3 rfl rfl rfl) ?_
  refine TV rfl rfl rfl (Val.loadB 2 agg3 rfl rfl rfl) ?_
  refine TV rfl rfl rfl (Val.fieldAddrB Try.underlying37 rfl fsz3 rfl rfl rfl) ?_
  refine TV rfl rfl rfl (Val.loadB 2 agg3 rfl rfl rfl) ?_
  obtain ⟨y627,hy628,h⟩:=bind_no h
  refine TL.cons (TL.callV (Lin:=[Mp Try.prog 3 3 b1 a0_0]) (args:=[.map (some b1),VI a1.f4,VI a1.f3]) rfl rfl rfl hbd119 rfl rfl (fold_numbers_neutral.calls (a0_0:=a0_0) (a1:=a1.f4) (a2:=a1.f3) hy628) rfl ?_)
  rintro _ _ _ _ ⟨rfl,rfl,rfl⟩
  refine TV rfl rfl rfl (Val.assign rfl) ?_
  refine TL.nil ?_
  refine TQ.then_ ?_
  refine TC.cond_b rfl h (fun hc735 h=>?_) (fun hc735 h=>?_)
  ·
   refine TC.seq ?_
   refine TC.region ?_
   refine TV rfl rfl rfl (Val.loadsB 2 (cs:=[VI a1.f0,VI a1.f1,VI a1.f2,VI a1.f3,VI a1.f4,.slice A2 a1.f5.length c3]) agg37 fsz37 rfl rfl rfl rfl) ?_
   refine TV rfl rfl rfl (Val.fieldAddrB Try.underlying37 rfl fsz3 rfl rfl rfl) ?_
   refine TV rfl rfl rfl (Val.loadB 2 agg3 rfl rfl rfl) ?_
   obtain ⟨y736,hy737,h⟩:=bind_no h
   refine TL.cons (TL.callV (Lin:=[]) (args:=[.agg #[VI a1.f0,VI a1.f1,VI a1.f2,VI a1.f3,VI a1.f4,.slice A2 a1.f5.length c3],VI a1.f2]) rfl rfl rfl hbd120 rfl rfl (fold_move.calls (a0:=a1) (a1:=a1.f2) hr4 hl5 hy737) rfl ?_)
   rintro _ _ _ _ ⟨rfl,A738,c739,rfl,rfl⟩
   refine TL.cons (TL.store 2 (ds:=[VI y736.f0,VI y736.f1,VI y736.f2,VI y736.f3,VI y736.f4,.slice A738 y736.f5.length c739]) (cs':=[VI y736.f0,VI y736.f1,VI y736.f2,VI y736.f3,VI y736.f4,.slice A738 y736.f5.length c739]) (L':=(Row kI 3 (.slice A738 y736.f5.length c739) y736.f5::Mp Try.prog 3 3 b1 a0_0::Blk b7 [VI y736.f0,VI y736.f1,VI y736.f2,VI y736.f3,VI y736.f4,.slice A738 y736.f5.length c739] 37::Blk b6 [VI a1.f0,VI a1.f1,VI a1.f2,VI a1.f3,VI a1.f4,.slice A2 a1.f5.length c3] 37::L)) rfl fsz37 rfl rfl rfl rfl rfl (Nat.le_of_ble_eq_true rfl) rfl rfl ?_)
   refine TL.nil ?_
   refine TQ.then_ ?_
   refine TC.ret ?_
   refine TQ.inBR ?_
   refine TQ.thenR ?_
   refine TQ.share (fun G741 e742 hs743 _=>?_)
   have rd744:Rd G741 kI A738 y736.f5:=Rd.row hs743
   have le745:y736.f5.length ≤ c739:=Row.le hs743
   obtain rfl:=Option.some.inj h
   exact TQ.fin (.inl rfl) rfl Try.results94 (.cells 1 rfl rfl agg37 fsz37 .nil) rfl (FRel.mk (Ls:=[Mp Try.prog 3 3 b1 a0_0]) [0] 3 e742 rfl rfl rfl ⟨A738,c739,rfl,rfl,rd744,le745⟩)
  ·
   refine TC.seq ?_
   obtain ⟨j752,hj752,h⟩:=jn_no h
   refine TC.tail (fun a W=>∃ (x751:Bool),j752 x751=some r∧Fr 113 a [(0,.map (some b1)),(3,VP b6 0),(4,VP b7 0),(9,VI y12.1),(10,.bool y12.2),(11,.bool (decide (a1.f2=a1.f3))),(51,.bool x751)]∧Own G (Mp Try.prog 3 3 b1 a0_0::Blk b6 [VI a1.f0,VI a1.f1,VI a1.f2,VI a1.f3,VI a1.f4,.slice A2 a1.f5.length c3] 37::Blk b7 [VI 0,VI 0,VI 0,VI 0,VI 0,.slice none 0 0] 37::L) W) ?_ ?_
   ·
    rintro a W ⟨x751,h,hF,hO⟩
    rw [hj752] at h
    refine TQ.use ?_ hF hO
    clear hF hO
    refine TQ.then_ ?_
    refine TC.cond_b rfl h (fun hc841 h=>?_) (fun hc841 h=>?_)
    ·
     refine TC.seq ?_
     refine TC.region ?_
     refine TV rfl rfl rfl (Val.loadsB 1 (cs:=[VI a1.f0,VI a1.f1,VI a1.f2,VI a1.f3,VI a1.f4,.slice A2 a1.f5.length c3]) agg37 fsz37 rfl rfl rfl rfl) ?_
     refine TV rfl rfl rfl (Val.fieldAddrB Try.underlying37 rfl fsz3 rfl rfl rfl) ?_
     refine TV rfl rfl rfl (Val.loadB 1 agg3 rfl rfl rfl) ?_
     obtain ⟨y842,hy843,h⟩:=bind_no h
     refine TL.cons (TL.callV (Lin:=[]) (args:=[.agg #[VI a1.f0,VI a1.f1,VI a1.f2,VI a1.f3,VI a1.f4,.slice A2 a1.f5.length c3],VI a1.f3]) rfl rfl rfl hbd120 rfl rfl (fold_move.calls (a0:=a1) (a1:=a1.f3) hr4 hl5 hy843) rfl ?_)
     rintro _ _ _ _ ⟨rfl,A844,c845,rfl,rfl⟩
     refine TL.cons (TL.store 3 (ds:=[VI y842.f0,VI y842.f1,VI y842.f2,VI y842.f3,VI y842.f4,.slice A844 y842.f5.length c845]) (cs':=[VI y842.f0,VI y842.f1,VI y842.f2,VI y842.f3,VI y842.f4,.slice A844 y842.f5.length c845]) (L':=(Row kI 3 (.slice A844 y842.f5.length c845) y842.f5::Mp Try.prog 3 3 b1 a0_0::Blk b6 [VI a1.f0,VI a1.f1,VI a1.f2,VI a1.f3,VI a1.f4,.slice A2 a1.f5.length c3] 37::Blk b7 [VI y842.f0,VI y842.f1,VI y842.f2,VI y842.f3,VI y842.f4,.slice A844 y842.f5.length c845] 37::L)) rfl fsz37 rfl rfl rfl rfl rfl (Nat.le_of_ble_eq_true rfl) rfl rfl ?_)
     refine TL.nil ?_
     refine TQ.then_ ?_
     refine TC.ret ?_
     refine TQ.inBR ?_
     refine TQ.thenR ?_
     refine TQ.share (fun G847 e848 hs849 _=>?_)
     have rd850:Rd G847 kI A844 y842.f5:=Rd.row hs849
     have le851:y842.f5.length ≤ c845:=Row.le hs849
     obtain rfl:=Option.some.inj h
     exact TQ.fin (.inl rfl) rfl Try.results94 (.cells 2 rfl rfl agg37 fsz37 .nil) rfl (FRel.mk (Ls:=[Mp Try.prog 3 3 b1 a0_0]) [0] 3 e848 rfl rfl rfl ⟨A844,c845,rfl,rfl,rd850,le851⟩)
    ·
     refine TC.seq ?_
     obtain ⟨j873,hj873,h⟩:=jn_no h
     refine TC.tail (fun a W=>∃ (x872:Bool),j873 x872=some r∧Fr 113 a [(3,VP b6 0),(4,VP b7 0),(9,VI y12.1),(10,.bool y12.2),(11,.bool (decide (a1.f2=a1.f3))),(65,.bool x872)]∧Own G (Mp Try.prog 3 3 b1 a0_0::Blk b6 [VI a1.f0,VI a1.f1,VI a1.f2,VI a1.f3,VI a1.f4,.slice A2 a1.f5.length c3] 37::Blk b7 [VI 0,VI 0,VI 0,VI 0,VI 0,.slice none 0 0] 37::L) W) ?_ ?_
     ·
      rintro a W ⟨x872,h,hF,hO⟩
      rw [hj873] at h
      refine TQ.use ?_ hF hO
      clear hF hO
      refine TQ.then_ ?_
      refine TC.cond_b rfl h (fun hc914 h=>?_) (fun hc914 h=>?_)
      ·
       refine TC.seq ?_
       refine TC.region ?_
       refine TV rfl rfl rfl (Val.loadsB 1 (cs:=[VI a1.f0,VI a1.f1,VI a1.f2,VI a1.f3,VI a1.f4,.slice A2 a1.f5.length c3]) agg37 fsz37 rfl rfl rfl rfl) ?_
       obtain ⟨y915,hy916,h⟩:=bind_no h
       refine TL.cons (TL.callV (Lin:=[]) (args:=[.agg #[VI a1.f0,VI a1.f1,VI a1.f2,VI a1.f3,VI a1.f4,.slice A2 a1.f5.length c3],VI 0]) rfl rfl rfl hbd93 rfl rfl (fold_constant.calls (a0:=a1) (a1:=0) hr4 hl5 hy916) rfl ?_)
       rintro _ _ _ _ ⟨rfl,A917,c918,rfl,rfl⟩
       refine TL.cons (TL.store 3 (ds:=[VI y915.f0,VI y915.f1,VI y915.f2,VI y915.f3,VI y915.f4,.slice A917 y915.f5.length c918]) (cs':=[VI y915.f0,VI y915.f1,VI y915.f2,VI y915.f3,VI y915.f4,.slice A917 y915.f5.length c918]) (L':=(Row kI 3 (.slice A917 y915.f5.length c918) y915.f5::Mp Try.prog 3 3 b1 a0_0::Blk b6 [VI a1.f0,VI a1.f1,VI a1.f2,VI a1.f3,VI a1.f4,.slice A2 a1.f5.length c3] 37::Blk b7 [VI y915.f0,VI y915.f1,VI y915.f2,VI y915.f3,VI y915.f4,.slice A917 y915.f5.length c918] 37::L)) rfl fsz37 rfl rfl rfl rfl rfl (Nat.le_of_ble_eq_true rfl) rfl rfl ?_)
       refine TL.nil ?_
       refine TQ.then_ ?_
       refine TC.ret ?_
       refine TQ.inBR ?_
       refine TQ.thenR ?_
       refine TQ.share (fun G920 e921 hs922 _=>?_)
       have rd923:Rd G920 kI A917 y915.f5:=Rd.row hs922
       have le924:y915.f5.length ≤ c918:=Row.le hs922
       obtain rfl:=Option.some.inj h
       exact TQ.fin (.inl rfl) rfl Try.results94 (.cells 2 rfl rfl agg37 fsz37 .nil) rfl (FRel.mk (Ls:=[Mp Try.prog 3 3 b1 a0_0]) [0] 3 e921 rfl rfl rfl ⟨A917,c918,rfl,rfl,rd923,le924⟩)
      ·
       refine TC.seq ?_
       obtain ⟨j932,hj932,h⟩:=jn_no h
       refine TC.tail (fun a W=>∃ (x931:Bool),j932 x931=some r∧Fr 113 a [(3,VP b6 0),(4,VP b7 0),(9,VI y12.1),(10,.bool y12.2),(11,.bool (decide (a1.f2=a1.f3))),(88,.bool x931)]∧Own G (Mp Try.prog 3 3 b1 a0_0::Blk b6 [VI a1.f0,VI a1.f1,VI a1.f2,VI a1.f3,VI a1.f4,.slice A2 a1.f5.length c3] 37::Blk b7 [VI 0,VI 0,VI 0,VI 0,VI 0,.slice none 0 0] 37::L) W) ?_ ?_
       ·
        rintro a W ⟨x931,h,hF,hO⟩
        rw [hj932] at h
        refine TQ.use ?_ hF hO
        clear hF hO
        refine TQ.then_ ?_
        refine TC.cond_b rfl h (fun hc953 h=>?_) (fun hc953 h=>?_)
        ·
         refine TC.seq ?_
         refine TC.region ?_
         refine TV rfl rfl rfl (Val.loadsB 1 (cs:=[VI a1.f0,VI a1.f1,VI a1.f2,VI a1.f3,VI a1.f4,.slice A2 a1.f5.length c3]) agg37 fsz37 rfl rfl rfl rfl) ?_
         refine TV rfl rfl rfl (Val.fieldAddrB Try.underlying37 rfl fsz3 rfl rfl rfl) ?_
         refine TV rfl rfl rfl (Val.loadB 1 agg3 rfl rfl rfl) ?_
         obtain ⟨y954,hy955,h⟩:=bind_no h
         refine TL.cons (TL.callV (Lin:=[]) (args:=[.agg #[VI a1.f0,VI a1.f1,VI a1.f2,VI a1.f3,VI a1.f4,.slice A2 a1.f5.length c3],VI a1.f2]) rfl rfl rfl hbd120 rfl rfl (fold_move.calls (a0:=a1) (a1:=a1.f2) hr4 hl5 hy955) rfl ?_)
         rintro _ _ _ _ ⟨rfl,A956,c957,rfl,rfl⟩
         refine TL.cons (TL.store 3 (ds:=[VI y954.f0,VI y954.f1,VI y954.f2,VI y954.f3,VI y954.f4,.slice A956 y954.f5.length c957]) (cs':=[VI y954.f0,VI y954.f1,VI y954.f2,VI y954.f3,VI y954.f4,.slice A956 y954.f5.length c957]) (L':=(Row kI 3 (.slice A956 y954.f5.length c957) y954.f5::Mp Try.prog 3 3 b1 a0_0::Blk b6 [VI a1.f0,VI a1.f1,VI a1.f2,VI a1.f3,VI a1.f4,.slice A2 a1.f5.length c3] 37::Blk b7 [VI y954.f0,VI y954.f1,VI y954.f2,VI y954.f3,VI y954.f4,.slice A956 y954.f5.length c957] 37::L)) rfl fsz37 rfl rfl rfl rfl rfl (Nat.le_of_ble_eq_true rfl) rfl rfl ?_)
         refine TL.nil ?_
         refine TQ.then_ ?_
         refine TC.ret ?_
         refine TQ.inBR ?_
         refine TQ.thenR ?_
         refine TQ.share (fun G959 e960 hs961 _=>?_)
         have rd962:Rd G959 kI A956 y954.f5:=Rd.row hs961
         have le963:y954.f5.length ≤ c957:=Row.le hs961
         obtain rfl:=Option.some.inj h
         exact TQ.fin (.inl rfl) rfl Try.results94 (.cells 2 rfl rfl agg37 fsz37 .nil) rfl (FRel.mk (Ls:=[Mp Try.prog 3 3 b1 a0_0]) [0] 3 e960 rfl rfl rfl ⟨A956,c957,rfl,rfl,rd962,le963⟩)
        ·
         refine TC.seq ?_
         obtain ⟨j968,hj968,h⟩:=jn_no h
         refine TC.tail (fun a W=>∃ (x967:Bool),j968 x967=some r∧Fr 113 a [(3,VP b6 0),(4,VP b7 0),(9,VI y12.1),(104,.bool x967)]∧Own G (Mp Try.prog 3 3 b1 a0_0::Blk b6 [VI a1.f0,VI a1.f1,VI a1.f2,VI a1.f3,VI a1.f4,.slice A2 a1.f5.length c3] 37::Blk b7 [VI 0,VI 0,VI 0,VI 0,VI 0,.slice none 0 0] 37::L) W) ?_ ?_
         ·
          rintro a W ⟨x967,h,hF,hO⟩
          rw [hj968] at h
          refine TQ.use ?_ hF hO
          clear hF hO
          refine TQ.then_ ?_
          refine TC.cond_b rfl h (fun hc975 h=>?_) (fun hc975 h=>?_)
          ·
           refine TC.seq ?_
           refine TC.region ?_
           refine TV rfl rfl rfl (Val.loadsB 1 (cs:=[VI a1.f0,VI a1.f1,VI a1.f2,VI a1.f3,VI a1.f4,.slice A2 a1.f5.length c3]) agg37 fsz37 rfl rfl rfl rfl) ?_
           refine TV rfl rfl rfl (Val.move rfl) ?_
           obtain ⟨y976,hy977,h⟩:=bind_no h
           refine TL.cons (TL.callV (Lin:=[]) (args:=[.agg #[VI a1.f0,VI a1.f1,VI a1.f2,VI a1.f3,VI a1.f4,.slice A2 a1.f5.length c3],VI y12.1]) rfl rfl rfl hbd93 rfl rfl (fold_constant.calls (a0:=a1) (a1:=y12.1) hr4 hl5 hy977) rfl ?_)
           rintro _ _ _ _ ⟨rfl,A978,c979,rfl,rfl⟩
           refine TL.cons (TL.store 3 (ds:=[VI y976.f0,VI y976.f1,VI y976.f2,VI y976.f3,VI y976.f4,.slice A978 y976.f5.length c979]) (cs':=[VI y976.f0,VI y976.f1,VI y976.f2,VI y976.f3,VI y976.f4,.slice A978 y976.f5.length c979]) (L':=(Row kI 3 (.slice A978 y976.f5.length c979) y976.f5::Mp Try.prog 3 3 b1 a0_0::Blk b6 [VI a1.f0,VI a1.f1,VI a1.f2,VI a1.f3,VI a1.f4,.slice A2 a1.f5.length c3] 37::Blk b7 [VI y976.f0,VI y976.f1,VI y976.f2,VI y976.f3,VI y976.f4,.slice A978 y976.f5.length c979] 37::L)) rfl fsz37 rfl rfl rfl rfl rfl (Nat.le_of_ble_eq_true rfl) rfl rfl ?_)
           refine TL.nil ?_
           refine TQ.then_ ?_
           refine TC.ret ?_
           refine TQ.inBR ?_
           refine TQ.thenR ?_
           refine TQ.share (fun G981 e982 hs983 _=>?_)
           have rd984:Rd G981 kI A978 y976.f5:=Rd.row hs983
           have le985:y976.f5.length ≤ c979:=Row.le hs983
           obtain rfl:=Option.some.inj h
           exact TQ.fin (.inl rfl) rfl Try.results94 (.cells 2 rfl rfl agg37 fsz37 .nil) rfl (FRel.mk (Ls:=[Mp Try.prog 3 3 b1 a0_0]) [0] 3 e982 rfl rfl rfl ⟨A978,c979,rfl,rfl,rd984,le985⟩)
          ·
           refine TC.skip ?_
           refine TQ.inB ?_
           refine TQ.then_ ?_
           refine TC.seq ?_
           refine TC.region ?_
           refine TV rfl rfl rfl (Val.loadsB 1 (cs:=[VI a1.f0,VI a1.f1,VI a1.f2,VI a1.f3,VI a1.f4,.slice A2 a1.f5.length c3]) agg37 fsz37 rfl rfl rfl rfl) ?_
           refine TL.cons (TL.store 2 (ds:=[VI a1.f0,VI a1.f1,VI a1.f2,VI a1.f3,VI a1.f4,.slice A2 a1.f5.length c3]) (cs':=[VI a1.f0,VI a1.f1,VI a1.f2,VI a1.f3,VI a1.f4,.slice A2 a1.f5.length c3]) (L':=(Mp Try.prog 3 3 b1 a0_0::Blk b6 [VI a1.f0,VI a1.f1,VI a1.f2,VI a1.f3,VI a1.f4,.slice A2 a1.f5.length c3] 37::Blk b7 [VI a1.f0,VI a1.f1,VI a1.f2,VI a1.f3,VI a1.f4,.slice A2 a1.f5.length c3] 37::L)) rfl fsz37 rfl rfl rfl rfl rfl (Nat.le_of_ble_eq_true rfl) rfl rfl ?_)
           refine TL.nil ?_
           refine TQ.then_ ?_
           refine TC.ret ?_
           obtain rfl:=Option.some.inj h
           exact TQ.fin (.inl rfl) rfl Try.results94 (.cells 2 rfl rfl agg37 fsz37 .nil) rfl (FRel.mk (Ls:=[Mp Try.prog 3 3 b1 a0_0]) [0] 3 (Gd.le.refl _) rfl rfl rfl ⟨A2,c3,rfl,rfl,hr4,hl5⟩)
         ·
          refine TC.region ?_
          refine TV rfl rfl rfl (Val.move rfl) ?_
          refine TV rfl rfl rfl (Val.move rfl) ?_
          refine TK.split (p:=a1.f2=a1.f3) h (fun hg986 h=>?_) (fun hg986 h=>?_)
          ·
           have hk987:decide (a1.f2=a1.f3)=true:=decide_eq_true hg986
           refine TV (Wt.yes rfl rfl rfl hk987) rfl rfl (Val.move rfl) ?_
           refine TV rfl rfl rfl (Val.pickY rfl hk987 rfl) ?_
           refine TV rfl rfl rfl (Val.assign rfl) ?_
           refine TL.nil ?_
           exact fun a W hF hO=>⟨y12.2,h,hF.sub ⟨rfl,rfl,rfl,rfl,trivial⟩,hO.selT (Ls:=[Mp Try.prog 3 3 b1 a0_0,Blk b6 [VI a1.f0,VI a1.f1,VI a1.f2,VI a1.f3,VI a1.f4,.slice A2 a1.f5.length c3] 37,Blk b7 [VI 0,VI 0,VI 0,VI 0,VI 0,.slice none 0 0] 37]) [0,1,2] 3 rfl rfl rfl⟩
          ·
           have hk988:decide (a1.f2=a1.f3)=false:=decide_eq_false hg986
           refine TL.cons (TL.not (Wt.no rfl rfl rfl hk988) rfl ?_)
           refine TV rfl rfl rfl (Val.pickN rfl hk988 rfl) ?_
           refine TV rfl rfl rfl (Val.assign rfl) ?_
           refine TL.nil ?_
           exact fun a W hF hO=>⟨false,h,hF.sub ⟨rfl,rfl,rfl,rfl,trivial⟩,hO.selT (Ls:=[Mp Try.prog 3 3 b1 a0_0,Blk b6 [VI a1.f0,VI a1.f1,VI a1.f2,VI a1.f3,VI a1.f4,.slice A2 a1.f5.length c3] 37,Blk b7 [VI 0,VI 0,VI 0,VI 0,VI 0,.slice none 0 0] 37]) [0,1,2] 3 rfl rfl rfl⟩
       ·
        refine TC.region ?_
        refine TV rfl rfl rfl (Val.move rfl) ?_
        refine TV rfl rfl rfl (Val.move rfl) ?_
        refine TK.split (p:=a1.f2=a1.f3) h (fun hg989 h=>?_) (fun hg989 h=>?_)
        ·
         have hk990:decide (a1.f2=a1.f3)=true:=decide_eq_true hg989
         refine TV (Wt.yes rfl rfl rfl hk990) rfl rfl (Val.fieldAddrB Try.underlying37 rfl fsz3 rfl rfl rfl) ?_
         refine TV (Wt.yes rfl rfl rfl hk990) rfl rfl (Val.loadB 1 agg3 rfl rfl rfl) ?_
         refine TV (Wt.yes rfl rfl rfl hk990) rfl rfl (Val.cmp rfl rfl run_eql) ?_
         refine TV (Wt.yes rfl rfl rfl hk990) rfl rfl (Val.move rfl) ?_
         refine TK.split (p:=a1.f4=6) h (fun hg991 h=>?_) (fun hg991 h=>?_)
         ·
          have hk992:decide (a1.f4=6)=true:=decide_eq_true hg991
          refine TL.cons (TL.not (Wt.no rfl rfl rfl hk992) rfl ?_)
          refine TL.cons (TL.not (Wt.no rfl rfl rfl hk992) rfl ?_)
          refine TL.cons (TL.not (Wt.no rfl rfl rfl hk992) rfl ?_)
          refine TV (Wt.yes rfl rfl rfl hk990) rfl rfl (Val.pickY rfl hk992 rfl) ?_
          refine TV rfl rfl rfl (Val.pickY rfl hk990 rfl) ?_
          refine TV rfl rfl rfl (Val.assign rfl) ?_
          refine TL.nil ?_
          exact fun a W hF hO=>⟨true,h,hF.sub ⟨rfl,rfl,rfl,rfl,rfl,rfl,trivial⟩,hO.selT (Ls:=[Mp Try.prog 3 3 b1 a0_0,Blk b6 [VI a1.f0,VI a1.f1,VI a1.f2,VI a1.f3,VI a1.f4,.slice A2 a1.f5.length c3] 37,Blk b7 [VI 0,VI 0,VI 0,VI 0,VI 0,.slice none 0 0] 37]) [0,1,2] 3 rfl rfl rfl⟩
         ·
          have hk993:decide (a1.f4=6)=false:=decide_eq_false hg991
          refine TV (Wt.yes rfl rfl rfl hk993) rfl rfl (Val.fieldAddrB Try.underlying37 rfl fsz3 rfl rfl rfl) ?_
          refine TV (Wt.yes rfl rfl rfl hk993) rfl rfl (Val.loadB 1 agg3 rfl rfl rfl) ?_
          refine TV (Wt.yes rfl rfl rfl hk993) rfl rfl (Val.cmp rfl rfl run_eql) ?_
          refine TV (Wt.yes rfl rfl rfl hk990) rfl rfl (Val.pickN rfl hk993 rfl) ?_
          refine TV rfl rfl rfl (Val.pickY rfl hk990 rfl) ?_
          refine TV rfl rfl rfl (Val.assign rfl) ?_
          refine TL.nil ?_
          exact fun a W hF hO=>⟨decide (a1.f4=7),h,hF.sub ⟨rfl,rfl,rfl,rfl,rfl,rfl,trivial⟩,hO.selT (Ls:=[Mp Try.prog 3 3 b1 a0_0,Blk b6 [VI a1.f0,VI a1.f1,VI a1.f2,VI a1.f3,VI a1.f4,.slice A2 a1.f5.length c3] 37,Blk b7 [VI 0,VI 0,VI 0,VI 0,VI 0,.slice none 0 0] 37]) [0,1,2] 3 rfl rfl rfl⟩
        ·
         have hk994:decide (a1.f2=a1.f3)=false:=decide_eq_false hg989
         refine TL.cons (TL.not (Wt.no rfl rfl rfl hk994) rfl ?_)
         refine TL.cons (TL.not (Wt.no rfl rfl rfl hk994) rfl ?_)
         refine TL.cons (TL.not (Wt.no rfl rfl rfl hk994) rfl ?_)
         refine TL.cons (TL.not (Wt.no rfl rfl rfl hk994) rfl ?_)
         refine TL.cons (TL.not rfl rfl ?_)
         refine TL.cons (TL.not rfl rfl ?_)
         refine TL.cons (TL.not rfl rfl ?_)
         refine TL.cons (TL.not (Wt.no rfl rfl rfl hk994) rfl ?_)
         refine TV rfl rfl rfl (Val.pickN rfl hk994 rfl) ?_
         refine TV rfl rfl rfl (Val.assign rfl) ?_
         refine TL.nil ?_
         exact fun a W hF hO=>⟨false,h,hF.sub ⟨rfl,rfl,rfl,rfl,rfl,rfl,trivial⟩,hO.selT (Ls:=[Mp Try.prog 3 3 b1 a0_0,Blk b6 [VI a1.f0,VI a1.f1,VI a1.f2,VI a1.f3,VI a1.f4,.slice A2 a1.f5.length c3] 37,Blk b7 [VI 0,VI 0,VI 0,VI 0,VI 0,.slice none 0 0] 37]) [0,1,2] 3 rfl rfl rfl⟩
     ·
      refine TC.region ?_
      refine TV rfl rfl rfl (Val.fieldAddrB Try.underlying37 rfl fsz3 rfl rfl rfl) ?_
      refine TV rfl rfl rfl (Val.loadB 1 agg3 rfl rfl rfl) ?_
      refine TV rfl rfl rfl (Val.cmp rfl rfl run_eql) ?_
      refine TV rfl rfl rfl (Val.move rfl) ?_
      refine TK.split (p:=a1.f4=3) h (fun hg995 h=>?_) (fun hg995 h=>?_)
      ·
       have hk996:decide (a1.f4=3)=true:=decide_eq_true hg995
       refine TL.cons (TL.not (Wt.no rfl rfl rfl hk996) rfl ?_)
       refine TL.cons (TL.not (Wt.no rfl rfl rfl hk996) rfl ?_)
       refine TL.cons (TL.not (Wt.no rfl rfl rfl hk996) rfl ?_)
       refine TV rfl rfl rfl (Val.pickY rfl hk996 rfl) ?_
       refine TV rfl rfl rfl (Val.move rfl) ?_
       refine TV (Wt.yes rfl rfl rfl rfl) rfl rfl (Val.move rfl) ?_
       refine TV (Wt.yes rfl rfl rfl rfl) rfl rfl (Val.fieldAddrB Try.underlying37 rfl fsz3 rfl rfl rfl) ?_
       refine TV (Wt.yes rfl rfl rfl rfl) rfl rfl (Val.loadB 1 agg3 rfl rfl rfl) ?_
       obtain ⟨y997,hy998,h⟩:=bind_no h
       refine TL.cons (TL.callV (Lin:=[Mp Try.prog 3 3 b1 a0_0]) (args:=[.map (some b1),VI a1.f2]) (Wt.yes rfl rfl rfl rfl) rfl rfl hbd121 rfl rfl (fold_numbers_zero.calls (a0_0:=a0_0) (a1:=a1.f2) hy998) rfl ?_)
       rintro _ _ _ _ ⟨rfl,rfl,rfl⟩
       refine TV (Wt.yes rfl rfl rfl rfl) rfl rfl (Val.move rfl) ?_
       refine TK.split (p:=y997=true) h (fun hg999 h=>?_) (fun hg999 h=>?_)
       ·
        have hk1000:y997=true:=hg999
        refine TL.cons (TL.not (Wt.no rfl rfl rfl hk1000) rfl ?_)
        refine TL.cons (TL.not (Wt.no rfl rfl rfl hk1000) rfl ?_)
        refine TL.cons (TL.not (Wt.no rfl rfl rfl hk1000) rfl ?_)
        refine TL.cons (TL.not (Wt.no rfl rfl rfl hk1000) rfl ?_)
        refine TV (Wt.yes rfl rfl rfl rfl) rfl rfl (Val.pickY rfl hk1000 rfl) ?_
        refine TV rfl rfl rfl (Val.pickY rfl rfl rfl) ?_
        refine TV rfl rfl rfl (Val.assign rfl) ?_
        refine TL.nil ?_
        exact fun a W hF hO=>⟨true,h,hF.sub ⟨rfl,rfl,rfl,rfl,rfl,rfl,trivial⟩,hO.selT (Ls:=[Mp Try.prog 3 3 b1 a0_0,Blk b6 [VI a1.f0,VI a1.f1,VI a1.f2,VI a1.f3,VI a1.f4,.slice A2 a1.f5.length c3] 37,Blk b7 [VI 0,VI 0,VI 0,VI 0,VI 0,.slice none 0 0] 37]) [0,1,2] 3 rfl rfl rfl⟩
       ·
        have hk1001:y997=false:=(by simpa using hg999)
        refine TV (Wt.yes rfl rfl rfl hk1001) rfl rfl (Val.move rfl) ?_
        refine TV (Wt.yes rfl rfl rfl hk1001) rfl rfl (Val.fieldAddrB Try.underlying37 rfl fsz3 rfl rfl rfl) ?_
        refine TV (Wt.yes rfl rfl rfl hk1001) rfl rfl (Val.loadB 1 agg3 rfl rfl rfl) ?_
        obtain ⟨y1002,hy1003,h⟩:=bind_no h
        refine TL.cons (TL.callV (Lin:=[Mp Try.prog 3 3 b1 a0_0]) (args:=[.map (some b1),VI a1.f3]) (Wt.yes rfl rfl rfl hk1001) rfl rfl hbd121 rfl rfl (fold_numbers_zero.calls (a0_0:=a0_0) (a1:=a1.f3) hy1003) rfl ?_)
        rintro _ _ _ _ ⟨rfl,rfl,rfl⟩
        refine TV (Wt.yes rfl rfl rfl rfl) rfl rfl (Val.pickN rfl hk1001 rfl) ?_
        refine TV rfl rfl rfl (Val.pickY rfl rfl rfl) ?_
        refine TV rfl rfl rfl (Val.assign rfl) ?_
        refine TL.nil ?_
        exact fun a W hF hO=>⟨y1002,h,hF.sub ⟨rfl,rfl,rfl,rfl,rfl,rfl,trivial⟩,hO.selT (Ls:=[Mp Try.prog 3 3 b1 a0_0,Blk b6 [VI a1.f0,VI a1.f1,VI a1.f2,VI a1.f3,VI a1.f4,.slice A2 a1.f5.length c3] 37,Blk b7 [VI 0,VI 0,VI 0,VI 0,VI 0,.slice none 0 0] 37]) [0,1,2] 3 rfl rfl rfl⟩
      ·
       have hk1004:decide (a1.f4=3)=false:=decide_eq_false hg995
       refine TV (Wt.yes rfl rfl rfl hk1004) rfl rfl (Val.fieldAddrB Try.underlying37 rfl fsz3 rfl rfl rfl) ?_
       refine TV (Wt.yes rfl rfl rfl hk1004) rfl rfl (Val.loadB 1 agg3 rfl rfl rfl) ?_
       refine TV (Wt.yes rfl rfl rfl hk1004) rfl rfl (Val.cmp rfl rfl run_eql) ?_
       refine TV rfl rfl rfl (Val.pickN rfl hk1004 rfl) ?_
       refine TV rfl rfl rfl (Val.move rfl) ?_
       refine TK.split (p:=a1.f4=6) h (fun hg1005 h=>?_) (fun hg1005 h=>?_)
       ·
        have hk1006:decide (a1.f4=6)=true:=decide_eq_true hg1005
        refine TV (Wt.yes rfl rfl rfl hk1006) rfl rfl (Val.move rfl) ?_
        refine TV (Wt.yes rfl rfl rfl hk1006) rfl rfl (Val.fieldAddrB Try.underlying37 rfl fsz3 rfl rfl rfl) ?_
        refine TV (Wt.yes rfl rfl rfl hk1006) rfl rfl (Val.loadB 1 agg3 rfl rfl rfl) ?_
        obtain ⟨y1007,hy1008,h⟩:=bind_no h
        refine TL.cons (TL.callV (Lin:=[Mp Try.prog 3 3 b1 a0_0]) (args:=[.map (some b1),VI a1.f2]) (Wt.yes rfl rfl rfl hk1006) rfl rfl hbd121 rfl rfl (fold_numbers_zero.calls (a0_0:=a0_0) (a1:=a1.f2) hy1008) rfl ?_)
        rintro _ _ _ _ ⟨rfl,rfl,rfl⟩
        refine TV (Wt.yes rfl rfl rfl hk1006) rfl rfl (Val.move rfl) ?_
        refine TK.split (p:=y1007=true) h (fun hg1009 h=>?_) (fun hg1009 h=>?_)
        ·
         have hk1010:y1007=true:=hg1009
         refine TL.cons (TL.not (Wt.no rfl rfl rfl hk1010) rfl ?_)
         refine TL.cons (TL.not (Wt.no rfl rfl rfl hk1010) rfl ?_)
         refine TL.cons (TL.not (Wt.no rfl rfl rfl hk1010) rfl ?_)
         refine TL.cons (TL.not (Wt.no rfl rfl rfl hk1010) rfl ?_)
         refine TV (Wt.yes rfl rfl rfl hk1006) rfl rfl (Val.pickY rfl hk1010 rfl) ?_
         refine TV rfl rfl rfl (Val.pickY rfl hk1006 rfl) ?_
         refine TV rfl rfl rfl (Val.assign rfl) ?_
         refine TL.nil ?_
         exact fun a W hF hO=>⟨true,h,hF.sub ⟨rfl,rfl,rfl,rfl,rfl,rfl,trivial⟩,hO.selT (Ls:=[Mp Try.prog 3 3 b1 a0_0,Blk b6 [VI a1.f0,VI a1.f1,VI a1.f2,VI a1.f3,VI a1.f4,.slice A2 a1.f5.length c3] 37,Blk b7 [VI 0,VI 0,VI 0,VI 0,VI 0,.slice none 0 0] 37]) [0,1,2] 3 rfl rfl rfl⟩
        ·
         have hk1011:y1007=false:=(by simpa using hg1009)
         refine TV (Wt.yes rfl rfl rfl hk1011) rfl rfl (Val.move rfl) ?_
         refine TV (Wt.yes rfl rfl rfl hk1011) rfl rfl (Val.fieldAddrB Try.underlying37 rfl fsz3 rfl rfl rfl) ?_
         refine TV (Wt.yes rfl rfl rfl hk1011) rfl rfl (Val.loadB 1 agg3 rfl rfl rfl) ?_
         obtain ⟨y1012,hy1013,h⟩:=bind_no h
         refine TL.cons (TL.callV (Lin:=[Mp Try.prog 3 3 b1 a0_0]) (args:=[.map (some b1),VI a1.f3]) (Wt.yes rfl rfl rfl hk1011) rfl rfl hbd121 rfl rfl (fold_numbers_zero.calls (a0_0:=a0_0) (a1:=a1.f3) hy1013) rfl ?_)
         rintro _ _ _ _ ⟨rfl,rfl,rfl⟩
         refine TV (Wt.yes rfl rfl rfl hk1006) rfl rfl (Val.pickN rfl hk1011 rfl) ?_
         refine TV rfl rfl rfl (Val.pickY rfl hk1006 rfl) ?_
         refine TV rfl rfl rfl (Val.assign rfl) ?_
         refine TL.nil ?_
         exact fun a W hF hO=>⟨y1012,h,hF.sub ⟨rfl,rfl,rfl,rfl,rfl,rfl,trivial⟩,hO.selT (Ls:=[Mp Try.prog 3 3 b1 a0_0,Blk b6 [VI a1.f0,VI a1.f1,VI a1.f2,VI a1.f3,VI a1.f4,.slice A2 a1.f5.length c3] 37,Blk b7 [VI 0,VI 0,VI 0,VI 0,VI 0,.slice none 0 0] 37]) [0,1,2] 3 rfl rfl rfl⟩
       ·
        have hk1014:decide (a1.f4=6)=false:=decide_eq_false hg1005
        refine TL.cons (TL.not (Wt.no rfl rfl rfl hk1014) rfl ?_)
        refine TL.cons (TL.not (Wt.no rfl rfl rfl hk1014) rfl ?_)
        refine TL.cons (TL.not (Wt.no rfl rfl rfl hk1014) rfl ?_)
        refine TL.cons (TL.not (Wt.no rfl rfl rfl hk1014) rfl ?_)
        refine TL.cons (TL.not (Wt.no rfl rfl rfl hk1014) rfl ?_)
        refine TL.cons (TL.not rfl rfl ?_)
        refine TL.cons (TL.not rfl rfl ?_)
        refine TL.cons (TL.not rfl rfl ?_)
        refine TL.cons (TL.not rfl rfl ?_)
        refine TL.cons (TL.not (Wt.no rfl rfl rfl hk1014) rfl ?_)
        refine TV rfl rfl rfl (Val.pickN rfl hk1014 rfl) ?_
        refine TV rfl rfl rfl (Val.assign rfl) ?_
        refine TL.nil ?_
        exact fun a W hF hO=>⟨false,h,hF.sub ⟨rfl,rfl,rfl,rfl,rfl,rfl,trivial⟩,hO.selT (Ls:=[Mp Try.prog 3 3 b1 a0_0,Blk b6 [VI a1.f0,VI a1.f1,VI a1.f2,VI a1.f3,VI a1.f4,.slice A2 a1.f5.length c3] 37,Blk b7 [VI 0,VI 0,VI 0,VI 0,VI 0,.slice none 0 0] 37]) [0,1,2] 3 rfl rfl rfl⟩
   ·
    refine TC.region ?_
    refine TV rfl rfl rfl (Val.move rfl) ?_
    refine TV rfl rfl rfl (Val.move rfl) ?_
    refine TK.split (p:=y10.2=true) h (fun hg1015 h=>?_) (fun hg1015 h=>?_)
    ·
     have hk1016:y10.2=true:=hg1015
     refine TV (Wt.yes rfl rfl rfl hk1016) rfl rfl (Val.move rfl) ?_
     refine TV (Wt.yes rfl rfl rfl hk1016) rfl rfl (Val.fieldAddrB Try.underlying37 rfl fsz3 rfl rfl rfl) ?_
     refine TV (Wt.yes rfl rfl rfl hk1016) rfl rfl (Val.loadB 2 agg3 rfl rfl rfl) ?_
     refine TV (Wt.yes rfl rfl rfl hk1016) rfl rfl (Val.fieldAddrB Try.underlying37 rfl fsz3 rfl rfl rfl) ?_
     refine TV (Wt.yes rfl rfl rfl hk1016) rfl rfl (Val.loadB 2 agg3 rfl rfl rfl) ?_
     obtain ⟨y1017,hy1018,h⟩:=bind_no h
     refine TL.cons (TL.callV (Lin:=[Mp Try.prog 3 3 b1 a0_0]) (args:=[.map (some b1),VI a1.f4,VI a1.f2]) (Wt.yes rfl rfl rfl hk1016) rfl rfl hbd119 rfl rfl (fold_numbers_neutral.calls (a0_0:=a0_0) (a1:=a1.f4) (a2:=a1.f2) hy1018) rfl ?_)
     rintro _ _ _ _ ⟨rfl,rfl,rfl⟩
     refine TV rfl rfl rfl (Val.pickY rfl hk1016 rfl) ?_
     refine TV rfl rfl rfl (Val.assign rfl) ?_
     refine TL.nil ?_
     exact fun a W hF hO=>⟨y1017,h,hF.sub ⟨rfl,rfl,rfl,rfl,rfl,rfl,rfl,trivial⟩,hO.selT (Ls:=[Mp Try.prog 3 3 b1 a0_0,Blk b6 [VI a1.f0,VI a1.f1,VI a1.f2,VI a1.f3,VI a1.f4,.slice A2 a1.f5.length c3] 37,Blk b7 [VI 0,VI 0,VI 0,VI 0,VI 0,.slice none 0 0] 37]) [0,2,1] 3 rfl rfl rfl⟩
    ·
     have hk1019:y10.2=false:=(by simpa using hg1015)
     refine TL.cons (TL.not (Wt.no rfl rfl rfl hk1019) rfl ?_)
     refine TL.cons (TL.not (Wt.no rfl rfl rfl hk1019) rfl ?_)
     refine TL.cons (TL.not (Wt.no rfl rfl rfl hk1019) rfl ?_)
     refine TL.cons (TL.not (Wt.no rfl rfl rfl hk1019) rfl ?_)
     refine TL.cons (TL.not (Wt.no rfl rfl rfl hk1019) rfl ?_)
     refine TL.cons (TL.not (Wt.no rfl rfl rfl hk1019) rfl ?_)
     refine TV rfl rfl rfl (Val.pickN rfl hk1019 rfl) ?_
     refine TV rfl rfl rfl (Val.assign rfl) ?_
     refine TL.nil ?_
     exact fun a W hF hO=>⟨false,h,hF.sub ⟨rfl,rfl,rfl,rfl,rfl,rfl,rfl,trivial⟩,hO.selT (Ls:=[Mp Try.prog 3 3 b1 a0_0,Blk b6 [VI a1.f0,VI a1.f1,VI a1.f2,VI a1.f3,VI a1.f4,.slice A2 a1.f5.length c3] 37,Blk b7 [VI 0,VI 0,VI 0,VI 0,VI 0,.slice none 0 0] 37]) [0,2,1] 3 rfl rfl rfl⟩
def fold_numbers_op.f (a0_0:MpS) (a1:S37):Option S37:=(if wfi a1.f2 then jn (γ:=S37) (fun (x96:Bool)=>jn (γ:=S37) (fun (x127:Int) (x128:Int) (x129:Int) (x130:Int) (x131:Int) (l132:(List Int))=>(slices_Clone_int_int.f l132).bind fun (y138:(List Int))=>some (⟨x127,x128,x129,x130,x131,y138⟩:S37)) (fun (j137:(Int → Int → Int → Int → Int → (List Int) → Option S37))=>(if x96=true then (fold_constant.f a1 (mget a0_0 a1.f2)).bind fun (y144:S37)=>some y144 else jn (γ:=S37) (fun (x154:Bool)=>(if x154=true then (fold_numbers_reckon.f a0_0 a1).bind fun (y166:S37)=>j137 y166.f0 y166.f1 y166.f2 y166.f3 y166.f4 y166.f5 else j137 a1.f0 a1.f1 a1.f2 a1.f3 a1.f4 a1.f5)) (fun (j155:(Bool → Option S37))=>(if a1.f0=2 then (word_Known.f a1.f4).bind fun (y176:Bool)=>j155 y176 else j155 false))))) (fun (j97:(Bool → Option S37))=>(if a1.f0=3 then j97 (mhas a0_0 a1.f2) else j97 false)) else none)
def fold_numbers_op.post (G:Gd) (b1:Nat) (A2:Option Addr) (c3:Nat) (a0_0:MpS) (a1:S37) (r:S37) (v:Value) (G':Gd) (Lr:List Ch):Prop:=∃ (A_1:Option Addr) (c_1:Nat),v=.agg #[VI r.f0,VI r.f1,VI r.f2,VI r.f3,VI r.f4,.slice A_1 r.f5.length c_1]∧Lr=[Mp Try.prog 3 3 b1 a0_0,Row kI 3 (.slice A_1 r.f5.length c_1) r.f5]
theorem fold_numbers_op.calls {G:Gd} {r:S37} {a0_0:MpS} {a1:S37} {b1:Nat} {A2:Option Addr} {c3:Nat} (hr4:Rd G kI A2 a1.f5) (hl5:a1.f5.length ≤ c3) (h:fold_numbers_op.f a0_0 a1=some r):Fn Try.prog 68 G [Mp Try.prog 3 3 b1 a0_0] [.map (some b1),.agg #[VI a1.f0,VI a1.f1,VI a1.f2,VI a1.f3,VI a1.f4,.slice A2 a1.f5.length c3]] (fold_numbers_op.post G b1 A2 c3 a0_0 a1 r):=by
 refine Fn.intro (e:=[(0,.map (some b1)),(1,.agg #[VI a1.f0,VI a1.f1,VI a1.f2,VI a1.f3,VI a1.f4,.slice A2 a1.f5.length c3])]) 41 Try.func68 rfl Try.ntmps68 rfl rfl (Nat.le_of_ble_eq_true rfl) (fun L=>?_)
 unfold fold_numbers_op.f at h
 refine TC.seq ?_
 refine TC.region ?_
 refine TL.cons (TL.box (cs:=[VI a1.f0,VI a1.f1,VI a1.f2,VI a1.f3,VI a1.f4,.slice A2 a1.f5.length c3]) rfl rfl rfl rfl (fun b6=>?_))
 refine TL.cons (TL.alloc (cs:=[VI 0,VI 0,VI 0,VI 0,VI 0,.slice none 0 0]) rfl rfl zr37 rfl (fun b7=>?_))
 refine TL.nil ?_
 refine TQ.then_ ?_
 refine TC.seq ?_
 refine TC.region ?_
 refine TV rfl rfl rfl (Val.move rfl) ?_
 refine TV rfl rfl rfl (Val.fieldAddrB Try.underlying37 rfl fsz3 rfl rfl rfl) ?_
 refine TV rfl rfl rfl (Val.loadB 1 agg3 rfl rfl rfl) ?_
 obtain ⟨hz8,h⟩:=ite_no h
 refine TV rfl rfl rfl (Val.lookupOk 2 Try.underlying110 Try.underlying3 Try.underlying3 zr3 rfl rfl rfl hz8) ?_
 refine TV rfl rfl rfl (Val.move rfl) ?_
 refine TV rfl rfl rfl (Val.extract rfl rfl) ?_
 refine TV rfl rfl rfl (Val.extract rfl rfl) ?_
 refine TV rfl rfl rfl (Val.assign rfl) ?_
 refine TV rfl rfl rfl (Val.assign rfl) ?_
 refine TL.nil ?_
 refine TQ.then_ ?_
 refine TC.seq ?_
 refine TC.block ?_
 refine TC.seq ?_
 obtain ⟨j97,hj97,h⟩:=jn_no h
 refine TC.tail (fun a W=>∃ (x96:Bool),j97 x96=some r∧Fr 41 a [(0,.map (some b1)),(3,VP b6 0),(4,VP b7 0),(5,VI (mget a0_0 a1.f2)),(14,.bool x96)]∧Own G (Mp Try.prog 3 3 b1 a0_0::Blk b6 [VI a1.f0,VI a1.f1,VI a1.f2,VI a1.f3,VI a1.f4,.slice A2 a1.f5.length c3] 37::Blk b7 [VI 0,VI 0,VI 0,VI 0,VI 0,.slice none 0 0] 37::L) W) ?_ ?_
 ·
  rintro a W ⟨x96,h,hF,hO⟩
  rw [hj97] at h
  refine TQ.use ?_ hF hO
  clear hF hO
  refine TQ.then_ ?_
  obtain ⟨j137,hj137,h⟩:=jn_no h
  refine TC.tail (fun a W=>∃ (x127:Int) (x128:Int) (x129:Int) (x130:Int) (x131:Int) (l132:(List Int)) (G125:Gd) (A133:Option Addr) (c134:Nat),j137 x127 x128 x129 x130 x131 l132=some r∧G.le G125∧Rd G125 kI A133 l132∧l132.length ≤ c134∧Fr 41 a [(3,VP b6 0),(4,VP b7 0)]∧Own G125 (Mp Try.prog 3 3 b1 a0_0::Blk b6 [VI x127,VI x128,VI x129,VI x130,VI x131,.slice A133 l132.length c134] 37::Blk b7 [VI 0,VI 0,VI 0,VI 0,VI 0,.slice none 0 0] 37::L) W) ?_ ?_
  ·
   rintro a W ⟨x127,x128,x129,x130,x131,l132,G125,A133,c134,h,e126,hr135,hl136,hF,hO⟩
   rw [hj137] at h
   refine TQ.use ?_ hF hO
   clear hF hO
   refine TQ.inB ?_
   refine TQ.then_ ?_
   refine TC.seq ?_
   refine TC.region ?_
   refine TV rfl rfl rfl (Val.fieldAddrB Try.underlying37 rfl fsz23 rfl rfl rfl) ?_
   refine TV rfl rfl rfl (Val.loadB 1 agg23 rfl rfl rfl) ?_
   obtain ⟨y138,hy139,h⟩:=bind_no h
   refine TL.cons (TL.callV (Lin:=[]) (args:=[.slice A133 l132.length c134]) rfl rfl rfl hbd65 rfl rfl (slices_Clone_int_int.calls (a0:=l132) hr135 hl136 hy139) rfl ?_)
   rintro _ _ _ _ ⟨rfl,A140,c141,rfl,rfl⟩
   refine TV rfl rfl rfl (Val.fieldAddrB Try.underlying37 rfl fsz23 rfl rfl rfl) ?_
   refine TL.cons (TL.store 2 (ds:=[.slice A140 y138.length c141]) (cs':=[VI x127,VI x128,VI x129,VI x130,VI x131,.slice A140 y138.length c141]) (L':=(Row kI 3 (.slice A140 y138.length c141) y138::Mp Try.prog 3 3 b1 a0_0::Blk b6 [VI x127,VI x128,VI x129,VI x130,VI x131,.slice A140 y138.length c141] 37::Blk b7 [VI 0,VI 0,VI 0,VI 0,VI 0,.slice none 0 0] 37::L)) rfl fsz23 rfl rfl rfl rfl rfl (Nat.le_of_ble_eq_true rfl) rfl rfl ?_)
   refine TL.nil ?_
   refine TQ.then_ ?_
   refine TC.seq ?_
   refine TC.region ?_
   refine TV rfl rfl rfl (Val.loadsB 2 (cs:=[VI x127,VI x128,VI x129,VI x130,VI x131,.slice A140 y138.length c141]) agg37 fsz37 rfl rfl rfl rfl) ?_
   refine TL.cons (TL.store 3 (ds:=[VI x127,VI x128,VI x129,VI x130,VI x131,.slice A140 y138.length c141]) (cs':=[VI x127,VI x128,VI x129,VI x130,VI x131,.slice A140 y138.length c141]) (L':=(Row kI 3 (.slice A140 y138.length c141) y138::Mp Try.prog 3 3 b1 a0_0::Blk b6 [VI x127,VI x128,VI x129,VI x130,VI x131,.slice A140 y138.length c141] 37::Blk b7 [VI x127,VI x128,VI x129,VI x130,VI x131,.slice A140 y138.length c141] 37::L)) rfl fsz37 rfl rfl rfl rfl rfl (Nat.le_of_ble_eq_true rfl) rfl rfl ?_)
   refine TL.nil ?_
   refine TQ.then_ ?_
   refine TC.ret ?_
   obtain rfl:=Option.some.inj h
   exact TQ.fin (.inl rfl) rfl Try.results68 (.cells 3 rfl rfl agg37 fsz37 .nil) rfl (FRel.mk (Ls:=[Mp Try.prog 3 3 b1 a0_0,Row kI 3 (.slice A140 y138.length c141) y138]) [1,0] 4 e126 rfl rfl rfl ⟨A140,c141,rfl,rfl⟩)
  ·
   refine TC.cond_b rfl h (fun hc143 h=>?_) (fun hc143 h=>?_)
   ·
    refine TC.seq ?_
    refine TC.region ?_
    refine TV rfl rfl rfl (Val.loadsB 1 (cs:=[VI a1.f0,VI a1.f1,VI a1.f2,VI a1.f3,VI a1.f4,.slice A2 a1.f5.length c3]) agg37 fsz37 rfl rfl rfl rfl) ?_
    refine TV rfl rfl rfl (Val.move rfl) ?_
    obtain ⟨y144,hy145,h⟩:=bind_no h
    refine TL.cons (TL.callV (Lin:=[]) (args:=[.agg #[VI a1.f0,VI a1.f1,VI a1.f2,VI a1.f3,VI a1.f4,.slice A2 a1.f5.length c3],VI (mget a0_0 a1.f2)]) rfl rfl rfl hbd93 rfl rfl (fold_constant.calls (a0:=a1) (a1:=(mget a0_0 a1.f2)) hr4 hl5 hy145) rfl ?_)
    rintro _ _ _ _ ⟨rfl,A146,c147,rfl,rfl⟩
    refine TL.cons (TL.store 3 (ds:=[VI y144.f0,VI y144.f1,VI y144.f2,VI y144.f3,VI y144.f4,.slice A146 y144.f5.length c147]) (cs':=[VI y144.f0,VI y144.f1,VI y144.f2,VI y144.f3,VI y144.f4,.slice A146 y144.f5.length c147]) (L':=(Row kI 3 (.slice A146 y144.f5.length c147) y144.f5::Mp Try.prog 3 3 b1 a0_0::Blk b6 [VI a1.f0,VI a1.f1,VI a1.f2,VI a1.f3,VI a1.f4,.slice A2 a1.f5.length c3] 37::Blk b7 [VI y144.f0,VI y144.f1,VI y144.f2,VI y144.f3,VI y144.f4,.slice A146 y144.f5.length c147] 37::L)) rfl fsz37 rfl rfl rfl rfl rfl (Nat.le_of_ble_eq_true rfl) rfl rfl ?_)
    refine TL.nil ?_
    refine TQ.then_ ?_
    refine TC.ret ?_
    refine TQ.thenR ?_
    refine TQ.inBR ?_
    refine TQ.thenR ?_
    obtain rfl:=Option.some.inj h
    exact TQ.fin (.inl rfl) rfl Try.results68 (.cells 3 rfl rfl agg37 fsz37 .nil) rfl (FRel.mk (Ls:=[Mp Try.prog 3 3 b1 a0_0,Row kI 3 (.slice A146 y144.f5.length c147) y144.f5]) [1,0] 4 (Gd.le.refl _) rfl rfl rfl ⟨A146,c147,rfl,rfl⟩)
   ·
    refine TC.seq ?_
    obtain ⟨j155,hj155,h⟩:=jn_no h
    refine TC.tail (fun a W=>∃ (x154:Bool),j155 x154=some r∧Fr 41 a [(0,.map (some b1)),(3,VP b6 0),(4,VP b7 0),(24,.bool x154)]∧Own G (Mp Try.prog 3 3 b1 a0_0::Blk b6 [VI a1.f0,VI a1.f1,VI a1.f2,VI a1.f3,VI a1.f4,.slice A2 a1.f5.length c3] 37::Blk b7 [VI 0,VI 0,VI 0,VI 0,VI 0,.slice none 0 0] 37::L) W) ?_ ?_
    ·
     rintro a W ⟨x154,h,hF,hO⟩
     rw [hj155] at h
     refine TQ.use ?_ hF hO
     clear hF hO
     refine TQ.then_ ?_
     refine TC.cond_b rfl h (fun hc165 h=>?_) (fun hc165 h=>?_)
     ·
      refine TC.region ?_
      refine TV rfl rfl rfl (Val.move rfl) ?_
      refine TV rfl rfl rfl (Val.loadsB 1 (cs:=[VI a1.f0,VI a1.f1,VI a1.f2,VI a1.f3,VI a1.f4,.slice A2 a1.f5.length c3]) agg37 fsz37 rfl rfl rfl rfl) ?_
      obtain ⟨y166,hy167,h⟩:=bind_no h
      refine TL.cons (TL.callV (Lin:=[Mp Try.prog 3 3 b1 a0_0]) (args:=[.map (some b1),.agg #[VI a1.f0,VI a1.f1,VI a1.f2,VI a1.f3,VI a1.f4,.slice A2 a1.f5.length c3]]) rfl rfl rfl hbd94 rfl rfl (fold_numbers_reckon.calls (a0_0:=a0_0) (a1:=a1) hr4 hl5 hy167) rfl ?_)
      rintro _ G168 _ e169 ⟨A170,c171,rfl,rfl,hr172,hl173⟩
      refine TL.cons (TL.store 1 (ds:=[VI y166.f0,VI y166.f1,VI y166.f2,VI y166.f3,VI y166.f4,.slice A170 y166.f5.length c171]) (cs':=[VI y166.f0,VI y166.f1,VI y166.f2,VI y166.f3,VI y166.f4,.slice A170 y166.f5.length c171]) (L':=(Mp Try.prog 3 3 b1 a0_0::Blk b6 [VI y166.f0,VI y166.f1,VI y166.f2,VI y166.f3,VI y166.f4,.slice A170 y166.f5.length c171] 37::Blk b7 [VI 0,VI 0,VI 0,VI 0,VI 0,.slice none 0 0] 37::L)) rfl fsz37 rfl rfl rfl rfl rfl (Nat.le_of_ble_eq_true rfl) rfl rfl ?_)
      refine TL.nil ?_
      exact fun a W hF hO=>⟨y166.f0,y166.f1,y166.f2,y166.f3,y166.f4,y166.f5,G168,A170,c171,h,e169,hr172,hl173,hF.sub ⟨rfl,rfl,trivial⟩,hO.selT (Ls:=[Mp Try.prog 3 3 b1 a0_0,Blk b6 [VI y166.f0,VI y166.f1,VI y166.f2,VI y166.f3,VI y166.f4,.slice A170 y166.f5.length c171] 37,Blk b7 [VI 0,VI 0,VI 0,VI 0,VI 0,.slice none 0 0] 37]) [0,1,2] 3 rfl rfl rfl⟩
     ·
      refine TC.skip ?_
      exact fun a W hF hO=>⟨a1.f0,a1.f1,a1.f2,a1.f3,a1.f4,a1.f5,G,A2,c3,h,(Gd.le.refl _),hr4,hl5,hF.sub ⟨rfl,rfl,trivial⟩,hO.selT (Ls:=[Mp Try.prog 3 3 b1 a0_0,Blk b6 [VI a1.f0,VI a1.f1,VI a1.f2,VI a1.f3,VI a1.f4,.slice A2 a1.f5.length c3] 37,Blk b7 [VI 0,VI 0,VI 0,VI 0,VI 0,.slice none 0 0] 37]) [0,1,2] 3 rfl rfl rfl⟩
    ·
     refine TC.region ?_
     refine TV rfl rfl rfl (Val.fieldAddrB Try.underlying37 rfl fsz3 rfl rfl rfl) ?_
     refine TV rfl rfl rfl (Val.loadB 1 agg3 rfl rfl rfl) ?_
     refine TV rfl rfl rfl (Val.cmp rfl rfl run_eql) ?_
     refine TV rfl rfl rfl (Val.move rfl) ?_
     refine TK.split (p:=a1.f0=2) h (fun hg174 h=>?_) (fun hg174 h=>?_)
     ·
      have hk175:decide (a1.f0=2)=true:=decide_eq_true hg174
      refine TV (Wt.yes rfl rfl rfl hk175) rfl rfl (Val.fieldAddrB Try.underlying37 rfl fsz3 rfl rfl rfl) ?_
      refine TV (Wt.yes rfl rfl rfl hk175) rfl rfl (Val.loadB 1 agg3 rfl rfl rfl) ?_
      obtain ⟨y176,hy177,h⟩:=bind_no h
      refine TL.cons (TL.callV (Lin:=[]) (args:=[VI a1.f4]) (Wt.yes rfl rfl rfl hk175) rfl rfl hbd18 rfl rfl (word_Known.calls (a0:=a1.f4) hy177) rfl ?_)
      rintro _ _ _ _ ⟨rfl,rfl,rfl⟩
      refine TV rfl rfl rfl (Val.pickY rfl hk175 rfl) ?_
      refine TV rfl rfl rfl (Val.assign rfl) ?_
      refine TL.nil ?_
      exact fun a W hF hO=>⟨y176,h,hF.sub ⟨rfl,rfl,rfl,rfl,trivial⟩,hO.selT (Ls:=[Mp Try.prog 3 3 b1 a0_0,Blk b6 [VI a1.f0,VI a1.f1,VI a1.f2,VI a1.f3,VI a1.f4,.slice A2 a1.f5.length c3] 37,Blk b7 [VI 0,VI 0,VI 0,VI 0,VI 0,.slice none 0 0] 37]) [0,1,2] 3 rfl rfl rfl⟩
     ·
      have hk178:decide (a1.f0=2)=false:=decide_eq_false hg174
      refine TL.cons (TL.not (Wt.no rfl rfl rfl hk178) rfl ?_)
      refine TL.cons (TL.not (Wt.no rfl rfl rfl hk178) rfl ?_)
      refine TL.cons (TL.not (Wt.no rfl rfl rfl hk178) rfl ?_)
      refine TV rfl rfl rfl (Val.pickN rfl hk178 rfl) ?_
      refine TV rfl rfl rfl (Val.assign rfl) ?_
      refine TL.nil ?_
      exact fun a W hF hO=>⟨false,h,hF.sub ⟨rfl,rfl,rfl,rfl,trivial⟩,hO.selT (Ls:=[Mp Try.prog 3 3 b1 a0_0,Blk b6 [VI a1.f0,VI a1.f1,VI a1.f2,VI a1.f3,VI a1.f4,.slice A2 a1.f5.length c3] 37,Blk b7 [VI 0,VI 0,VI 0,VI 0,VI 0,.slice none 0 0] 37]) [0,1,2] 3 rfl rfl rfl⟩
 ·
  refine TC.region ?_
  refine TV rfl rfl rfl (Val.fieldAddrB Try.underlying37 rfl fsz3 rfl rfl rfl) ?_
  refine TV rfl rfl rfl (Val.loadB 1 agg3 rfl rfl rfl) ?_
  refine TV rfl rfl rfl (Val.cmp rfl rfl run_eql) ?_
  refine TV rfl rfl rfl (Val.move rfl) ?_
  refine TK.split (p:=a1.f0=3) h (fun hg179 h=>?_) (fun hg179 h=>?_)
  ·
   have hk180:decide (a1.f0=3)=true:=decide_eq_true hg179
   refine TV (Wt.yes rfl rfl rfl hk180) rfl rfl (Val.move rfl) ?_
   refine TV rfl rfl rfl (Val.pickY rfl hk180 rfl) ?_
   refine TV rfl rfl rfl (Val.assign rfl) ?_
   refine TL.nil ?_
   exact fun a W hF hO=>⟨(mhas a0_0 a1.f2),h,hF.sub ⟨rfl,rfl,rfl,rfl,rfl,trivial⟩,hO.selT (Ls:=[Mp Try.prog 3 3 b1 a0_0,Blk b6 [VI a1.f0,VI a1.f1,VI a1.f2,VI a1.f3,VI a1.f4,.slice A2 a1.f5.length c3] 37,Blk b7 [VI 0,VI 0,VI 0,VI 0,VI 0,.slice none 0 0] 37]) [2,1,0] 3 rfl rfl rfl⟩
  ·
   have hk181:decide (a1.f0=3)=false:=decide_eq_false hg179
   refine TL.cons (TL.not (Wt.no rfl rfl rfl hk181) rfl ?_)
   refine TV rfl rfl rfl (Val.pickN rfl hk181 rfl) ?_
   refine TV rfl rfl rfl (Val.assign rfl) ?_
   refine TL.nil ?_
   exact fun a W hF hO=>⟨false,h,hF.sub ⟨rfl,rfl,rfl,rfl,rfl,trivial⟩,hO.selT (Ls:=[Mp Try.prog 3 3 b1 a0_0,Blk b6 [VI a1.f0,VI a1.f1,VI a1.f2,VI a1.f3,VI a1.f4,.slice A2 a1.f5.length c3] 37,Blk b7 [VI 0,VI 0,VI 0,VI 0,VI 0,.slice none 0 0] 37]) [2,1,0] 3 rfl rfl rfl⟩
def fold_facts_held.f (a0_0_0:MpS) (a0_1_0:MpS) (a1:Int):Option Int:=(if wfi a1 then (if (mhas a0_1_0 a1)=true then some (mget a0_1_0 a1) else some a1) else none)
def fold_facts_held.post (G:Gd) (b1:Nat) (b2:Nat) (b3:Nat) (a0_0_0:MpS) (a0_1_0:MpS) (a1:Int) (r:Int) (v:Value) (G':Gd) (Lr:List Ch):Prop:=G=G'∧v=VI r∧Lr=[Blk b1 [.map (some b2),.map (some b3)] 112,Mp Try.prog 3 3 b2 a0_0_0,Mp Try.prog 3 3 b3 a0_1_0]
theorem fold_facts_held.calls {G:Gd} {r:Int} {a0_0_0:MpS} {a0_1_0:MpS} {a1:Int} {b1:Nat} {b2:Nat} {b3:Nat} (h:fold_facts_held.f a0_0_0 a0_1_0 a1=some r):Fn Try.prog 95 G [Blk b1 [.map (some b2),.map (some b3)] 112,Mp Try.prog 3 3 b2 a0_0_0,Mp Try.prog 3 3 b3 a0_1_0] [VP b1 0,VI a1] (fold_facts_held.post G b1 b2 b3 a0_0_0 a0_1_0 a1 r):=by
 refine Fn.intro (e:=[(0,VP b1 0),(1,VI a1)]) 19 Try.func95 rfl Try.ntmps95 rfl rfl (Nat.le_of_ble_eq_true rfl) (fun L=>?_)
 unfold fold_facts_held.f at h
 refine TC.seq ?_
 refine TC.region ?_
 refine TV rfl rfl rfl (Val.assign rfl) ?_
 refine TL.nil ?_
 refine TQ.then_ ?_
 refine TC.seq ?_
 refine TC.seq ?_
 refine TC.region ?_
 refine TV rfl rfl rfl (Val.move rfl) ?_
 refine TV rfl rfl rfl (Val.nilCheck rfl) ?_
 refine TV rfl rfl rfl (Val.fieldAddrB Try.underlying112 rfl fsz95 rfl rfl rfl) ?_
 refine TV rfl rfl rfl (Val.loadB 0 agg95 rfl rfl rfl) ?_
 refine TV rfl rfl rfl (Val.move rfl) ?_
 obtain ⟨hz4,h⟩:=ite_no h
 refine TV rfl rfl rfl (Val.lookupOk 2 Try.underlying95 Try.underlying3 Try.underlying3 zr3 rfl rfl rfl hz4) ?_
 refine TV rfl rfl rfl (Val.move rfl) ?_
 refine TV rfl rfl rfl (Val.extract rfl rfl) ?_
 refine TV rfl rfl rfl (Val.extract rfl rfl) ?_
 refine TV rfl rfl rfl (Val.assign rfl) ?_
 refine TV rfl rfl rfl (Val.assign rfl) ?_
 refine TL.nil ?_
 refine TQ.then_ ?_
 refine TC.seq ?_
 refine TC.region ?_
 refine TV rfl rfl rfl (Val.move rfl) ?_
 refine TL.nil ?_
 refine TQ.then_ ?_
 refine TC.cond_b rfl h (fun hc6 h=>?_) (fun hc6 h=>?_)
 ·
  refine TC.seq ?_
  refine TC.region ?_
  refine TV rfl rfl rfl (Val.move rfl) ?_
  refine TV rfl rfl rfl (Val.assign rfl) ?_
  refine TL.nil ?_
  refine TQ.then_ ?_
  refine TC.ret ?_
  refine TQ.thenR ?_
  obtain rfl:=Option.some.inj h
  exact TQ.fin (.inl rfl) rfl Try.results95 (.tmp rfl .nil) rfl (FRel.mk (Ls:=[Blk b1 [.map (some b2),.map (some b3)] 112,Mp Try.prog 3 3 b2 a0_0_0,Mp Try.prog 3 3 b3 a0_1_0]) [0,1,2] 3 (Gd.le.refl _) rfl rfl rfl ⟨rfl,rfl,rfl⟩)
 ·
  refine TC.skip ?_
  refine TQ.then_ ?_
  refine TC.seq ?_
  refine TC.region ?_
  refine TV rfl rfl rfl (Val.move rfl) ?_
  refine TV rfl rfl rfl (Val.assign rfl) ?_
  refine TL.nil ?_
  refine TQ.then_ ?_
  refine TC.ret ?_
  obtain rfl:=Option.some.inj h
  exact TQ.fin (.inl rfl) rfl Try.results95 (.tmp rfl .nil) rfl (FRel.mk (Ls:=[Blk b1 [.map (some b2),.map (some b3)] 112,Mp Try.prog 3 3 b2 a0_0_0,Mp Try.prog 3 3 b3 a0_1_0]) [0,1,2] 3 (Gd.le.refl _) rfl rfl rfl ⟨rfl,rfl,rfl⟩)
def fold_facts_replaced.l0 (a0_0_0:MpS) (a0_1_0:MpS) (y1712:(List Int)):Nat → (List Int) → Int → Option ((List Int))
 | 0,_,_=>none
 | n1994 + 1,l1919,x1924=>(if x1924 < (y1712.length:Int) then (at? l1919 x1924).bind fun y2103=>(fold_facts_held.f a0_0_0 a0_1_0 y2103).bind fun (y2120:Int)=>(at? l1919 x1924).bind fun y2122=>fold_facts_replaced.l0 a0_0_0 a0_1_0 y1712 n1994 (l1919.set x1924.toNat y2120) (IntKind.i64.wrap (x1924 + 1)) else some l1919)
def fold_facts_replaced.f (a0_0_0:MpS) (a0_1_0:MpS) (a1:S37):Option S37:=jn (γ:=S37) (fun (x815:Bool)=>jn (γ:=S37) (fun (x1120:Int) (x1121:Int) (l1122:(List Int))=>some (⟨a1.f0,a1.f1,x1120,x1121,a1.f4,l1122⟩:S37)) (fun (j1127:(Int → Int → (List Int) → Option S37))=>(if x815=true then (fold_facts_held.f a0_0_0 a0_1_0 a1.f2).bind fun (y1133:Int)=>(fold_facts_held.f a0_0_0 a0_1_0 a1.f3).bind fun (y1135:Int)=>j1127 y1133 y1135 a1.f5 else jn (γ:=S37) (fun (x1139:Bool)=>(if x1139=true then (fold_facts_held.f a0_0_0 a0_1_0 a1.f2).bind fun (y1427:Int)=>j1127 y1427 a1.f3 a1.f5 else (if a1.f0=7 then (slices_Clone_int_int.f a1.f5).bind fun (y1712:(List Int))=>(fold_facts_replaced.l0 a0_0_0 a0_1_0 y1712 (y1712.length + 1) y1712 0).bind fun (l1989:(List Int))=>j1127 a1.f2 a1.f3 l1989 else j1127 a1.f2 a1.f3 a1.f5))) (fun (j1140:(Bool → Option S37))=>(if a1.f0=3 then j1140 (decide (a1.f0=3)) else (if a1.f0=4 then j1140 (decide (a1.f0=4)) else j1140 (decide (a1.f0=9)))))))) (fun (j816:(Bool → Option S37))=>(if a1.f0=2 then j816 (decide (a1.f0=2)) else j816 (decide (a1.f0=5))))
def fold_facts_replaced.post (G:Gd) (b1:Nat) (b2:Nat) (b3:Nat) (A4:Option Addr) (c5:Nat) (a0_0_0:MpS) (a0_1_0:MpS) (a1:S37) (r:S37) (v:Value) (G':Gd) (Lr:List Ch):Prop:=∃ (A_1:Option Addr) (c_1:Nat),v=.agg #[VI r.f0,VI r.f1,VI r.f2,VI r.f3,VI r.f4,.slice A_1 r.f5.length c_1]∧Lr=[Blk b1 [.map (some b2),.map (some b3)] 112,Mp Try.prog 3 3 b2 a0_0_0,Mp Try.prog 3 3 b3 a0_1_0]∧Rd G' kI A_1 r.f5∧r.f5.length ≤ c_1
theorem fold_facts_replaced.calls {G:Gd} {r:S37} {a0_0_0:MpS} {a0_1_0:MpS} {a1:S37} {b1:Nat} {b2:Nat} {b3:Nat} {A4:Option Addr} {c5:Nat} (hr6:Rd G kI A4 a1.f5) (hl7:a1.f5.length ≤ c5) (h:fold_facts_replaced.f a0_0_0 a0_1_0 a1=some r):Fn Try.prog 69 G [Blk b1 [.map (some b2),.map (some b3)] 112,Mp Try.prog 3 3 b2 a0_0_0,Mp Try.prog 3 3 b3 a0_1_0] [VP b1 0,.agg #[VI a1.f0,VI a1.f1,VI a1.f2,VI a1.f3,VI a1.f4,.slice A4 a1.f5.length c5]] (fold_facts_replaced.post G b1 b2 b3 A4 c5 a0_0_0 a0_1_0 a1 r):=by
 refine Fn.intro (e:=[(0,VP b1 0),(1,.agg #[VI a1.f0,VI a1.f1,VI a1.f2,VI a1.f3,VI a1.f4,.slice A4 a1.f5.length c5])]) 54 Try.func69 rfl Try.ntmps69 rfl rfl (Nat.le_of_ble_eq_true rfl) (fun L=>?_)
 unfold fold_facts_replaced.f at h
 refine TC.seq ?_
 refine TC.region ?_
 refine TL.cons (TL.box (cs:=[VI a1.f0,VI a1.f1,VI a1.f2,VI a1.f3,VI a1.f4,.slice A4 a1.f5.length c5]) rfl rfl rfl rfl (fun b8=>?_))
 refine TL.cons (TL.alloc (cs:=[VI 0,VI 0,VI 0,VI 0,VI 0,.slice none 0 0]) rfl rfl zr37 rfl (fun b9=>?_))
 refine TL.nil ?_
 refine TQ.then_ ?_
 refine TC.seq ?_
 refine TC.seq ?_
 refine TC.region ?_
 refine TV rfl rfl rfl (Val.fieldAddrB Try.underlying37 rfl fsz3 rfl rfl rfl) ?_
 refine TV rfl rfl rfl (Val.loadB 1 agg3 rfl rfl rfl) ?_
 refine TL.nil ?_
 refine TQ.then_ ?_
 refine TC.block ?_
 refine TC.seq ?_
 refine TC.seq ?_
 refine TC.region ?_
 refine TV rfl rfl rfl (Val.cmp rfl rfl run_eql) ?_
 refine TV rfl rfl rfl (Val.assign rfl) ?_
 refine TL.nil ?_
 refine TQ.then_ ?_
 obtain ⟨j816,hj816,h⟩:=jn_no h
 refine TC.tail (fun a W=>∃ (x815:Bool),j816 x815=some r∧Fr 54 a [(0,VP b1 0),(3,VP b8 0),(4,VP b9 0),(8,VI a1.f0),(9,.bool x815)]∧Own G (Blk b1 [.map (some b2),.map (some b3)] 112::Mp Try.prog 3 3 b2 a0_0_0::Mp Try.prog 3 3 b3 a0_1_0::Blk b8 [VI a1.f0,VI a1.f1,VI a1.f2,VI a1.f3,VI a1.f4,.slice A4 a1.f5.length c5] 37::Blk b9 [VI 0,VI 0,VI 0,VI 0,VI 0,.slice none 0 0] 37::L) W) ?_ ?_
 ·
  rintro a W ⟨x815,h,hF,hO⟩
  rw [hj816] at h
  refine TQ.use ?_ hF hO
  clear hF hO
  refine TQ.then_ ?_
  obtain ⟨j1127,hj1127,h⟩:=jn_no h
  refine TC.tail (fun a W=>∃ (x1120:Int) (x1121:Int) (l1122:(List Int)) (G1118:Gd) (A1123:Option Addr) (c1124:Nat),j1127 x1120 x1121 l1122=some r∧G.le G1118∧Rd G1118 kI A1123 l1122∧l1122.length ≤ c1124∧Fr 54 a [(3,VP b8 0),(4,VP b9 0)]∧Own G1118 (Blk b1 [.map (some b2),.map (some b3)] 112::Mp Try.prog 3 3 b2 a0_0_0::Mp Try.prog 3 3 b3 a0_1_0::Blk b8 [VI a1.f0,VI a1.f1,VI x1120,VI x1121,VI a1.f4,.slice A1123 l1122.length c1124] 37::Blk b9 [VI 0,VI 0,VI 0,VI 0,VI 0,.slice none 0 0] 37::L) W) ?_ ?_
  ·
   rintro a W ⟨x1120,x1121,l1122,G1118,A1123,c1124,h,e1119,hr1125,hl1126,hF,hO⟩
   rw [hj1127] at h
   refine TQ.use ?_ hF hO
   clear hF hO
   refine TQ.inB ?_
   refine TQ.then_ ?_
   refine TC.seq ?_
   refine TC.region ?_
   refine TV rfl rfl rfl (Val.loadsB 3 (cs:=[VI a1.f0,VI a1.f1,VI x1120,VI x1121,VI a1.f4,.slice A1123 l1122.length c1124]) agg37 fsz37 rfl rfl rfl rfl) ?_
   refine TL.cons (TL.store 4 (ds:=[VI a1.f0,VI a1.f1,VI x1120,VI x1121,VI a1.f4,.slice A1123 l1122.length c1124]) (cs':=[VI a1.f0,VI a1.f1,VI x1120,VI x1121,VI a1.f4,.slice A1123 l1122.length c1124]) (L':=(Blk b1 [.map (some b2),.map (some b3)] 112::Mp Try.prog 3 3 b2 a0_0_0::Mp Try.prog 3 3 b3 a0_1_0::Blk b8 [VI a1.f0,VI a1.f1,VI x1120,VI x1121,VI a1.f4,.slice A1123 l1122.length c1124] 37::Blk b9 [VI a1.f0,VI a1.f1,VI x1120,VI x1121,VI a1.f4,.slice A1123 l1122.length c1124] 37::L)) rfl fsz37 rfl rfl rfl rfl rfl (Nat.le_of_ble_eq_true rfl) rfl rfl ?_)
   refine TL.nil ?_
   refine TQ.then_ ?_
   refine TC.ret ?_
   obtain rfl:=Option.some.inj h
   exact TQ.fin (.inl rfl) rfl Try.results69 (.cells 4 rfl rfl agg37 fsz37 .nil) rfl (FRel.mk (Ls:=[Blk b1 [.map (some b2),.map (some b3)] 112,Mp Try.prog 3 3 b2 a0_0_0,Mp Try.prog 3 3 b3 a0_1_0]) [0,1,2] 5 e1119 rfl rfl rfl ⟨A1123,c1124,rfl,rfl,hr1125,hl1126⟩)
  ·
   refine TC.cond_b rfl h (fun hc1128 h=>?_) (fun hc1128 h=>?_)
   ·
    refine TC.regionAny [9,10,11] [0,1,2,4,5,6,8] mixed (by kernel_rfl) ?_
    refine TA.take 0 rfl (by kernel_rfl) rfl (PQ.then_ (PQ.inB (PQ.then_ PQ.body))) rfl (Val.move rfl) (fun W hO=>hO) ?_
    refine TA.take 1 rfl (by kernel_rfl) rfl (PQ.then_ (PQ.inB (PQ.then_ PQ.body))) rfl (Val.fieldAddrB Try.underlying37 rfl fsz3 rfl rfl rfl) (fun W hO=>hO) ?_
    refine TA.take 2 rfl (by kernel_rfl) rfl (PQ.then_ (PQ.inB (PQ.then_ PQ.body))) rfl (Val.loadB 3 agg3 rfl rfl rfl) (fun W hO=>hO) ?_
    refine TA.take 4 rfl (by kernel_rfl) rfl (PQ.then_ (PQ.inB (PQ.then_ PQ.body))) rfl (Val.move rfl) (fun W hO=>hO) ?_
    refine TA.take 5 rfl (by kernel_rfl) rfl (PQ.then_ (PQ.inB (PQ.then_ PQ.body))) rfl (Val.fieldAddrB Try.underlying37 rfl fsz3 rfl rfl rfl) (fun W hO=>hO) ?_
    refine TA.take 6 rfl (by kernel_rfl) rfl (PQ.then_ (PQ.inB (PQ.then_ PQ.body))) rfl (Val.loadB 3 agg3 rfl rfl rfl) (fun W hO=>hO) ?_
    obtain ⟨y1133,hy1134,h⟩:=bind_no h
    refine TA.eff 3 rfl (by kernel_rfl) rfl (TL.callV (Lin:=[Blk b1 [.map (some b2),.map (some b3)] 112,Mp Try.prog 3 3 b2 a0_0_0,Mp Try.prog 3 3 b3 a0_1_0]) (args:=[VP b1 0,VI a1.f2]) rfl rfl rfl hbd95 rfl rfl (fold_facts_held.calls (a0_0_0:=a0_0_0) (a0_1_0:=a0_1_0) (a1:=a1.f2) hy1134) rfl ?_)
    rintro _ _ _ _ ⟨rfl,rfl,rfl⟩
    refine TA.next (fun W hO=>hO) ?_
    refine TA.take 8 rfl (by kernel_rfl) rfl (PQ.then_ (PQ.inB (PQ.then_ PQ.body))) rfl (Val.fieldAddrB Try.underlying37 rfl fsz3 rfl rfl rfl) (fun W hO=>hO) ?_
    obtain ⟨y1135,hy1136,h⟩:=bind_no h
    refine TA.eff 7 rfl (by kernel_rfl) rfl (TL.callV (Lin:=[Blk b1 [.map (some b2),.map (some b3)] 112,Mp Try.prog 3 3 b2 a0_0_0,Mp Try.prog 3 3 b3 a0_1_0]) (args:=[VP b1 0,VI a1.f3]) rfl rfl rfl hbd95 rfl rfl (fold_facts_held.calls (a0_0_0:=a0_0_0) (a0_1_0:=a0_1_0) (a1:=a1.f3) hy1136) rfl ?_)
    rintro _ _ _ _ ⟨rfl,rfl,rfl⟩
    refine TA.next (fun W hO=>hO) ?_
    refine TA.eff 9 rfl (by kernel_rfl) rfl (TL.store 3 (ds:=[VI y1133]) (cs':=[VI a1.f0,VI a1.f1,VI y1133,VI a1.f3,VI a1.f4,.slice A4 a1.f5.length c5]) (L':=(Blk b1 [.map (some b2),.map (some b3)] 112::Mp Try.prog 3 3 b2 a0_0_0::Mp Try.prog 3 3 b3 a0_1_0::Blk b8 [VI a1.f0,VI a1.f1,VI y1133,VI a1.f3,VI a1.f4,.slice A4 a1.f5.length c5] 37::Blk b9 [VI 0,VI 0,VI 0,VI 0,VI 0,.slice none 0 0] 37::L)) rfl fsz3 rfl rfl rfl rfl rfl (Nat.le_of_ble_eq_true rfl) rfl rfl ?_)
    refine TA.last rfl ?_
    refine TA.eff 10 rfl (by kernel_rfl) rfl (TO.val rfl rfl rfl (Val.fieldAddrB Try.underlying37 rfl fsz3 rfl rfl rfl) ?_)
    refine TA.last rfl ?_
    refine TA.eff 11 rfl (by kernel_rfl) rfl (TL.store 3 (ds:=[VI y1135]) (cs':=[VI a1.f0,VI a1.f1,VI y1133,VI y1135,VI a1.f4,.slice A4 a1.f5.length c5]) (L':=(Blk b1 [.map (some b2),.map (some b3)] 112::Mp Try.prog 3 3 b2 a0_0_0::Mp Try.prog 3 3 b3 a0_1_0::Blk b8 [VI a1.f0,VI a1.f1,VI y1133,VI y1135,VI a1.f4,.slice A4 a1.f5.length c5] 37::Blk b9 [VI 0,VI 0,VI 0,VI 0,VI 0,.slice none 0 0] 37::L)) rfl fsz3 rfl rfl rfl rfl rfl (Nat.le_of_ble_eq_true rfl) rfl rfl ?_)
    refine TA.last rfl ?_
    refine TA.done (by kernel_rfl) ?_
    exact fun a W hF hO=>⟨y1133,y1135,a1.f5,G,A4,c5,h,(Gd.le.refl _),hr6,hl7,hF.sub ⟨rfl,rfl,trivial⟩,hO.selT (Ls:=[Blk b1 [.map (some b2),.map (some b3)] 112,Mp Try.prog 3 3 b2 a0_0_0,Mp Try.prog 3 3 b3 a0_1_0,Blk b8 [VI a1.f0,VI a1.f1,VI y1133,VI y1135,VI a1.f4,.slice A4 a1.f5.length c5] 37,Blk b9 [VI 0,VI 0,VI 0,VI 0,VI 0,.slice none 0 0] 37]) [0,1,2,3,4] 5 rfl rfl rfl⟩
   ·
    refine TC.seq ?_
    refine TC.seq ?_
    refine TC.region ?_
    refine TV rfl rfl rfl (Val.cmp rfl rfl run_eql) ?_
    refine TV rfl rfl rfl (Val.assign rfl) ?_
    refine TL.nil ?_
    refine TQ.then_ ?_
    obtain ⟨j1140,hj1140,h⟩:=jn_no h
    refine TC.tail (fun a W=>∃ (x1139:Bool),j1140 x1139=some r∧Fr 54 a [(0,VP b1 0),(3,VP b8 0),(4,VP b9 0),(8,VI a1.f0),(22,.bool x1139)]∧Own G (Blk b1 [.map (some b2),.map (some b3)] 112::Mp Try.prog 3 3 b2 a0_0_0::Mp Try.prog 3 3 b3 a0_1_0::Blk b8 [VI a1.f0,VI a1.f1,VI a1.f2,VI a1.f3,VI a1.f4,.slice A4 a1.f5.length c5] 37::Blk b9 [VI 0,VI 0,VI 0,VI 0,VI 0,.slice none 0 0] 37::L) W) ?_ ?_
    ·
     rintro a W ⟨x1139,h,hF,hO⟩
     rw [hj1140] at h
     refine TQ.use ?_ hF hO
     clear hF hO
     refine TQ.then_ ?_
     refine TC.cond_b rfl h (fun hc1426 h=>?_) (fun hc1426 h=>?_)
     ·
      refine TC.region ?_
      refine TV rfl rfl rfl (Val.move rfl) ?_
      refine TV rfl rfl rfl (Val.fieldAddrB Try.underlying37 rfl fsz3 rfl rfl rfl) ?_
      refine TV rfl rfl rfl (Val.loadB 3 agg3 rfl rfl rfl) ?_
      obtain ⟨y1427,hy1428,h⟩:=bind_no h
      refine TL.cons (TL.callV (Lin:=[Blk b1 [.map (some b2),.map (some b3)] 112,Mp Try.prog 3 3 b2 a0_0_0,Mp Try.prog 3 3 b3 a0_1_0]) (args:=[VP b1 0,VI a1.f2]) rfl rfl rfl hbd95 rfl rfl (fold_facts_held.calls (a0_0_0:=a0_0_0) (a0_1_0:=a0_1_0) (a1:=a1.f2) hy1428) rfl ?_)
      rintro _ _ _ _ ⟨rfl,rfl,rfl⟩
      refine TV rfl rfl rfl (Val.fieldAddrB Try.underlying37 rfl fsz3 rfl rfl rfl) ?_
      refine TL.cons (TL.store 3 (ds:=[VI y1427]) (cs':=[VI a1.f0,VI a1.f1,VI y1427,VI a1.f3,VI a1.f4,.slice A4 a1.f5.length c5]) (L':=(Blk b1 [.map (some b2),.map (some b3)] 112::Mp Try.prog 3 3 b2 a0_0_0::Mp Try.prog 3 3 b3 a0_1_0::Blk b8 [VI a1.f0,VI a1.f1,VI y1427,VI a1.f3,VI a1.f4,.slice A4 a1.f5.length c5] 37::Blk b9 [VI 0,VI 0,VI 0,VI 0,VI 0,.slice none 0 0] 37::L)) rfl fsz3 rfl rfl rfl rfl rfl (Nat.le_of_ble_eq_true rfl) rfl rfl ?_)
      refine TL.nil ?_
      exact fun a W hF hO=>⟨y1427,a1.f3,a1.f5,G,A4,c5,h,(Gd.le.refl _),hr6,hl7,hF.sub ⟨rfl,rfl,trivial⟩,hO.selT (Ls:=[Blk b1 [.map (some b2),.map (some b3)] 112,Mp Try.prog 3 3 b2 a0_0_0,Mp Try.prog 3 3 b3 a0_1_0,Blk b8 [VI a1.f0,VI a1.f1,VI y1427,VI a1.f3,VI a1.f4,.slice A4 a1.f5.length c5] 37,Blk b9 [VI 0,VI 0,VI 0,VI 0,VI 0,.slice none 0 0] 37]) [0,1,2,3,4] 5 rfl rfl rfl⟩
     ·
      refine TC.seq ?_
      refine TC.region ?_
      refine TV rfl rfl rfl (Val.cmp rfl rfl run_eql) ?_
      refine TV rfl rfl rfl (Val.assign rfl) ?_
      refine TL.nil ?_
      refine TQ.then_ ?_
      refine TC.cond_p rfl h (fun hc1711 h=>?_) (fun hc1711 h=>?_)
      ·
       refine TC.seq ?_
       refine TC.region ?_
       refine TV rfl rfl rfl (Val.fieldAddrB Try.underlying37 rfl fsz23 rfl rfl rfl) ?_
       refine TV rfl rfl rfl (Val.loadB 3 agg23 rfl rfl rfl) ?_
       obtain ⟨y1712,hy1713,h⟩:=bind_no h
       refine TL.cons (TL.callV (Lin:=[]) (args:=[.slice A4 a1.f5.length c5]) rfl rfl rfl hbd65 rfl rfl (slices_Clone_int_int.calls (a0:=a1.f5) hr6 hl7 hy1713) rfl ?_)
       rintro _ _ _ _ ⟨rfl,A1714,c1715,rfl,rfl⟩
       refine TV rfl rfl rfl (Val.fieldAddrB Try.underlying37 rfl fsz23 rfl rfl rfl) ?_
       refine TL.cons (TL.store 4 (ds:=[.slice A1714 y1712.length c1715]) (cs':=[VI a1.f0,VI a1.f1,VI a1.f2,VI a1.f3,VI a1.f4,.slice A1714 y1712.length c1715]) (L':=(Row kI 3 (.slice A1714 y1712.length c1715) y1712::Blk b1 [.map (some b2),.map (some b3)] 112::Mp Try.prog 3 3 b2 a0_0_0::Mp Try.prog 3 3 b3 a0_1_0::Blk b8 [VI a1.f0,VI a1.f1,VI a1.f2,VI a1.f3,VI a1.f4,.slice A1714 y1712.length c1715] 37::Blk b9 [VI 0,VI 0,VI 0,VI 0,VI 0,.slice none 0 0] 37::L)) rfl fsz23 rfl rfl rfl rfl rfl (Nat.le_of_ble_eq_true rfl) rfl rfl ?_)
       refine TL.nil ?_
       refine TQ.then_ ?_
       refine TC.seq ?_
       refine TC.region ?_
       refine TV rfl rfl rfl (Val.fieldAddrB Try.underlying37 rfl fsz23 rfl rfl rfl) ?_
       refine TV rfl rfl rfl (Val.loadB 4 agg23 rfl rfl rfl) ?_
       refine TV rfl rfl rfl (Val.len Try.underlying23 rfl) ?_
       refine TV rfl rfl rfl (Val.move rfl) ?_
       refine TL.nil ?_
       refine TQ.then_ ?_
       obtain ⟨o1993,ho1993,ko1993⟩:=bind_no h
       clear h
       refine TC.tail (fun a W=>∃ (l1989:(List Int)) (A1990:Option Addr) (c1991:Nat),l1989=o1993∧Fr 54 a [(3,VP b8 0),(4,VP b9 0)]∧Own G (Blk b1 [.map (some b2),.map (some b3)] 112::Mp Try.prog 3 3 b2 a0_0_0::Mp Try.prog 3 3 b3 a0_1_0::Blk b8 [VI a1.f0,VI a1.f1,VI a1.f2,VI a1.f3,VI a1.f4,.slice A1990 l1989.length c1991] 37::Blk b9 [VI 0,VI 0,VI 0,VI 0,VI 0,.slice none 0 0] 37::Row kI 3 (.slice A1990 l1989.length c1991) l1989::L) W) ?_ ?_
       ·
        rintro a W ⟨l1989,A1990,c1991,rfl,hF,hO⟩
        have h:=ko1993
        clear ko1993 ho1993
        refine TQ.use ?_ hF hO
        clear hF hO
        refine TQ.sel (Ls:=[Row kI 3 (.slice A1990 l1989.length c1991) l1989,Blk b1 [.map (some b2),.map (some b3)] 112,Mp Try.prog 3 3 b2 a0_0_0,Mp Try.prog 3 3 b3 a0_1_0,Blk b8 [VI a1.f0,VI a1.f1,VI a1.f2,VI a1.f3,VI a1.f4,.slice A1990 l1989.length c1991] 37,Blk b9 [VI 0,VI 0,VI 0,VI 0,VI 0,.slice none 0 0] 37]) [5,0,1,2,3,4] 6 rfl rfl rfl ?_
        refine TQ.share (fun G2059 e2060 hs2061 _=>?_)
        have rd2062:Rd G2059 kI A1990 l1989:=Rd.row hs2061
        have le2063:l1989.length ≤ c1991:=Row.le hs2061
        exact fun a W hF hO=>⟨a1.f2,a1.f3,l1989,G2059,A1990,c1991,h,e2060,rd2062,le2063,hF.sub ⟨rfl,rfl,trivial⟩,hO.selT (Ls:=[Blk b1 [.map (some b2),.map (some b3)] 112,Mp Try.prog 3 3 b2 a0_0_0,Mp Try.prog 3 3 b3 a0_1_0,Blk b8 [VI a1.f0,VI a1.f1,VI a1.f2,VI a1.f3,VI a1.f4,.slice A1990 l1989.length c1991] 37,Blk b9 [VI 0,VI 0,VI 0,VI 0,VI 0,.slice none 0 0] 37]) [0,1,2,3,4] 5 rfl rfl rfl⟩
       ·
        refine TC.block ?_
        intro a W hF hO
        have hS:∃ (l1919:(List Int)) (x1924:Int) (A1920:Option Addr) (c1921:Nat),fold_facts_replaced.l0 a0_0_0 a0_1_0 y1712 (y1712.length + 1) l1919 x1924=some o1993∧l1919.length=y1712.length∧Fr 54 a [(0,VP b1 0),(3,VP b8 0),(4,VP b9 0),(38,.slice A1920 l1919.length c1921),(39,VI (y1712.length:Int)),(40,VI x1924)]∧Own G (Blk b1 [.map (some b2),.map (some b3)] 112::Mp Try.prog 3 3 b2 a0_0_0::Mp Try.prog 3 3 b3 a0_1_0::Blk b8 [VI a1.f0,VI a1.f1,VI a1.f2,VI a1.f3,VI a1.f4,.slice A1920 l1919.length c1921] 37::Blk b9 [VI 0,VI 0,VI 0,VI 0,VI 0,.slice none 0 0] 37::Row kI 3 (.slice A1920 l1919.length c1921) l1919::L) W:=by
         exact ⟨y1712,0,A1714,c1715,ho1993,(by first | rfl | assumption | omega | (simp only [List.length_set]; first | rfl | assumption | omega)),hF.sub ⟨rfl,rfl,rfl,rfl,rfl,rfl,trivial⟩,hO.selT (Ls:=[Blk b1 [.map (some b2),.map (some b3)] 112,Mp Try.prog 3 3 b2 a0_0_0,Mp Try.prog 3 3 b3 a0_1_0,Blk b8 [VI a1.f0,VI a1.f1,VI a1.f2,VI a1.f3,VI a1.f4,.slice A1714 y1712.length c1715] 37,Blk b9 [VI 0,VI 0,VI 0,VI 0,VI 0,.slice none 0 0] 37,Row kI 3 (.slice A1714 y1712.length c1715) y1712]) [1,2,3,4,5,0] 6 rfl rfl rfl⟩
        clear hF hO ho1993 ko1993
        refine TC.loop (fun n1994 a W=>∃ (l1919:(List Int)) (x1924:Int) (A1920:Option Addr) (c1921:Nat),fold_facts_replaced.l0 a0_0_0 a0_1_0 y1712 n1994 l1919 x1924=some o1993∧l1919.length=y1712.length∧Fr 54 a [(0,VP b1 0),(3,VP b8 0),(4,VP b9 0),(38,.slice A1920 l1919.length c1921),(39,VI (y1712.length:Int)),(40,VI x1924)]∧Own G (Blk b1 [.map (some b2),.map (some b3)] 112::Mp Try.prog 3 3 b2 a0_0_0::Mp Try.prog 3 3 b3 a0_1_0::Blk b8 [VI a1.f0,VI a1.f1,VI a1.f2,VI a1.f3,VI a1.f4,.slice A1920 l1919.length c1921] 37::Blk b9 [VI 0,VI 0,VI 0,VI 0,VI 0,.slice none 0 0] 37::Row kI 3 (.slice A1920 l1919.length c1921) l1919::L) W) ?_ ?_ hS
        ·
         rintro a W ⟨l1919,x1924,A1920,c1921,h,hl1923,hF,hO⟩
         exact none_no h
        ·
         clear hS
         rintro n1994 a W ⟨l1919,x1924,A1920,c1921,h,hl1923,hF,hO⟩
         rw [fold_facts_replaced.l0] at h
         refine TC.use ?_ hF hO
         clear hF hO
         refine TC.seq ?_
         refine TC.region ?_
         refine TV rfl rfl rfl (Val.cmp rfl rfl run_lss) ?_
         refine TL.nil ?_
         refine TQ.then_ ?_
         refine TC.seq ?_
         refine TC.cond_p rfl h (fun hc2065 h=>?_) (fun hc2065 h=>?_)
         ·
          refine TC.skip ?_
          refine TQ.then_ ?_
          refine TC.seq ?_
          refine TC.block ?_
          refine TC.seq ?_
          refine TC.region ?_
          refine TV rfl rfl rfl (Val.move rfl) ?_
          refine TK.sel (Ls:=[Row kI 3 (.slice A1920 l1919.length c1921) l1919,Blk b1 [.map (some b2),.map (some b3)] 112,Mp Try.prog 3 3 b2 a0_0_0,Mp Try.prog 3 3 b3 a0_1_0,Blk b8 [VI a1.f0,VI a1.f1,VI a1.f2,VI a1.f3,VI a1.f4,.slice A1920 l1919.length c1921] 37,Blk b9 [VI 0,VI 0,VI 0,VI 0,VI 0,.slice none 0 0] 37]) [5,0,1,2,3,4] 6 rfl rfl rfl ?_
          refine TK.share (fun G2097 e2098 hs2099 hb2100=>?_)
          have rd2101:Rd G2097 kI A1920 l1919:=Rd.row hs2099
          have le2102:l1919.length ≤ c1921:=Row.le hs2099
          obtain ⟨y2103,hx2104,h⟩:=bind_no h
          obtain ⟨ad2105,cs2111,hA2106,hi2107,hj2108,hcl2109,hK2110⟩:=Rd.at rd2101 hx2104
          obtain rfl:=RdK.int hK2110
          refine TV rfl rfl rfl (Val.indexAddr Try.underlying23 fsz3 rfl hA2106 rfl hi2107 hj2108) ?_
          refine TV rfl rfl rfl (Val.loadS agg3 rfl (hcl2109 0 _ rfl)) ?_
          refine TV rfl rfl rfl (Val.assign rfl) ?_
          refine TV rfl rfl rfl (Val.assign rfl) ?_
          refine TL.nil ?_
          refine TQ.then_ ?_
          refine TC.regionAny [7] [0,1,2,3,4,6] mixed (by kernel_rfl) ?_
          refine TA.take 0 rfl (by kernel_rfl) rfl (PQ.inB (PQ.then_ (PQ.then_ (PQ.inB (PQ.then_ (PQ.then_ (PQ.inB (PQ.then_ PQ.body)))))))) rfl (Val.fieldAddrB Try.underlying37 rfl fsz23 rfl rfl rfl) (fun W hO=>hO) ?_
          refine TA.take 1 rfl (by kernel_rfl) rfl (PQ.inB (PQ.then_ (PQ.then_ (PQ.inB (PQ.then_ (PQ.then_ (PQ.inB (PQ.then_ PQ.body)))))))) rfl (Val.loadB 3 agg23 rfl rfl rfl) (fun W hO=>hO) ?_
          refine TA.take 2 rfl (by kernel_rfl) rfl (PQ.inB (PQ.then_ (PQ.then_ (PQ.inB (PQ.then_ (PQ.then_ (PQ.inB (PQ.then_ PQ.body)))))))) rfl (Val.move rfl) (fun W hO=>hO) ?_
          refine TA.take 3 rfl (by kernel_rfl) rfl (PQ.inB (PQ.then_ (PQ.then_ (PQ.inB (PQ.then_ (PQ.then_ (PQ.inB (PQ.then_ PQ.body)))))))) rfl (Val.move rfl) (fun W hO=>hO) ?_
          refine TA.take 4 rfl (by kernel_rfl) rfl (PQ.inB (PQ.then_ (PQ.then_ (PQ.inB (PQ.then_ (PQ.then_ (PQ.inB (PQ.then_ PQ.body)))))))) rfl (Val.move rfl) (fun W hO=>hO) ?_
          obtain ⟨y2120,hy2121,h⟩:=bind_no h
          refine TA.eff 5 rfl (by kernel_rfl) rfl (TL.callV (Lin:=[Blk b1 [.map (some b2),.map (some b3)] 112,Mp Try.prog 3 3 b2 a0_0_0,Mp Try.prog 3 3 b3 a0_1_0]) (args:=[VP b1 0,VI y2103]) rfl rfl rfl hbd95 rfl rfl (fold_facts_held.calls (a0_0_0:=a0_0_0) (a0_1_0:=a0_1_0) (a1:=y2103) hy2121) rfl ?_)
          rintro _ _ _ _ ⟨rfl,rfl,rfl⟩
          refine TA.next (fun W hO=>hO) ?_
          obtain ⟨y2122,hy2123,h⟩:=bind_no h
          obtain ⟨b2124,hA2125,hi2126,hj2127⟩:=Row.openedS hs2099 hy2123
          refine TA.take 6 rfl (by kernel_rfl) rfl (PQ.inB (PQ.then_ (PQ.then_ (PQ.inB (PQ.then_ (PQ.then_ (PQ.inB (PQ.then_ PQ.body)))))))) rfl (Val.indexAddrW Try.underlying23 fsz3 rfl hA2125 rfl hi2126 hj2127) (fun W hO=>hO) ?_
          refine TK.back hb2100 ?_
          refine TK.new (El.of (k:=kI) (xv:=y2120) (cs:=[VI y2120]) (fun W B=>rfl)) ?_
          refine TK.sel (Ls:=[Row kI 3 (.slice A1920 l1919.length c1921) l1919,El kI y2120 [VI y2120],Blk b1 [.map (some b2),.map (some b3)] 112,Mp Try.prog 3 3 b2 a0_0_0,Mp Try.prog 3 3 b3 a0_1_0,Blk b8 [VI a1.f0,VI a1.f1,VI a1.f2,VI a1.f3,VI a1.f4,.slice A1920 l1919.length c1921] 37,Blk b9 [VI 0,VI 0,VI 0,VI 0,VI 0,.slice none 0 0] 37]) [1,0,2,3,4,5,6] 7 rfl rfl rfl ?_
          refine TA.eff 7 rfl (by kernel_rfl) rfl (TL.storeE kI (xs:=l1919) (xv:=y2120) (ds:=[VI y2120]) rfl fsz3 hA2125 hy2123 rfl rfl rfl rfl (Nat.le_of_ble_eq_true rfl) (wholeM rfl) ?_)
          refine TA.last rfl ?_
          rw [show (l1919.length:Nat)=(l1919.set x1924.toNat y2120).length from by simp only [List.length_set]]
          refine TA.done (by kernel_rfl) ?_
          refine TQ.inB ?_
          refine TQ.then_ ?_
          refine TC.region ?_
          refine TV rfl rfl rfl (Val.cmp rfl rfl run_add) ?_
          refine TV rfl rfl rfl (Val.move rfl) ?_
          refine TL.nil ?_
          exact fun a W hF hO=>⟨(l1919.set x1924.toNat y2120),IntKind.i64.wrap (x1924 + 1),A1920,c1921,h,(by first | rfl | assumption | omega | (simp only [List.length_set]; first | rfl | assumption | omega)),hF.sub ⟨rfl,rfl,rfl,rfl,rfl,rfl,trivial⟩,hO.selT (Ls:=[Blk b1 [.map (some b2),.map (some b3)] 112,Mp Try.prog 3 3 b2 a0_0_0,Mp Try.prog 3 3 b3 a0_1_0,Blk b8 [VI a1.f0,VI a1.f1,VI a1.f2,VI a1.f3,VI a1.f4,.slice A1920 (l1919.set x1924.toNat y2120).length c1921] 37,Blk b9 [VI 0,VI 0,VI 0,VI 0,VI 0,.slice none 0 0] 37,Row kI 3 (.slice A1920 (l1919.set x1924.toNat y2120).length c1921) (l1919.set x1924.toNat y2120)]) [1,2,3,4,5,0] 6 rfl rfl rfl⟩
         ·
          refine TC.exit ?_
          refine TQ.thenX ?_
          refine TQ.thenX ?_
          refine TQ.inBX ?_
          exact fun a W hF hO=>⟨l1919,A1920,c1921,Option.some.inj h,hF.sub ⟨rfl,rfl,trivial⟩,hO.selT (Ls:=[Blk b1 [.map (some b2),.map (some b3)] 112,Mp Try.prog 3 3 b2 a0_0_0,Mp Try.prog 3 3 b3 a0_1_0,Blk b8 [VI a1.f0,VI a1.f1,VI a1.f2,VI a1.f3,VI a1.f4,.slice A1920 l1919.length c1921] 37,Blk b9 [VI 0,VI 0,VI 0,VI 0,VI 0,.slice none 0 0] 37,Row kI 3 (.slice A1920 l1919.length c1921) l1919]) [0,1,2,3,4,5] 6 rfl rfl rfl⟩
      ·
       refine TC.skip ?_
       exact fun a W hF hO=>⟨a1.f2,a1.f3,a1.f5,G,A4,c5,h,(Gd.le.refl _),hr6,hl7,hF.sub ⟨rfl,rfl,trivial⟩,hO.selT (Ls:=[Blk b1 [.map (some b2),.map (some b3)] 112,Mp Try.prog 3 3 b2 a0_0_0,Mp Try.prog 3 3 b3 a0_1_0,Blk b8 [VI a1.f0,VI a1.f1,VI a1.f2,VI a1.f3,VI a1.f4,.slice A4 a1.f5.length c5] 37,Blk b9 [VI 0,VI 0,VI 0,VI 0,VI 0,.slice none 0 0] 37]) [0,1,2,3,4] 5 rfl rfl rfl⟩
    ·
     refine TC.cond_p rfl h (fun hc2128 h=>?_) (fun hc2128 h=>?_)
     ·
      refine TC.skip ?_
      exact fun a W hF hO=>⟨decide (a1.f0=3),h,hF.sub ⟨rfl,rfl,rfl,rfl,rfl,trivial⟩,hO.selT (Ls:=[Blk b1 [.map (some b2),.map (some b3)] 112,Mp Try.prog 3 3 b2 a0_0_0,Mp Try.prog 3 3 b3 a0_1_0,Blk b8 [VI a1.f0,VI a1.f1,VI a1.f2,VI a1.f3,VI a1.f4,.slice A4 a1.f5.length c5] 37,Blk b9 [VI 0,VI 0,VI 0,VI 0,VI 0,.slice none 0 0] 37]) [0,1,2,3,4] 5 rfl rfl rfl⟩
     ·
      refine TC.seq ?_
      refine TC.region ?_
      refine TV rfl rfl rfl (Val.cmp rfl rfl run_eql) ?_
      refine TV rfl rfl rfl (Val.assign rfl) ?_
      refine TL.nil ?_
      refine TQ.then_ ?_
      refine TC.cond_p rfl h (fun hc2130 h=>?_) (fun hc2130 h=>?_)
      ·
       refine TC.skip ?_
       exact fun a W hF hO=>⟨decide (a1.f0=4),h,hF.sub ⟨rfl,rfl,rfl,rfl,rfl,trivial⟩,hO.selT (Ls:=[Blk b1 [.map (some b2),.map (some b3)] 112,Mp Try.prog 3 3 b2 a0_0_0,Mp Try.prog 3 3 b3 a0_1_0,Blk b8 [VI a1.f0,VI a1.f1,VI a1.f2,VI a1.f3,VI a1.f4,.slice A4 a1.f5.length c5] 37,Blk b9 [VI 0,VI 0,VI 0,VI 0,VI 0,.slice none 0 0] 37]) [0,1,2,3,4] 5 rfl rfl rfl⟩
      ·
       refine TC.region ?_
       refine TV rfl rfl rfl (Val.cmp rfl rfl run_eql) ?_
       refine TV rfl rfl rfl (Val.assign rfl) ?_
       refine TL.nil ?_
       exact fun a W hF hO=>⟨decide (a1.f0=9),h,hF.sub ⟨rfl,rfl,rfl,rfl,rfl,trivial⟩,hO.selT (Ls:=[Blk b1 [.map (some b2),.map (some b3)] 112,Mp Try.prog 3 3 b2 a0_0_0,Mp Try.prog 3 3 b3 a0_1_0,Blk b8 [VI a1.f0,VI a1.f1,VI a1.f2,VI a1.f3,VI a1.f4,.slice A4 a1.f5.length c5] 37,Blk b9 [VI 0,VI 0,VI 0,VI 0,VI 0,.slice none 0 0] 37]) [0,1,2,3,4] 5 rfl rfl rfl⟩
 ·
  refine TC.cond_p rfl h (fun hc2131 h=>?_) (fun hc2131 h=>?_)
  ·
   refine TC.skip ?_
   exact fun a W hF hO=>⟨decide (a1.f0=2),h,hF.sub ⟨rfl,rfl,rfl,rfl,rfl,trivial⟩,hO.selT (Ls:=[Blk b1 [.map (some b2),.map (some b3)] 112,Mp Try.prog 3 3 b2 a0_0_0,Mp Try.prog 3 3 b3 a0_1_0,Blk b8 [VI a1.f0,VI a1.f1,VI a1.f2,VI a1.f3,VI a1.f4,.slice A4 a1.f5.length c5] 37,Blk b9 [VI 0,VI 0,VI 0,VI 0,VI 0,.slice none 0 0] 37]) [2,3,4,1,0] 5 rfl rfl rfl⟩
  ·
   refine TC.region ?_
   refine TV rfl rfl rfl (Val.cmp rfl rfl run_eql) ?_
   refine TV rfl rfl rfl (Val.assign rfl) ?_
   refine TL.nil ?_
   exact fun a W hF hO=>⟨decide (a1.f0=5),h,hF.sub ⟨rfl,rfl,rfl,rfl,rfl,trivial⟩,hO.selT (Ls:=[Blk b1 [.map (some b2),.map (some b3)] 112,Mp Try.prog 3 3 b2 a0_0_0,Mp Try.prog 3 3 b3 a0_1_0,Blk b8 [VI a1.f0,VI a1.f1,VI a1.f2,VI a1.f3,VI a1.f4,.slice A4 a1.f5.length c5] 37,Blk b9 [VI 0,VI 0,VI 0,VI 0,VI 0,.slice none 0 0] 37]) [2,3,4,1,0] 5 rfl rfl rfl⟩
def fold_facts_learn.f (a0_0_0:MpS) (a0_1_0:MpS) (a1:S37):Option (MpS × MpS):=(code_Sets.f a1).bind fun (y9:Int)=>(if y9=0 then some (a0_0_0,a0_1_0) else (if wfi y9 then (if wfi y9 then (if a1.f0=1 then (if (mdel a0_0_0 y9).1 < 17592186044416∧wfi y9∧wfi a1.f4 then some ((mput (mdel a0_0_0 y9) y9 a1.f4),(mdelf (mdel a0_1_0 y9) (fun _ v=>decide (v=y9)))) else none) else jn (γ:=(MpS × MpS)) (fun (x72:Bool)=>(if x72=true then (if (mdelf (mdel a0_1_0 y9) (fun _ v=>decide (v=y9))).1 < 17592186044416∧wfi y9∧wfi a1.f2 then some ((mdel a0_0_0 y9),(mput (mdelf (mdel a0_1_0 y9) (fun _ v=>decide (v=y9))) y9 a1.f2)) else none) else some ((mdel a0_0_0 y9),(mdelf (mdel a0_1_0 y9) (fun _ v=>decide (v=y9)))))) (fun (j73:(Bool → Option (MpS × MpS)))=>(if a1.f0=3 then j73 (!decide (a1.f2=y9)) else j73 false))) else none) else none))
def fold_facts_learn.post (G:Gd) (b1:Nat) (b2:Nat) (b3:Nat) (A4:Option Addr) (c5:Nat) (a0_0_0:MpS) (a0_1_0:MpS) (a1:S37) (r:(MpS × MpS)) (v:Value) (G':Gd) (Lr:List Ch):Prop:=G=G'∧v=.tuple #[]∧Lr=[Blk b1 [.map (some b2),.map (some b3)] 112,Mp Try.prog 3 3 b2 r.1,Mp Try.prog 3 3 b3 r.2]
theorem fold_facts_learn.calls {G:Gd} {r:(MpS × MpS)} {a0_0_0:MpS} {a0_1_0:MpS} {a1:S37} {b1:Nat} {b2:Nat} {b3:Nat} {A4:Option Addr} {c5:Nat} (hr6:Rd G kI A4 a1.f5) (hl7:a1.f5.length ≤ c5) (h:fold_facts_learn.f a0_0_0 a0_1_0 a1=some r):Fn Try.prog 70 G [Blk b1 [.map (some b2),.map (some b3)] 112,Mp Try.prog 3 3 b2 a0_0_0,Mp Try.prog 3 3 b3 a0_1_0] [VP b1 0,.agg #[VI a1.f0,VI a1.f1,VI a1.f2,VI a1.f3,VI a1.f4,.slice A4 a1.f5.length c5]] (fold_facts_learn.post G b1 b2 b3 A4 c5 a0_0_0 a0_1_0 a1 r):=by
 refine Fn.intro (e:=[(0,VP b1 0),(1,.agg #[VI a1.f0,VI a1.f1,VI a1.f2,VI a1.f3,VI a1.f4,.slice A4 a1.f5.length c5])]) 53 Try.func70 rfl Try.ntmps70 rfl rfl (Nat.le_of_ble_eq_true rfl) (fun L=>?_)
 unfold fold_facts_learn.f at h
 refine TC.seq ?_
 refine TC.region ?_
 refine TL.cons (TL.box (cs:=[VI a1.f0,VI a1.f1,VI a1.f2,VI a1.f3,VI a1.f4,.slice A4 a1.f5.length c5]) rfl rfl rfl rfl (fun b8=>?_))
 refine TL.nil ?_
 refine TQ.then_ ?_
 refine TC.seq ?_
 refine TC.region ?_
 refine TV rfl rfl rfl (Val.loadsB 0 (cs:=[VI a1.f0,VI a1.f1,VI a1.f2,VI a1.f3,VI a1.f4,.slice A4 a1.f5.length c5]) agg37 fsz37 rfl rfl rfl rfl) ?_
 obtain ⟨y9,hy10,h⟩:=bind_no h
 refine TL.cons (TL.callV (Lin:=[]) (args:=[.agg #[VI a1.f0,VI a1.f1,VI a1.f2,VI a1.f3,VI a1.f4,.slice A4 a1.f5.length c5]]) rfl rfl rfl hbd78 rfl rfl (code_Sets.calls (a0:=a1) hr6 hl7 hy10) rfl ?_)
 rintro _ _ _ _ ⟨rfl,rfl,rfl⟩
 refine TL.cons (TL.alloc (cs:=[VI 0]) rfl rfl zr3 rfl (fun b11=>?_))
 refine TL.cons (TL.store 0 (ds:=[VI y9]) (cs':=[VI y9]) (L':=(Blk b11 [VI y9] 3::Blk b8 [VI a1.f0,VI a1.f1,VI a1.f2,VI a1.f3,VI a1.f4,.slice A4 a1.f5.length c5] 37::Blk b1 [.map (some b2),.map (some b3)] 112::Mp Try.prog 3 3 b2 a0_0_0::Mp Try.prog 3 3 b3 a0_1_0::L)) rfl fsz3 rfl rfl rfl rfl rfl (Nat.le_of_ble_eq_true rfl) rfl rfl ?_)
 refine TL.nil ?_
 refine TQ.then_ ?_
 refine TC.seq ?_
 refine TC.seq ?_
 refine TC.region ?_
 refine TV rfl rfl rfl (Val.loadB 0 agg3 rfl rfl rfl) ?_
 refine TV rfl rfl rfl (Val.cmp rfl rfl run_eql) ?_
 refine TL.nil ?_
 refine TQ.then_ ?_
 refine TC.cond_p rfl h (fun hc13 h=>?_) (fun hc13 h=>?_)
 ·
  refine TC.ret ?_
  refine TQ.thenR ?_
  obtain rfl:=Option.some.inj h
  exact TQ.fin (.inl rfl) rfl Try.results70 .nil rfl (FRel.mk (Ls:=[Blk b1 [.map (some b2),.map (some b3)] 112,Mp Try.prog 3 3 b2 a0_0_0,Mp Try.prog 3 3 b3 a0_1_0]) [2,3,4] 5 (Gd.le.refl _) rfl rfl rfl ⟨rfl,rfl,rfl⟩)
 ·
  refine TC.skip ?_
  refine TQ.then_ ?_
  refine TC.seq ?_
  refine TC.regionAny [5] [0,1,2,3,4] mixed (by kernel_rfl) ?_
  refine TA.take 0 rfl (by kernel_rfl) rfl (PQ.then_ PQ.body) rfl (Val.move rfl) (fun W hO=>hO) ?_
  refine TA.take 1 rfl (by kernel_rfl) rfl (PQ.then_ PQ.body) rfl (Val.nilCheck rfl) (fun W hO=>hO) ?_
  refine TA.take 2 rfl (by kernel_rfl) rfl (PQ.then_ PQ.body) rfl (Val.fieldAddrB Try.underlying112 rfl fsz110 rfl rfl rfl) (fun W hO=>hO) ?_
  refine TA.take 3 rfl (by kernel_rfl) rfl (PQ.then_ PQ.body) rfl (Val.loadB 2 agg110 rfl rfl rfl) (fun W hO=>hO) ?_
  refine TA.take 4 rfl (by kernel_rfl) rfl (PQ.then_ PQ.body) rfl (Val.loadB 0 agg3 rfl rfl rfl) (fun W hO=>hO) ?_
  obtain ⟨hz15,h⟩:=ite_no h
  refine TA.eff 5 rfl (by kernel_rfl) rfl (TL.mapDelete 3 (L':=(Blk b11 [VI y9] 3::Blk b8 [VI a1.f0,VI a1.f1,VI a1.f2,VI a1.f3,VI a1.f4,.slice A4 a1.f5.length c5] 37::Blk b1 [.map (some b2),.map (some b3)] 112::Mp Try.prog 3 3 b2 (mdel a0_0_0 y9)::Mp Try.prog 3 3 b3 a0_1_0::L)) rfl Try.underlying110 Try.underlying3 rfl rfl rfl rfl hz15 ?_)
  refine TA.last rfl ?_
  refine TA.done (by kernel_rfl) ?_
  refine TQ.then_ ?_
  refine TC.seq ?_
  refine TC.regionAny [5] [0,1,2,3,4] mixed (by kernel_rfl) ?_
  refine TA.take 0 rfl (by kernel_rfl) rfl (PQ.then_ PQ.body) rfl (Val.move rfl) (fun W hO=>hO) ?_
  refine TA.take 1 rfl (by kernel_rfl) rfl (PQ.then_ PQ.body) rfl (Val.nilCheck rfl) (fun W hO=>hO) ?_
  refine TA.take 2 rfl (by kernel_rfl) rfl (PQ.then_ PQ.body) rfl (Val.fieldAddrB Try.underlying112 rfl fsz95 rfl rfl rfl) (fun W hO=>hO) ?_
  refine TA.take 3 rfl (by kernel_rfl) rfl (PQ.then_ PQ.body) rfl (Val.loadB 2 agg95 rfl rfl rfl) (fun W hO=>hO) ?_
  refine TA.take 4 rfl (by kernel_rfl) rfl (PQ.then_ PQ.body) rfl (Val.loadB 0 agg3 rfl rfl rfl) (fun W hO=>hO) ?_
  obtain ⟨hz17,h⟩:=ite_no h
  refine TA.eff 5 rfl (by kernel_rfl) rfl (TL.mapDelete 4 (L':=(Blk b11 [VI y9] 3::Blk b8 [VI a1.f0,VI a1.f1,VI a1.f2,VI a1.f3,VI a1.f4,.slice A4 a1.f5.length c5] 37::Blk b1 [.map (some b2),.map (some b3)] 112::Mp Try.prog 3 3 b2 (mdel a0_0_0 y9)::Mp Try.prog 3 3 b3 (mdel a0_1_0 y9)::L)) rfl Try.underlying95 Try.underlying3 rfl rfl rfl rfl hz17 ?_)
  refine TA.last rfl ?_
  refine TA.done (by kernel_rfl) ?_
  refine TQ.then_ ?_
  refine TC.seq ?_
  refine TC.region ?_
  refine TV rfl rfl rfl (Val.move rfl) ?_
  refine TV rfl rfl rfl (Val.nilCheck rfl) ?_
  refine TV rfl rfl rfl (Val.fieldAddrB Try.underlying112 rfl fsz95 rfl rfl rfl) ?_
  refine TV rfl rfl rfl (Val.loadB 2 agg95 rfl rfl rfl) ?_
  refine TV rfl rfl rfl (Val.makeFunc (xs:=[]) (ys:=[VP b11 0]) rfl rfl) ?_
  refine TK.sel (Ls:=[Mp Try.prog 3 3 b3 (mdel a0_1_0 y9),Blk b11 [VI y9] 3,Blk b8 [VI a1.f0,VI a1.f1,VI a1.f2,VI a1.f3,VI a1.f4,.slice A4 a1.f5.length c5] 37,Blk b1 [.map (some b2),.map (some b3)] 112,Mp Try.prog 3 3 b2 (mdel a0_0_0 y9)]) [4,0,1,2,3] 5 rfl rfl rfl ?_
  refine TL.cons (TL.callV (Lin:=[Mp Try.prog 3 3 b3 (mdel a0_1_0 y9),Blk b11 [VI y9] 3]) (args:=[.map (some b3),.func (.func 97) #[] #[VP b11 0]]) rfl rfl rfl hbd96 rfl rfl fold_del rfl ?_)
  rintro _ _ _ _ ⟨rfl,rfl,rfl⟩
  refine TL.nil ?_
  refine TQ.then_ ?_
  refine TC.block ?_
  refine TC.seq ?_
  refine TC.region ?_
  refine TV rfl rfl rfl (Val.fieldAddrB Try.underlying37 rfl fsz3 rfl rfl rfl) ?_
  refine TV rfl rfl rfl (Val.loadB 2 agg3 rfl rfl rfl) ?_
  refine TV rfl rfl rfl (Val.cmp rfl rfl run_eql) ?_
  refine TV rfl rfl rfl (Val.assign rfl) ?_
  refine TL.nil ?_
  refine TQ.then_ ?_
  refine TC.cond_p rfl h (fun hc66 h=>?_) (fun hc66 h=>?_)
  ·
   refine TC.regionAny [7] [0,1,2,3,4,5,6] mixed (by kernel_rfl) ?_
   refine TA.take 0 rfl (by kernel_rfl) rfl (PQ.inB PQ.body) rfl (Val.move rfl) (fun W hO=>hO) ?_
   refine TA.take 1 rfl (by kernel_rfl) rfl (PQ.inB PQ.body) rfl (Val.nilCheck rfl) (fun W hO=>hO) ?_
   refine TA.take 2 rfl (by kernel_rfl) rfl (PQ.inB PQ.body) rfl (Val.fieldAddrB Try.underlying112 rfl fsz110 rfl rfl rfl) (fun W hO=>hO) ?_
   refine TA.take 3 rfl (by kernel_rfl) rfl (PQ.inB PQ.body) rfl (Val.loadB 3 agg110 rfl rfl rfl) (fun W hO=>hO) ?_
   refine TA.take 4 rfl (by kernel_rfl) rfl (PQ.inB PQ.body) rfl (Val.loadB 1 agg3 rfl rfl rfl) (fun W hO=>hO) ?_
   refine TA.take 5 rfl (by kernel_rfl) rfl (PQ.inB PQ.body) rfl (Val.fieldAddrB Try.underlying37 rfl fsz3 rfl rfl rfl) (fun W hO=>hO) ?_
   refine TA.take 6 rfl (by kernel_rfl) rfl (PQ.inB PQ.body) rfl (Val.loadB 2 agg3 rfl rfl rfl) (fun W hO=>hO) ?_
   obtain ⟨hz68,h⟩:=ite_no h
   refine TA.eff 7 rfl (by kernel_rfl) rfl (TL.mapUpdate 4 (L':=(Mp Try.prog 3 3 b3 (mdelf (mdel a0_1_0 y9) (fun _ v=>decide (v=y9)))::Blk b11 [VI y9] 3::Blk b8 [VI a1.f0,VI a1.f1,VI a1.f2,VI a1.f3,VI a1.f4,.slice A4 a1.f5.length c5] 37::Blk b1 [.map (some b2),.map (some b3)] 112::Mp Try.prog 3 3 b2 (mput (mdel a0_0_0 y9) y9 a1.f4)::L)) rfl Try.underlying110 Try.underlying3 Try.underlying3 rfl rfl rfl rfl rfl hz68 ?_)
   refine TA.last rfl ?_
   refine TA.done (by kernel_rfl) ?_
   refine TQ.inB ?_
   obtain rfl:=Option.some.inj h
   exact TQ.fin (.inr rfl) rfl Try.results70 .nil rfl (FRel.mk (Ls:=[Blk b1 [.map (some b2),.map (some b3)] 112,Mp Try.prog 3 3 b2 (mput (mdel a0_0_0 y9) y9 a1.f4),Mp Try.prog 3 3 b3 (mdelf (mdel a0_1_0 y9) (fun _ v=>decide (v=y9)))]) [3,4,0] 5 (Gd.le.refl _) rfl rfl rfl ⟨rfl,rfl,rfl⟩)
  ·
   refine TC.seq ?_
   obtain ⟨j73,hj73,h⟩:=jn_no h
   refine TC.tail (fun a W=>∃ (x72:Bool),j73 x72=some r∧Fr 53 a [(0,VP b1 0),(3,VP b8 0),(4,VP b11 0),(36,.bool x72)]∧Own G (Blk b1 [.map (some b2),.map (some b3)] 112::Blk b11 [VI y9] 3::Mp Try.prog 3 3 b2 (mdel a0_0_0 y9)::Mp Try.prog 3 3 b3 (mdelf (mdel a0_1_0 y9) (fun _ v=>decide (v=y9)))::Blk b8 [VI a1.f0,VI a1.f1,VI a1.f2,VI a1.f3,VI a1.f4,.slice A4 a1.f5.length c5] 37::L) W) ?_ ?_
   ·
    rintro a W ⟨x72,h,hF,hO⟩
    rw [hj73] at h
    refine TQ.use ?_ hF hO
    clear hF hO
    refine TQ.then_ ?_
    refine TC.cond_b rfl h (fun hc77 h=>?_) (fun hc77 h=>?_)
    ·
     refine TC.regionAny [7] [0,1,2,3,4,5,6] mixed (by kernel_rfl) ?_
     refine TA.take 0 rfl (by kernel_rfl) rfl (PQ.inB PQ.body) rfl (Val.move rfl) (fun W hO=>hO) ?_
     refine TA.take 1 rfl (by kernel_rfl) rfl (PQ.inB PQ.body) rfl (Val.nilCheck rfl) (fun W hO=>hO) ?_
     refine TA.take 2 rfl (by kernel_rfl) rfl (PQ.inB PQ.body) rfl (Val.fieldAddrB Try.underlying112 rfl fsz95 rfl rfl rfl) (fun W hO=>hO) ?_
     refine TA.take 3 rfl (by kernel_rfl) rfl (PQ.inB PQ.body) rfl (Val.loadB 0 agg95 rfl rfl rfl) (fun W hO=>hO) ?_
     refine TA.take 4 rfl (by kernel_rfl) rfl (PQ.inB PQ.body) rfl (Val.loadB 1 agg3 rfl rfl rfl) (fun W hO=>hO) ?_
     refine TA.take 5 rfl (by kernel_rfl) rfl (PQ.inB PQ.body) rfl (Val.fieldAddrB Try.underlying37 rfl fsz3 rfl rfl rfl) (fun W hO=>hO) ?_
     refine TA.take 6 rfl (by kernel_rfl) rfl (PQ.inB PQ.body) rfl (Val.loadB 4 agg3 rfl rfl rfl) (fun W hO=>hO) ?_
     obtain ⟨hz79,h⟩:=ite_no h
     refine TA.eff 7 rfl (by kernel_rfl) rfl (TL.mapUpdate 3 (L':=(Blk b1 [.map (some b2),.map (some b3)] 112::Blk b11 [VI y9] 3::Mp Try.prog 3 3 b2 (mdel a0_0_0 y9)::Mp Try.prog 3 3 b3 (mput (mdelf (mdel a0_1_0 y9) (fun _ v=>decide (v=y9))) y9 a1.f2)::Blk b8 [VI a1.f0,VI a1.f1,VI a1.f2,VI a1.f3,VI a1.f4,.slice A4 a1.f5.length c5] 37::L)) rfl Try.underlying95 Try.underlying3 Try.underlying3 rfl rfl rfl rfl rfl hz79 ?_)
     refine TA.last rfl ?_
     refine TA.done (by kernel_rfl) ?_
     refine TQ.inB ?_
     obtain rfl:=Option.some.inj h
     exact TQ.fin (.inr rfl) rfl Try.results70 .nil rfl (FRel.mk (Ls:=[Blk b1 [.map (some b2),.map (some b3)] 112,Mp Try.prog 3 3 b2 (mdel a0_0_0 y9),Mp Try.prog 3 3 b3 (mput (mdelf (mdel a0_1_0 y9) (fun _ v=>decide (v=y9))) y9 a1.f2)]) [0,2,3] 5 (Gd.le.refl _) rfl rfl rfl ⟨rfl,rfl,rfl⟩)
    ·
     refine TC.skip ?_
     refine TQ.inB ?_
     obtain rfl:=Option.some.inj h
     exact TQ.fin (.inr rfl) rfl Try.results70 .nil rfl (FRel.mk (Ls:=[Blk b1 [.map (some b2),.map (some b3)] 112,Mp Try.prog 3 3 b2 (mdel a0_0_0 y9),Mp Try.prog 3 3 b3 (mdelf (mdel a0_1_0 y9) (fun _ v=>decide (v=y9)))]) [0,2,3] 5 (Gd.le.refl _) rfl rfl rfl ⟨rfl,rfl,rfl⟩)
   ·
    refine TC.region ?_
    refine TV rfl rfl rfl (Val.fieldAddrB Try.underlying37 rfl fsz3 rfl rfl rfl) ?_
    refine TV rfl rfl rfl (Val.loadB 2 agg3 rfl rfl rfl) ?_
    refine TV rfl rfl rfl (Val.cmp rfl rfl run_eql) ?_
    refine TV rfl rfl rfl (Val.move rfl) ?_
    refine TK.split (p:=a1.f0=3) h (fun hg80 h=>?_) (fun hg80 h=>?_)
    ·
     have hk81:decide (a1.f0=3)=true:=decide_eq_true hg80
     refine TV (Wt.yes rfl rfl rfl hk81) rfl rfl (Val.fieldAddrB Try.underlying37 rfl fsz3 rfl rfl rfl) ?_
     refine TV (Wt.yes rfl rfl rfl hk81) rfl rfl (Val.loadB 2 agg3 rfl rfl rfl) ?_
     refine TV (Wt.yes rfl rfl rfl hk81) rfl rfl (Val.loadB 1 agg3 rfl rfl rfl) ?_
     refine TV (Wt.yes rfl rfl rfl hk81) rfl rfl (Val.cmp rfl rfl run_neq) ?_
     refine TV rfl rfl rfl (Val.pickY rfl hk81 rfl) ?_
     refine TV rfl rfl rfl (Val.assign rfl) ?_
     refine TL.nil ?_
     exact fun a W hF hO=>⟨(!decide (a1.f2=y9)),h,hF.sub ⟨rfl,rfl,rfl,rfl,trivial⟩,hO.selT (Ls:=[Blk b1 [.map (some b2),.map (some b3)] 112,Blk b11 [VI y9] 3,Mp Try.prog 3 3 b2 (mdel a0_0_0 y9),Mp Try.prog 3 3 b3 (mdelf (mdel a0_1_0 y9) (fun _ v=>decide (v=y9))),Blk b8 [VI a1.f0,VI a1.f1,VI a1.f2,VI a1.f3,VI a1.f4,.slice A4 a1.f5.length c5] 37]) [3,1,4,0,2] 5 rfl rfl rfl⟩
    ·
     have hk82:decide (a1.f0=3)=false:=decide_eq_false hg80
     refine TL.cons (TL.not (Wt.no rfl rfl rfl hk82) rfl ?_)
     refine TL.cons (TL.not (Wt.no rfl rfl rfl hk82) rfl ?_)
     refine TL.cons (TL.not (Wt.no rfl rfl rfl hk82) rfl ?_)
     refine TL.cons (TL.not (Wt.no rfl rfl rfl hk82) rfl ?_)
     refine TV rfl rfl rfl (Val.pickN rfl hk82 rfl) ?_
     refine TV rfl rfl rfl (Val.assign rfl) ?_
     refine TL.nil ?_
     exact fun a W hF hO=>⟨false,h,hF.sub ⟨rfl,rfl,rfl,rfl,trivial⟩,hO.selT (Ls:=[Blk b1 [.map (some b2),.map (some b3)] 112,Blk b11 [VI y9] 3,Mp Try.prog 3 3 b2 (mdel a0_0_0 y9),Mp Try.prog 3 3 b3 (mdelf (mdel a0_1_0 y9) (fun _ v=>decide (v=y9))),Blk b8 [VI a1.f0,VI a1.f1,VI a1.f2,VI a1.f3,VI a1.f4,.slice A4 a1.f5.length c5] 37]) [3,1,4,0,2] 5 rfl rfl rfl⟩
def fold_facts_term.f (a0_0_0:MpS) (a0_1_0:MpS) (a1:S40):Option S40:=(code_TermUses.f a1).bind fun (y6:(List Int))=>jn (γ:=S40) (fun (x14:Int)=>(if wfi x14 then jn (γ:=S40) (fun (x34:Bool)=>(if x34=true then some (⟨a1.f0,x14,a1.f2,a1.f3⟩:S40) else (if (mget a0_0_0 x14)=0 then some (⟨1,0,a1.f3,0⟩:S40) else some (⟨1,0,a1.f2,0⟩:S40)))) (fun (j35:(Bool → Option S40))=>(if (!decide (a1.f0=2))=true then j35 true else j35 (!(mhas a0_0_0 x14)))) else none)) (fun (j15:(Int → Option S40))=>(if 0 < (y6.length:Int) then (fold_facts_held.f a0_0_0 a0_1_0 a1.f1).bind fun (y45:Int)=>j15 y45 else j15 a1.f1))
def fold_facts_term.post (G:Gd) (b1:Nat) (b2:Nat) (b3:Nat) (a0_0_0:MpS) (a0_1_0:MpS) (a1:S40) (r:S40) (v:Value) (G':Gd) (Lr:List Ch):Prop:=G=G'∧v=.agg #[VI r.f0,VI r.f1,VI r.f2,VI r.f3]∧Lr=[Blk b1 [.map (some b2),.map (some b3)] 112,Mp Try.prog 3 3 b2 a0_0_0,Mp Try.prog 3 3 b3 a0_1_0]
theorem fold_facts_term.calls {G:Gd} {r:S40} {a0_0_0:MpS} {a0_1_0:MpS} {a1:S40} {b1:Nat} {b2:Nat} {b3:Nat} (h:fold_facts_term.f a0_0_0 a0_1_0 a1=some r):Fn Try.prog 71 G [Blk b1 [.map (some b2),.map (some b3)] 112,Mp Try.prog 3 3 b2 a0_0_0,Mp Try.prog 3 3 b3 a0_1_0] [VP b1 0,.agg #[VI a1.f0,VI a1.f1,VI a1.f2,VI a1.f3]] (fold_facts_term.post G b1 b2 b3 a0_0_0 a0_1_0 a1 r):=by
 refine Fn.intro (e:=[(0,VP b1 0),(1,.agg #[VI a1.f0,VI a1.f1,VI a1.f2,VI a1.f3])]) 44 Try.func71 rfl Try.ntmps71 rfl rfl (Nat.le_of_ble_eq_true rfl) (fun L=>?_)
 unfold fold_facts_term.f at h
 refine TC.seq ?_
 refine TC.region ?_
 refine TL.cons (TL.box (cs:=[VI a1.f0,VI a1.f1,VI a1.f2,VI a1.f3]) rfl rfl rfl rfl (fun b4=>?_))
 refine TL.cons (TL.alloc (cs:=[VI 0,VI 0,VI 0,VI 0]) rfl rfl zr40 rfl (fun b5=>?_))
 refine TL.nil ?_
 refine TQ.then_ ?_
 refine TC.seq ?_
 refine TC.seq ?_
 refine TC.region ?_
 refine TV rfl rfl rfl (Val.loadsB 1 (cs:=[VI a1.f0,VI a1.f1,VI a1.f2,VI a1.f3]) agg40 fsz40 rfl rfl rfl rfl) ?_
 obtain ⟨y6,hy7,h⟩:=bind_no h
 refine TL.cons (TL.callV (Lin:=[]) (args:=[.agg #[VI a1.f0,VI a1.f1,VI a1.f2,VI a1.f3]]) rfl rfl rfl hbd80 rfl rfl (code_TermUses.calls (a0:=a1) hy7) rfl ?_)
 rintro _ _ _ _ ⟨rfl,A8,c9,rfl,rfl⟩
 refine TV rfl rfl rfl (Val.len Try.underlying23 rfl) ?_
 refine TV rfl rfl rfl (Val.cmp rfl rfl run_gtr) ?_
 refine TL.nil ?_
 refine TQ.then_ ?_
 obtain ⟨j15,hj15,h⟩:=jn_no h
 refine TC.tail (fun a W=>∃ (x14:Int),j15 x14=some r∧Fr 44 a [(0,VP b1 0),(3,VP b4 0),(4,VP b5 0)]∧Own G (Blk b1 [.map (some b2),.map (some b3)] 112::Mp Try.prog 3 3 b2 a0_0_0::Mp Try.prog 3 3 b3 a0_1_0::Blk b4 [VI a1.f0,VI x14,VI a1.f2,VI a1.f3] 40::Blk b5 [VI 0,VI 0,VI 0,VI 0] 40::L) W) ?_ ?_
 ·
  rintro a W ⟨x14,h,hF,hO⟩
  rw [hj15] at h
  refine TQ.use ?_ hF hO
  clear hF hO
  refine TQ.then_ ?_
  refine TC.seq ?_
  refine TC.regionAny [] [0,1,2,3,4,5,6,7,8,9,10,11] mixed (by kernel_rfl) ?_
  refine TA.take 0 rfl (by kernel_rfl) rfl (PQ.then_ PQ.body) rfl (Val.move rfl) (fun W hO=>hO) ?_
  refine TA.take 1 rfl (by kernel_rfl) rfl (PQ.then_ PQ.body) rfl (Val.nilCheck rfl) (fun W hO=>hO) ?_
  refine TA.take 2 rfl (by kernel_rfl) rfl (PQ.then_ PQ.body) rfl (Val.fieldAddrB Try.underlying112 rfl fsz110 rfl rfl rfl) (fun W hO=>hO) ?_
  refine TA.take 3 rfl (by kernel_rfl) rfl (PQ.then_ PQ.body) rfl (Val.loadB 0 agg110 rfl rfl rfl) (fun W hO=>hO) ?_
  refine TA.take 4 rfl (by kernel_rfl) rfl (PQ.then_ PQ.body) rfl (Val.fieldAddrB Try.underlying40 rfl fsz3 rfl rfl rfl) (fun W hO=>hO) ?_
  refine TA.take 5 rfl (by kernel_rfl) rfl (PQ.then_ PQ.body) rfl (Val.loadB 3 agg3 rfl rfl rfl) (fun W hO=>hO) ?_
  obtain ⟨hz17,h⟩:=ite_no h
  refine TA.take 6 rfl (by kernel_rfl) rfl (PQ.then_ PQ.body) rfl (Val.lookupOk 1 Try.underlying110 Try.underlying3 Try.underlying3 zr3 rfl rfl rfl hz17) (fun W hO=>hO) ?_
  refine TA.take 7 rfl (by kernel_rfl) rfl (PQ.then_ PQ.body) rfl (Val.move rfl) (fun W hO=>hO) ?_
  refine TA.take 8 rfl (by kernel_rfl) rfl (PQ.then_ PQ.body) rfl (Val.extract rfl rfl) (fun W hO=>hO) ?_
  refine TA.take 9 rfl (by kernel_rfl) rfl (PQ.then_ PQ.body) rfl (Val.extract rfl rfl) (fun W hO=>hO) ?_
  refine TA.take 10 rfl (by kernel_rfl) rfl (PQ.then_ PQ.body) rfl (Val.assign rfl) (fun W hO=>hO) ?_
  refine TA.take 11 rfl (by kernel_rfl) rfl (PQ.then_ PQ.body) rfl (Val.assign rfl) (fun W hO=>hO) ?_
  refine TA.done (by kernel_rfl) ?_
  refine TQ.then_ ?_
  refine TC.seq ?_
  refine TC.block ?_
  refine TC.seq ?_
  obtain ⟨j35,hj35,h⟩:=jn_no h
  refine TC.tail (fun a W=>∃ (x34:Bool),j35 x34=some r∧Fr 44 a [(3,VP b4 0),(4,VP b5 0),(5,VI (mget a0_0_0 x14)),(26,.bool x34)]∧Own G (Blk b1 [.map (some b2),.map (some b3)] 112::Mp Try.prog 3 3 b2 a0_0_0::Mp Try.prog 3 3 b3 a0_1_0::Blk b4 [VI a1.f0,VI x14,VI a1.f2,VI a1.f3] 40::Blk b5 [VI 0,VI 0,VI 0,VI 0] 40::L) W) ?_ ?_
  ·
   rintro a W ⟨x34,h,hF,hO⟩
   rw [hj35] at h
   refine TQ.use ?_ hF hO
   clear hF hO
   refine TQ.then_ ?_
   refine TC.cond_b rfl h (fun hc38 h=>?_) (fun hc38 h=>?_)
   ·
    refine TC.seq ?_
    refine TC.region ?_
    refine TV rfl rfl rfl (Val.loadsB 3 (cs:=[VI a1.f0,VI x14,VI a1.f2,VI a1.f3]) agg40 fsz40 rfl rfl rfl rfl) ?_
    refine TL.cons (TL.store 4 (ds:=[VI a1.f0,VI x14,VI a1.f2,VI a1.f3]) (cs':=[VI a1.f0,VI x14,VI a1.f2,VI a1.f3]) (L':=(Blk b1 [.map (some b2),.map (some b3)] 112::Mp Try.prog 3 3 b2 a0_0_0::Mp Try.prog 3 3 b3 a0_1_0::Blk b4 [VI a1.f0,VI x14,VI a1.f2,VI a1.f3] 40::Blk b5 [VI a1.f0,VI x14,VI a1.f2,VI a1.f3] 40::L)) rfl fsz40 rfl rfl rfl rfl rfl (Nat.le_of_ble_eq_true rfl) rfl rfl ?_)
    refine TL.nil ?_
    refine TQ.then_ ?_
    refine TC.ret ?_
    refine TQ.inBR ?_
    refine TQ.thenR ?_
    obtain rfl:=Option.some.inj h
    exact TQ.fin (.inl rfl) rfl Try.results71 (.cells 4 rfl rfl agg40 fsz40 .nil) rfl (FRel.mk (Ls:=[Blk b1 [.map (some b2),.map (some b3)] 112,Mp Try.prog 3 3 b2 a0_0_0,Mp Try.prog 3 3 b3 a0_1_0]) [0,1,2] 5 (Gd.le.refl _) rfl rfl rfl ⟨rfl,rfl,rfl⟩)
   ·
    refine TC.seq ?_
    refine TC.region ?_
    refine TV rfl rfl rfl (Val.move rfl) ?_
    refine TV rfl rfl rfl (Val.cmp rfl rfl run_eql) ?_
    refine TV rfl rfl rfl (Val.assign rfl) ?_
    refine TL.nil ?_
    refine TQ.then_ ?_
    refine TC.cond_p rfl h (fun hc40 h=>?_) (fun hc40 h=>?_)
    ·
     refine TC.seq ?_
     refine TC.region ?_
     refine TV rfl rfl rfl (Val.fieldAddrB Try.underlying40 rfl fsz3 rfl rfl rfl) ?_
     refine TV rfl rfl rfl (Val.loadB 3 agg3 rfl rfl rfl) ?_
     refine TV rfl rfl rfl (Val.build (cs:=[VI 1,VI 0,VI a1.f3,VI 0]) (is:=[0,2]) (xs:=[.const (VI 1),.tmp 39]) Try.underlying40 zr40 bld40 rfl rfl rfl rfl) ?_
     refine TL.cons (TL.store 4 (ds:=[VI 1,VI 0,VI a1.f3,VI 0]) (cs':=[VI 1,VI 0,VI a1.f3,VI 0]) (L':=(Blk b1 [.map (some b2),.map (some b3)] 112::Mp Try.prog 3 3 b2 a0_0_0::Mp Try.prog 3 3 b3 a0_1_0::Blk b4 [VI a1.f0,VI x14,VI a1.f2,VI a1.f3] 40::Blk b5 [VI 1,VI 0,VI a1.f3,VI 0] 40::L)) rfl fsz40 rfl rfl rfl rfl rfl (Nat.le_of_ble_eq_true rfl) rfl rfl ?_)
     refine TL.nil ?_
     refine TQ.then_ ?_
     refine TC.ret ?_
     refine TQ.inBR ?_
     refine TQ.thenR ?_
     obtain rfl:=Option.some.inj h
     exact TQ.fin (.inl rfl) rfl Try.results71 (.cells 4 rfl rfl agg40 fsz40 .nil) rfl (FRel.mk (Ls:=[Blk b1 [.map (some b2),.map (some b3)] 112,Mp Try.prog 3 3 b2 a0_0_0,Mp Try.prog 3 3 b3 a0_1_0]) [0,1,2] 5 (Gd.le.refl _) rfl rfl rfl ⟨rfl,rfl,rfl⟩)
    ·
     refine TC.skip ?_
     refine TQ.inB ?_
     refine TQ.then_ ?_
     refine TC.seq ?_
     refine TC.region ?_
     refine TV rfl rfl rfl (Val.fieldAddrB Try.underlying40 rfl fsz3 rfl rfl rfl) ?_
     refine TV rfl rfl rfl (Val.loadB 3 agg3 rfl rfl rfl) ?_
     refine TV rfl rfl rfl (Val.build (cs:=[VI 1,VI 0,VI a1.f2,VI 0]) (is:=[0,2]) (xs:=[.const (VI 1),.tmp 42]) Try.underlying40 zr40 bld40 rfl rfl rfl rfl) ?_
     refine TL.cons (TL.store 4 (ds:=[VI 1,VI 0,VI a1.f2,VI 0]) (cs':=[VI 1,VI 0,VI a1.f2,VI 0]) (L':=(Blk b1 [.map (some b2),.map (some b3)] 112::Mp Try.prog 3 3 b2 a0_0_0::Mp Try.prog 3 3 b3 a0_1_0::Blk b4 [VI a1.f0,VI x14,VI a1.f2,VI a1.f3] 40::Blk b5 [VI 1,VI 0,VI a1.f2,VI 0] 40::L)) rfl fsz40 rfl rfl rfl rfl rfl (Nat.le_of_ble_eq_true rfl) rfl rfl ?_)
     refine TL.nil ?_
     refine TQ.then_ ?_
     refine TC.ret ?_
     obtain rfl:=Option.some.inj h
     exact TQ.fin (.inl rfl) rfl Try.results71 (.cells 4 rfl rfl agg40 fsz40 .nil) rfl (FRel.mk (Ls:=[Blk b1 [.map (some b2),.map (some b3)] 112,Mp Try.prog 3 3 b2 a0_0_0,Mp Try.prog 3 3 b3 a0_1_0]) [0,1,2] 5 (Gd.le.refl _) rfl rfl rfl ⟨rfl,rfl,rfl⟩)
  ·
   refine TC.region ?_
   refine TV rfl rfl rfl (Val.fieldAddrB Try.underlying40 rfl fsz3 rfl rfl rfl) ?_
   refine TV rfl rfl rfl (Val.loadB 3 agg3 rfl rfl rfl) ?_
   refine TV rfl rfl rfl (Val.cmp rfl rfl run_neq) ?_
   refine TV rfl rfl rfl (Val.move rfl) ?_
   refine TK.split (p:=(!decide (a1.f0=2))=true) h (fun hg41 h=>?_) (fun hg41 h=>?_)
   ·
    have hk42:(!decide (a1.f0=2))=true:=hg41
    refine TL.cons (TL.not (Wt.no rfl rfl rfl hk42) rfl ?_)
    refine TL.cons (TL.not (Wt.no rfl rfl rfl hk42) rfl ?_)
    refine TV rfl rfl rfl (Val.pickY rfl hk42 rfl) ?_
    refine TV rfl rfl rfl (Val.assign rfl) ?_
    refine TL.nil ?_
    exact fun a W hF hO=>⟨true,h,hF.sub ⟨rfl,rfl,rfl,rfl,trivial⟩,hO.selT (Ls:=[Blk b1 [.map (some b2),.map (some b3)] 112,Mp Try.prog 3 3 b2 a0_0_0,Mp Try.prog 3 3 b3 a0_1_0,Blk b4 [VI a1.f0,VI x14,VI a1.f2,VI a1.f3] 40,Blk b5 [VI 0,VI 0,VI 0,VI 0] 40]) [0,1,2,3,4] 5 rfl rfl rfl⟩
   ·
    have hk43:(!decide (a1.f0=2))=false:=(by simpa using hg41)
    refine TV (Wt.yes rfl rfl rfl hk43) rfl rfl (Val.move rfl) ?_
    refine TV (Wt.yes rfl rfl rfl hk43) rfl rfl (Val.not_ rfl) ?_
    refine TV rfl rfl rfl (Val.pickN rfl hk43 rfl) ?_
    refine TV rfl rfl rfl (Val.assign rfl) ?_
    refine TL.nil ?_
    exact fun a W hF hO=>⟨(!(mhas a0_0_0 x14)),h,hF.sub ⟨rfl,rfl,rfl,rfl,trivial⟩,hO.selT (Ls:=[Blk b1 [.map (some b2),.map (some b3)] 112,Mp Try.prog 3 3 b2 a0_0_0,Mp Try.prog 3 3 b3 a0_1_0,Blk b4 [VI a1.f0,VI x14,VI a1.f2,VI a1.f3] 40,Blk b5 [VI 0,VI 0,VI 0,VI 0] 40]) [0,1,2,3,4] 5 rfl rfl rfl⟩
 ·
  refine TC.cond_p rfl h (fun hc44 h=>?_) (fun hc44 h=>?_)
  ·
   refine TC.region ?_
   refine TV rfl rfl rfl (Val.move rfl) ?_
   refine TV rfl rfl rfl (Val.fieldAddrB Try.underlying40 rfl fsz3 rfl rfl rfl) ?_
   refine TV rfl rfl rfl (Val.loadB 2 agg3 rfl rfl rfl) ?_
   refine TK.sel (Ls:=[Blk b1 [.map (some b2),.map (some b3)] 112,Mp Try.prog 3 3 b2 a0_0_0,Mp Try.prog 3 3 b3 a0_1_0,Row kI 3 (.slice A8 y6.length c9) y6,Blk b5 [VI 0,VI 0,VI 0,VI 0] 40,Blk b4 [VI a1.f0,VI a1.f1,VI a1.f2,VI a1.f3] 40]) [3,4,5,0,1,2] 6 rfl rfl rfl ?_
   obtain ⟨y45,hy46,h⟩:=bind_no h
   refine TL.cons (TL.callV (Lin:=[Blk b1 [.map (some b2),.map (some b3)] 112,Mp Try.prog 3 3 b2 a0_0_0,Mp Try.prog 3 3 b3 a0_1_0]) (args:=[VP b1 0,VI a1.f1]) rfl rfl rfl hbd95 rfl rfl (fold_facts_held.calls (a0_0_0:=a0_0_0) (a0_1_0:=a0_1_0) (a1:=a1.f1) hy46) rfl ?_)
   rintro _ _ _ _ ⟨rfl,rfl,rfl⟩
   refine TV rfl rfl rfl (Val.fieldAddrB Try.underlying40 rfl fsz3 rfl rfl rfl) ?_
   refine TL.cons (TL.store 5 (ds:=[VI y45]) (cs':=[VI a1.f0,VI y45,VI a1.f2,VI a1.f3]) (L':=(Blk b1 [.map (some b2),.map (some b3)] 112::Mp Try.prog 3 3 b2 a0_0_0::Mp Try.prog 3 3 b3 a0_1_0::Row kI 3 (.slice A8 y6.length c9) y6::Blk b5 [VI 0,VI 0,VI 0,VI 0] 40::Blk b4 [VI a1.f0,VI y45,VI a1.f2,VI a1.f3] 40::L)) rfl fsz3 rfl rfl rfl rfl rfl (Nat.le_of_ble_eq_true rfl) rfl rfl ?_)
   refine TL.nil ?_
   exact fun a W hF hO=>⟨y45,h,hF.sub ⟨rfl,rfl,rfl,trivial⟩,hO.selT (Ls:=[Blk b1 [.map (some b2),.map (some b3)] 112,Mp Try.prog 3 3 b2 a0_0_0,Mp Try.prog 3 3 b3 a0_1_0,Blk b4 [VI a1.f0,VI y45,VI a1.f2,VI a1.f3] 40,Blk b5 [VI 0,VI 0,VI 0,VI 0] 40]) [0,1,2,5,4] 6 rfl rfl rfl⟩
  ·
   refine TC.skip ?_
   exact fun a W hF hO=>⟨a1.f1,h,hF.sub ⟨rfl,rfl,rfl,trivial⟩,hO.selT (Ls:=[Blk b1 [.map (some b2),.map (some b3)] 112,Mp Try.prog 3 3 b2 a0_0_0,Mp Try.prog 3 3 b3 a0_1_0,Blk b4 [VI a1.f0,VI a1.f1,VI a1.f2,VI a1.f3] 40,Blk b5 [VI 0,VI 0,VI 0,VI 0] 40]) [3,4,5,2,1] 6 rfl rfl rfl⟩
def fold_Block.l0 (a0:S42):Nat → Int → (List S37) → MpS → MpS → Option ((List S37) × MpS × MpS)
 | 0,_,_,_,_=>none
 | n376 + 1,x248,l249,x253,x254=>(if x248 < (a0.f0.length:Int) then (at? a0.f0 x248).bind fun y548=>(fold_facts_replaced.f x253 x254 y548).bind fun (y577:S37)=>(fold_numbers_op.f x253 y577).bind fun (y585:S37)=>(fold_facts_learn.f x253 x254 y585).bind fun (y597:(MpS × MpS))=>(if l249.length < 2199023255552 then fold_Block.l0 a0 n376 (IntKind.i64.wrap (x248 + 1)) (l249 ++ [y585]) y597.1 y597.2 else none) else some (l249,x253,x254))
def fold_Block.f (a0:S42):Option S42:=(fold_Block.l0 a0 (a0.f0.length + 1) 0 [] mnil mnil).bind fun (l369,x373,x374)=>(fold_facts_term.f x373 x374 a0.f1).bind fun (y489:S40)=>some (⟨l369,y489⟩:S42)
def fold_Block.post (G:Gd)  (r:S42) (v:Value) (G':Gd) (Lr:List Ch):Prop:=∃ (A_1:Option Addr) (c_1:Nat),v=.agg #[.slice A_1 r.f0.length c_1,VI r.f1.f0,VI r.f1.f1,VI r.f1.f2,VI r.f1.f3]∧Lr=[Row (Sh G' k37) 37 (.slice A_1 r.f0.length c_1) r.f0]
theorem fold_Block.calls {G:Gd} {r:S42} {a0:S42} {A1:Option Addr} {c2:Nat} (hr3:Rd G k37 A1 a0.f0) (hl4:a0.f0.length ≤ c2) (h:fold_Block.f a0=some r):Fn Try.prog 45 G [] [.agg #[.slice A1 a0.f0.length c2,VI a0.f1.f0,VI a0.f1.f1,VI a0.f1.f2,VI a0.f1.f3]] (fold_Block.post G  r):=by
 refine Fn.intro (e:=[(0,.agg #[.slice A1 a0.f0.length c2,VI a0.f1.f0,VI a0.f1.f1,VI a0.f1.f2,VI a0.f1.f3])]) 42 Try.func45 rfl Try.ntmps45 rfl rfl (Nat.le_of_ble_eq_true rfl) (fun L=>?_)
 unfold fold_Block.f at h
 refine TC.seq ?_
 refine TC.region ?_
 refine TL.cons (TL.box (cs:=[.slice A1 a0.f0.length c2,VI a0.f1.f0,VI a0.f1.f1,VI a0.f1.f2,VI a0.f1.f3]) rfl rfl rfl rfl (fun b5=>?_))
 refine TL.cons (TL.alloc (cs:=[.slice none 0 0,VI 0,VI 0,VI 0,VI 0]) rfl rfl zr42 rfl (fun b6=>?_))
 refine TL.nil ?_
 refine TQ.then_ ?_
 refine TC.seq ?_
 refine TC.region ?_
 refine TL.cons (TL.makeMap (k:=3) (el:=3) rfl rfl (fun b7=>?_))
 refine TL.cons (TL.makeMap (k:=3) (el:=3) rfl rfl (fun b8=>?_))
 refine TV rfl rfl rfl (Val.build (cs:=[.map (some b7),.map (some b8)]) (is:=[0,1]) (xs:=[.tmp 7,.tmp 8]) Try.underlying112 zr112 bld112 rfl rfl rfl rfl) ?_
 refine TL.cons (TL.box (cs:=[.map (some b7),.map (some b8)]) rfl rfl rfl rfl (fun b9=>?_))
 refine TV rfl rfl rfl (Val.assign rfl) ?_
 refine TL.nil ?_
 refine TQ.then_ ?_
 refine TC.seq ?_
 refine TC.region ?_
 refine TL.cons (TL.alloc (cs:=[.slice none 0 0,VI 0,VI 0,VI 0,VI 0]) rfl rfl zr42 rfl (fun b10=>?_))
 refine TL.nil ?_
 refine TQ.then_ ?_
 refine TC.seq ?_
 refine TC.seq ?_
 refine TC.region ?_
 refine TV rfl rfl rfl (Val.fieldAddrB Try.underlying42 rfl fsz38 rfl rfl rfl) ?_
 refine TV rfl rfl rfl (Val.loadB 5 agg38 rfl rfl rfl) ?_
 refine TV rfl rfl rfl (Val.len Try.underlying38 rfl) ?_
 refine TV rfl rfl rfl (Val.move rfl) ?_
 refine TL.nil ?_
 refine TQ.then_ ?_
 obtain ⟨o375,ho375,ko375⟩:=bind_no h
 clear h
 refine TC.tail (fun a W=>∃ (l369:(List S37)) (x373:MpS) (x374:MpS) (G367:Gd) (A370:Option Addr) (c371:Nat),(l369,x373,x374)=o375∧G.le G367∧Fr 42 a [(1,VP b5 0),(2,VP b6 0),(3,VP b9 0),(4,VP b10 0)]∧Own G367 (Blk b10 [.slice A370 l369.length c371,VI 0,VI 0,VI 0,VI 0] 42::Blk b5 [.slice A1 a0.f0.length c2,VI a0.f1.f0,VI a0.f1.f1,VI a0.f1.f2,VI a0.f1.f3] 42::Blk b6 [.slice none 0 0,VI 0,VI 0,VI 0,VI 0] 42::Blk b9 [.map (some b7),.map (some b8)] 112::Mp Try.prog 3 3 b7 x373::Mp Try.prog 3 3 b8 x374::Row (Sh G367 k37) 37 (.slice A370 l369.length c371) l369::L) W) ?_ ?_
 ·
  rintro a W ⟨l369,x373,x374,G367,A370,c371,rfl,e368,hF,hO⟩
  have h:=ko375
  clear ko375 ho375
  refine TQ.use ?_ hF hO
  clear hF hO
  refine TQ.then_ ?_
  refine TC.seq ?_
  refine TC.region ?_
  refine TV rfl rfl rfl (Val.move rfl) ?_
  refine TV rfl rfl rfl (Val.fieldAddrB Try.underlying42 rfl fsz40 rfl rfl rfl) ?_
  refine TV rfl rfl rfl (Val.loadsB 1 (cs:=[VI a0.f1.f0,VI a0.f1.f1,VI a0.f1.f2,VI a0.f1.f3]) agg40 fsz40 rfl rfl rfl rfl) ?_
  refine TK.sel (Ls:=[Blk b9 [.map (some b7),.map (some b8)] 112,Mp Try.prog 3 3 b7 x373,Mp Try.prog 3 3 b8 x374,Blk b10 [.slice A370 l369.length c371,VI 0,VI 0,VI 0,VI 0] 42,Blk b5 [.slice A1 a0.f0.length c2,VI a0.f1.f0,VI a0.f1.f1,VI a0.f1.f2,VI a0.f1.f3] 42,Blk b6 [.slice none 0 0,VI 0,VI 0,VI 0,VI 0] 42,Row (Sh G367 k37) 37 (.slice A370 l369.length c371) l369]) [3,4,5,0,1,2,6] 7 rfl rfl rfl ?_
  obtain ⟨y489,hy490,h⟩:=bind_no h
  refine TL.cons (TL.callV (Lin:=[Blk b9 [.map (some b7),.map (some b8)] 112,Mp Try.prog 3 3 b7 x373,Mp Try.prog 3 3 b8 x374]) (args:=[VP b9 0,.agg #[VI a0.f1.f0,VI a0.f1.f1,VI a0.f1.f2,VI a0.f1.f3]]) rfl rfl rfl hbd71 rfl rfl (fold_facts_term.calls (a0_0_0:=x373) (a0_1_0:=x374) (a1:=a0.f1) hy490) rfl ?_)
  rintro _ _ _ _ ⟨rfl,rfl,rfl⟩
  refine TV rfl rfl rfl (Val.fieldAddrB Try.underlying42 rfl fsz40 rfl rfl rfl) ?_
  refine TL.cons (TL.store 3 (ds:=[VI y489.f0,VI y489.f1,VI y489.f2,VI y489.f3]) (cs':=[.slice A370 l369.length c371,VI y489.f0,VI y489.f1,VI y489.f2,VI y489.f3]) (L':=(Blk b9 [.map (some b7),.map (some b8)] 112::Mp Try.prog 3 3 b7 x373::Mp Try.prog 3 3 b8 x374::Blk b10 [.slice A370 l369.length c371,VI y489.f0,VI y489.f1,VI y489.f2,VI y489.f3] 42::Blk b5 [.slice A1 a0.f0.length c2,VI a0.f1.f0,VI a0.f1.f1,VI a0.f1.f2,VI a0.f1.f3] 42::Blk b6 [.slice none 0 0,VI 0,VI 0,VI 0,VI 0] 42::Row (Sh G367 k37) 37 (.slice A370 l369.length c371) l369::L)) rfl fsz40 rfl rfl rfl rfl rfl (Nat.le_of_ble_eq_true rfl) rfl rfl ?_)
  refine TL.nil ?_
  refine TQ.then_ ?_
  refine TC.seq ?_
  refine TC.region ?_
  refine TV rfl rfl rfl (Val.loadsB 3 (cs:=[.slice A370 l369.length c371,VI y489.f0,VI y489.f1,VI y489.f2,VI y489.f3]) agg42 fsz42 rfl rfl rfl rfl) ?_
  refine TL.cons (TL.store 5 (ds:=[.slice A370 l369.length c371,VI y489.f0,VI y489.f1,VI y489.f2,VI y489.f3]) (cs':=[.slice A370 l369.length c371,VI y489.f0,VI y489.f1,VI y489.f2,VI y489.f3]) (L':=(Blk b9 [.map (some b7),.map (some b8)] 112::Mp Try.prog 3 3 b7 x373::Mp Try.prog 3 3 b8 x374::Blk b10 [.slice A370 l369.length c371,VI y489.f0,VI y489.f1,VI y489.f2,VI y489.f3] 42::Blk b5 [.slice A1 a0.f0.length c2,VI a0.f1.f0,VI a0.f1.f1,VI a0.f1.f2,VI a0.f1.f3] 42::Blk b6 [.slice A370 l369.length c371,VI y489.f0,VI y489.f1,VI y489.f2,VI y489.f3] 42::Row (Sh G367 k37) 37 (.slice A370 l369.length c371) l369::L)) rfl fsz42 rfl rfl rfl rfl rfl (Nat.le_of_ble_eq_true rfl) rfl rfl ?_)
  refine TL.nil ?_
  refine TQ.then_ ?_
  refine TC.ret ?_
  obtain rfl:=Option.some.inj h
  exact TQ.fin (.inl rfl) rfl Try.results45 (.cells 5 rfl rfl agg42 fsz42 .nil) rfl (FRel.mk (Ls:=[Row (Sh G367 k37) 37 (.slice A370 l369.length c371) l369]) [6] 7 e368 rfl rfl rfl ⟨A370,c371,rfl,rfl⟩)
 ·
  refine TC.block ?_
  intro a W hF hO
  have hS:∃ (x248:Int) (l249:(List S37)) (x253:MpS) (x254:MpS) (G246:Gd) (A250:Option Addr) (c251:Nat),fold_Block.l0 a0 (a0.f0.length + 1) x248 l249 x253 x254=some o375∧G.le G246∧Fr 42 a [(1,VP b5 0),(2,VP b6 0),(3,VP b9 0),(4,VP b10 0),(12,.slice A1 a0.f0.length c2),(13,VI (a0.f0.length:Int)),(14,VI x248)]∧Own G246 (Blk b10 [.slice A250 l249.length c251,VI 0,VI 0,VI 0,VI 0] 42::Blk b5 [.slice A1 a0.f0.length c2,VI a0.f1.f0,VI a0.f1.f1,VI a0.f1.f2,VI a0.f1.f3] 42::Blk b6 [.slice none 0 0,VI 0,VI 0,VI 0,VI 0] 42::Blk b9 [.map (some b7),.map (some b8)] 112::Mp Try.prog 3 3 b7 x253::Mp Try.prog 3 3 b8 x254::Row (Sh G246 k37) 37 (.slice A250 l249.length c251) l249::L) W:=by
   exact ⟨0,[],mnil,mnil,G,none,0,ho375,(Gd.le.refl _),hF.sub ⟨rfl,rfl,rfl,rfl,rfl,rfl,rfl,trivial⟩,(Own.nilRow (Sh G k37) 37 hO).selT (Ls:=[Blk b10 [.slice none ([]:List S37).length 0,VI 0,VI 0,VI 0,VI 0] 42,Blk b5 [.slice A1 a0.f0.length c2,VI a0.f1.f0,VI a0.f1.f1,VI a0.f1.f2,VI a0.f1.f3] 42,Blk b6 [.slice none 0 0,VI 0,VI 0,VI 0,VI 0] 42,Blk b9 [.map (some b7),.map (some b8)] 112,Mp Try.prog 3 3 b7 mnil,Mp Try.prog 3 3 b8 mnil,Row (Sh G k37) 37 (.slice none ([]:List S37).length 0) ([]:List S37)]) [1,6,5,2,4,3,0] 7 rfl rfl rfl⟩
  clear hF hO ho375 ko375
  refine TC.loop (fun n376 a W=>∃ (x248:Int) (l249:(List S37)) (x253:MpS) (x254:MpS) (G246:Gd) (A250:Option Addr) (c251:Nat),fold_Block.l0 a0 n376 x248 l249 x253 x254=some o375∧G.le G246∧Fr 42 a [(1,VP b5 0),(2,VP b6 0),(3,VP b9 0),(4,VP b10 0),(12,.slice A1 a0.f0.length c2),(13,VI (a0.f0.length:Int)),(14,VI x248)]∧Own G246 (Blk b10 [.slice A250 l249.length c251,VI 0,VI 0,VI 0,VI 0] 42::Blk b5 [.slice A1 a0.f0.length c2,VI a0.f1.f0,VI a0.f1.f1,VI a0.f1.f2,VI a0.f1.f3] 42::Blk b6 [.slice none 0 0,VI 0,VI 0,VI 0,VI 0] 42::Blk b9 [.map (some b7),.map (some b8)] 112::Mp Try.prog 3 3 b7 x253::Mp Try.prog 3 3 b8 x254::Row (Sh G246 k37) 37 (.slice A250 l249.length c251) l249::L) W) ?_ ?_ hS
  ·
   rintro a W ⟨x248,l249,x253,x254,G246,A250,c251,h,e247,hF,hO⟩
   exact none_no h
  ·
   clear hS
   rintro n376 a W ⟨x248,l249,x253,x254,G246,A250,c251,h,e247,hF,hO⟩
   rw [fold_Block.l0] at h
   refine TC.use ?_ hF hO
   clear hF hO
   refine TC.seq ?_
   refine TC.region ?_
   refine TV rfl rfl rfl (Val.cmp rfl rfl run_lss) ?_
   refine TL.nil ?_
   refine TQ.then_ ?_
   refine TC.seq ?_
   refine TC.cond_p rfl h (fun hc492 h=>?_) (fun hc492 h=>?_)
   ·
    refine TC.skip ?_
    refine TQ.then_ ?_
    refine TC.seq ?_
    refine TC.block ?_
    refine TC.seq ?_
    refine TC.region ?_
    obtain ⟨y548,hx549,h⟩:=bind_no h
    obtain ⟨ad550,cs556,hA551,hi552,hj553,hcl554,hK555⟩:=Rd.at (hr3.up e247) hx549
    obtain ⟨A557,c558,rfl,hr559,hl560⟩:=k37_openR hK555
    refine TV rfl rfl rfl (Val.indexAddr Try.underlying38 fsz37 rfl hA551 rfl hi552 hj553) ?_
    refine TV rfl rfl rfl (Val.loadsS (cs:=[VI y548.f0,VI y548.f1,VI y548.f2,VI y548.f3,VI y548.f4,.slice A557 y548.f5.length c558]) agg37 fsz37 rfl rfl (Cl.sub (off:=0) (n:=6) hcl554 rfl)) ?_
    refine TL.cons (TL.alloc (cs:=[VI 0,VI 0,VI 0,VI 0,VI 0,.slice none 0 0]) rfl rfl zr37 rfl (fun b561=>?_))
    refine TL.cons (TL.store 0 (ds:=[VI y548.f0,VI y548.f1,VI y548.f2,VI y548.f3,VI y548.f4,.slice A557 y548.f5.length c558]) (cs':=[VI y548.f0,VI y548.f1,VI y548.f2,VI y548.f3,VI y548.f4,.slice A557 y548.f5.length c558]) (L':=(Blk b561 [VI y548.f0,VI y548.f1,VI y548.f2,VI y548.f3,VI y548.f4,.slice A557 y548.f5.length c558] 37::Blk b10 [.slice A250 l249.length c251,VI 0,VI 0,VI 0,VI 0] 42::Blk b5 [.slice A1 a0.f0.length c2,VI a0.f1.f0,VI a0.f1.f1,VI a0.f1.f2,VI a0.f1.f3] 42::Blk b6 [.slice none 0 0,VI 0,VI 0,VI 0,VI 0] 42::Blk b9 [.map (some b7),.map (some b8)] 112::Mp Try.prog 3 3 b7 x253::Mp Try.prog 3 3 b8 x254::Row (Sh G246 k37) 37 (.slice A250 l249.length c251) l249::L)) rfl fsz37 rfl rfl rfl rfl rfl (Nat.le_of_ble_eq_true rfl) rfl rfl ?_)
    refine TL.nil ?_
    refine TQ.then_ ?_
    refine TC.seq ?_
    refine TC.regionAny [8] [0,1,2,3,4,5] mixed (by kernel_rfl) ?_
    refine TA.take 0 rfl (by kernel_rfl) rfl (PQ.then_ (PQ.inB (PQ.then_ (PQ.then_ (PQ.inB (PQ.then_ (PQ.then_ PQ.body))))))) rfl (Val.move rfl) (fun W hO=>hO) ?_
    refine TA.take 1 rfl (by kernel_rfl) rfl (PQ.then_ (PQ.inB (PQ.then_ (PQ.then_ (PQ.inB (PQ.then_ (PQ.then_ PQ.body))))))) rfl (Val.nilCheck rfl) (fun W hO=>hO) ?_
    refine TA.take 2 rfl (by kernel_rfl) rfl (PQ.then_ (PQ.inB (PQ.then_ (PQ.then_ (PQ.inB (PQ.then_ (PQ.then_ PQ.body))))))) rfl (Val.fieldAddrB Try.underlying112 rfl fsz110 rfl rfl rfl) (fun W hO=>hO) ?_
    refine TA.take 3 rfl (by kernel_rfl) rfl (PQ.then_ (PQ.inB (PQ.then_ (PQ.then_ (PQ.inB (PQ.then_ (PQ.then_ PQ.body))))))) rfl (Val.loadB 4 agg110 rfl rfl rfl) (fun W hO=>hO) ?_
    refine TA.take 4 rfl (by kernel_rfl) rfl (PQ.then_ (PQ.inB (PQ.then_ (PQ.then_ (PQ.inB (PQ.then_ (PQ.then_ PQ.body))))))) rfl (Val.move rfl) (fun W hO=>hO) ?_
    refine TA.take 5 rfl (by kernel_rfl) rfl (PQ.then_ (PQ.inB (PQ.then_ (PQ.then_ (PQ.inB (PQ.then_ (PQ.then_ PQ.body))))))) rfl (Val.loadsB 0 (cs:=[VI y548.f0,VI y548.f1,VI y548.f2,VI y548.f3,VI y548.f4,.slice A557 y548.f5.length c558]) agg37 fsz37 rfl rfl rfl rfl) (fun W hO=>hO) ?_
    refine TK.sel (Ls:=[Blk b9 [.map (some b7),.map (some b8)] 112,Mp Try.prog 3 3 b7 x253,Mp Try.prog 3 3 b8 x254,Blk b561 [VI y548.f0,VI y548.f1,VI y548.f2,VI y548.f3,VI y548.f4,.slice A557 y548.f5.length c558] 37,Blk b10 [.slice A250 l249.length c251,VI 0,VI 0,VI 0,VI 0] 42,Blk b5 [.slice A1 a0.f0.length c2,VI a0.f1.f0,VI a0.f1.f1,VI a0.f1.f2,VI a0.f1.f3] 42,Blk b6 [.slice none 0 0,VI 0,VI 0,VI 0,VI 0] 42,Row (Sh G246 k37) 37 (.slice A250 l249.length c251) l249]) [4,5,6,0,1,2,3,7] 8 rfl rfl rfl ?_
    obtain ⟨y577,hy578,h⟩:=bind_no h
    refine TA.eff 6 rfl (by kernel_rfl) rfl (TL.callV (Lin:=[Blk b9 [.map (some b7),.map (some b8)] 112,Mp Try.prog 3 3 b7 x253,Mp Try.prog 3 3 b8 x254]) (args:=[VP b9 0,.agg #[VI y548.f0,VI y548.f1,VI y548.f2,VI y548.f3,VI y548.f4,.slice A557 y548.f5.length c558]]) rfl rfl rfl hbd69 rfl rfl (fold_facts_replaced.calls (a0_0_0:=x253) (a0_1_0:=x254) (a1:=y548) hr559 hl560 hy578) rfl ?_)
    rintro _ G579 _ e580 ⟨A581,c582,rfl,rfl,hr583,hl584⟩
    refine TA.next (fun W hO=>(Own.weak e580 hO).selT (Ls:=[Blk b561 [VI y548.f0,VI y548.f1,VI y548.f2,VI y548.f3,VI y548.f4,.slice A557 y548.f5.length c558] 37,Blk b10 [.slice A250 l249.length c251,VI 0,VI 0,VI 0,VI 0] 42,Blk b5 [.slice A1 a0.f0.length c2,VI a0.f1.f0,VI a0.f1.f1,VI a0.f1.f2,VI a0.f1.f3] 42,Blk b6 [.slice none 0 0,VI 0,VI 0,VI 0,VI 0] 42,Blk b9 [.map (some b7),.map (some b8)] 112,Mp Try.prog 3 3 b7 x253,Mp Try.prog 3 3 b8 x254,Row (Sh G246 k37) 37 (.slice A250 l249.length c251) l249]) [3,4,5,6,0,1,2,7] 8 rfl rfl rfl) ?_
    refine TK.sel (Ls:=[Mp Try.prog 3 3 b7 x253,Blk b9 [.map (some b7),.map (some b8)] 112,Mp Try.prog 3 3 b8 x254,Blk b561 [VI y548.f0,VI y548.f1,VI y548.f2,VI y548.f3,VI y548.f4,.slice A557 y548.f5.length c558] 37,Blk b10 [.slice A250 l249.length c251,VI 0,VI 0,VI 0,VI 0] 42,Blk b5 [.slice A1 a0.f0.length c2,VI a0.f1.f0,VI a0.f1.f1,VI a0.f1.f2,VI a0.f1.f3] 42,Blk b6 [.slice none 0 0,VI 0,VI 0,VI 0,VI 0] 42,Row (Sh G246 k37) 37 (.slice A250 l249.length c251) l249]) [1,0,2,3,4,5,6,7] 8 rfl rfl rfl ?_
    obtain ⟨y585,hy586,h⟩:=bind_no h
    refine TA.eff 7 rfl (by kernel_rfl) rfl (TL.callV (Lin:=[Mp Try.prog 3 3 b7 x253]) (args:=[.map (some b7),.agg #[VI y577.f0,VI y577.f1,VI y577.f2,VI y577.f3,VI y577.f4,.slice A581 y577.f5.length c582]]) rfl rfl rfl hbd68 rfl rfl (fold_numbers_op.calls (a0_0:=x253) (a1:=y577) hr583 hl584 hy586) rfl ?_)
    rintro _ G587 _ e588 ⟨A589,c590,rfl,rfl⟩
    refine TA.next (fun W hO=>(Own.weak e580 (Own.weak e588 hO)).selT (Ls:=[Blk b561 [VI y548.f0,VI y548.f1,VI y548.f2,VI y548.f3,VI y548.f4,.slice A557 y548.f5.length c558] 37,Blk b10 [.slice A250 l249.length c251,VI 0,VI 0,VI 0,VI 0] 42,Blk b5 [.slice A1 a0.f0.length c2,VI a0.f1.f0,VI a0.f1.f1,VI a0.f1.f2,VI a0.f1.f3] 42,Blk b6 [.slice none 0 0,VI 0,VI 0,VI 0,VI 0] 42,Blk b9 [.map (some b7),.map (some b8)] 112,Mp Try.prog 3 3 b7 x253,Mp Try.prog 3 3 b8 x254,Row (Sh G246 k37) 37 (.slice A250 l249.length c251) l249]) [4,5,6,7,2,0,3,8] 9 rfl rfl rfl) ?_
    refine TA.eff 8 rfl (by kernel_rfl) rfl (TL.store 4 (ds:=[VI y585.f0,VI y585.f1,VI y585.f2,VI y585.f3,VI y585.f4,.slice A589 y585.f5.length c590]) (cs':=[VI y585.f0,VI y585.f1,VI y585.f2,VI y585.f3,VI y585.f4,.slice A589 y585.f5.length c590]) (L':=(Mp Try.prog 3 3 b7 x253::Row kI 3 (.slice A589 y585.f5.length c590) y585.f5::Blk b9 [.map (some b7),.map (some b8)] 112::Mp Try.prog 3 3 b8 x254::Blk b561 [VI y585.f0,VI y585.f1,VI y585.f2,VI y585.f3,VI y585.f4,.slice A589 y585.f5.length c590] 37::Blk b10 [.slice A250 l249.length c251,VI 0,VI 0,VI 0,VI 0] 42::Blk b5 [.slice A1 a0.f0.length c2,VI a0.f1.f0,VI a0.f1.f1,VI a0.f1.f2,VI a0.f1.f3] 42::Blk b6 [.slice none 0 0,VI 0,VI 0,VI 0,VI 0] 42::Row (Sh G246 k37) 37 (.slice A250 l249.length c251) l249::L)) rfl fsz37 rfl rfl rfl rfl rfl (Nat.le_of_ble_eq_true rfl) rfl rfl ?_)
    refine TA.last rfl ?_
    refine TA.done (by kernel_rfl) ?_
    refine TQ.then_ ?_
    refine TC.seq ?_
    refine TC.region ?_
    refine TV rfl rfl rfl (Val.move rfl) ?_
    refine TV rfl rfl rfl (Val.loadsB 4 (cs:=[VI y585.f0,VI y585.f1,VI y585.f2,VI y585.f3,VI y585.f4,.slice A589 y585.f5.length c590]) agg37 fsz37 rfl rfl rfl rfl) ?_
    refine TK.sel (Ls:=[Row kI 3 (.slice A589 y585.f5.length c590) y585.f5,Mp Try.prog 3 3 b7 x253,Blk b9 [.map (some b7),.map (some b8)] 112,Mp Try.prog 3 3 b8 x254,Blk b561 [VI y585.f0,VI y585.f1,VI y585.f2,VI y585.f3,VI y585.f4,.slice A589 y585.f5.length c590] 37,Blk b10 [.slice A250 l249.length c251,VI 0,VI 0,VI 0,VI 0] 42,Blk b5 [.slice A1 a0.f0.length c2,VI a0.f1.f0,VI a0.f1.f1,VI a0.f1.f2,VI a0.f1.f3] 42,Blk b6 [.slice none 0 0,VI 0,VI 0,VI 0,VI 0] 42,Row (Sh G246 k37) 37 (.slice A250 l249.length c251) l249]) [1,0,2,3,4,5,6,7,8] 9 rfl rfl rfl ?_
    refine TK.share (fun G592 e593 hs594 _=>?_)
    have rd595:Rd G592 kI A589 y585.f5:=Rd.row hs594
    have le596:y585.f5.length ≤ c590:=Row.le hs594
    refine TK.sel (Ls:=[Blk b9 [.map (some b7),.map (some b8)] 112,Mp Try.prog 3 3 b7 x253,Mp Try.prog 3 3 b8 x254,Blk b561 [VI y585.f0,VI y585.f1,VI y585.f2,VI y585.f3,VI y585.f4,.slice A589 y585.f5.length c590] 37,Blk b10 [.slice A250 l249.length c251,VI 0,VI 0,VI 0,VI 0] 42,Blk b5 [.slice A1 a0.f0.length c2,VI a0.f1.f0,VI a0.f1.f1,VI a0.f1.f2,VI a0.f1.f3] 42,Blk b6 [.slice none 0 0,VI 0,VI 0,VI 0,VI 0] 42,Row (Sh G246 k37) 37 (.slice A250 l249.length c251) l249]) [1,0,2,3,4,5,6,7] 8 rfl rfl rfl ?_
    obtain ⟨y597,hy598,h⟩:=bind_no h
    refine TL.cons (TL.callV (Lin:=[Blk b9 [.map (some b7),.map (some b8)] 112,Mp Try.prog 3 3 b7 x253,Mp Try.prog 3 3 b8 x254]) (args:=[VP b9 0,.agg #[VI y585.f0,VI y585.f1,VI y585.f2,VI y585.f3,VI y585.f4,.slice A589 y585.f5.length c590]]) rfl rfl rfl hbd70 rfl rfl (fold_facts_learn.calls (a0_0_0:=x253) (a0_1_0:=x254) (a1:=y585) rd595 le596 hy598) rfl ?_)
    rintro _ _ _ _ ⟨rfl,rfl,rfl⟩
    refine TL.nil ?_
    refine TQ.then_ ?_
    refine TC.region ?_
    refine TV rfl rfl rfl (Val.fieldAddrB Try.underlying42 rfl fsz38 rfl rfl rfl) ?_
    refine TV rfl rfl rfl (Val.loadB 4 agg38 rfl rfl rfl) ?_
    refine TV rfl rfl rfl (Val.loadsB 3 (cs:=[VI y585.f0,VI y585.f1,VI y585.f2,VI y585.f3,VI y585.f4,.slice A589 y585.f5.length c590]) agg37 fsz37 rfl rfl rfl rfl) ?_
    refine TL.cons (TL.buildSlice (xs:=[.tmp 31]) (vs:=[.agg #[VI y585.f0,VI y585.f1,VI y585.f2,VI y585.f3,VI y585.f4,.slice A589 y585.f5.length c590]]) (cs:=[VI y585.f0,VI y585.f1,VI y585.f2,VI y585.f3,VI y585.f4,.slice A589 y585.f5.length c590]) rfl rfl Try.underlying38 zs37 rfl rfl rfl rfl rfl rfl rfl rfl (fun b599=>?_))
    refine TK.new (El.of (k:=(Sh G592 k37)) (xv:=y585) (cs:=[VI y585.f0,VI y585.f1,VI y585.f2,VI y585.f3,VI y585.f4,.slice A589 y585.f5.length c590]) (fun W B=>Sh.mk (fun W hW=>k37_mk W y585 le596 (rd595 W hW)) W B _)) ?_
    refine TK.sel (Ls:=[Row (Sh G246 k37) 37 (.slice A250 l249.length c251) l249,El (Sh G592 k37) y585 [VI y585.f0,VI y585.f1,VI y585.f2,VI y585.f3,VI y585.f4,.slice A589 y585.f5.length c590],Blk b599 [VI y585.f0,VI y585.f1,VI y585.f2,VI y585.f3,VI y585.f4,.slice A589 y585.f5.length c590] 37,Blk b9 [.map (some b7),.map (some b8)] 112,Mp Try.prog 3 3 b7 y597.1,Mp Try.prog 3 3 b8 y597.2,Blk b561 [VI y585.f0,VI y585.f1,VI y585.f2,VI y585.f3,VI y585.f4,.slice A589 y585.f5.length c590] 37,Blk b10 [.slice A250 l249.length c251,VI 0,VI 0,VI 0,VI 0] 42,Blk b5 [.slice A1 a0.f0.length c2,VI a0.f1.f0,VI a0.f1.f1,VI a0.f1.f2,VI a0.f1.f3] 42,Blk b6 [.slice none 0 0,VI 0,VI 0,VI 0,VI 0] 42]) [9,0,1,2,3,4,5,6,7,8] 10 rfl rfl rfl ?_
    refine TK.conv (ch':=Row (Sh G592 k37) 37 (.slice A250 l249.length c251) l249) (fun B W F hh=>Row.sh (Gd.le.trans (Gd.le.trans e580 e588) e593) B W F hh) ?_
    refine TK.sel (Ls:=[El (Sh G592 k37) y585 [VI y585.f0,VI y585.f1,VI y585.f2,VI y585.f3,VI y585.f4,.slice A589 y585.f5.length c590],Row (Sh G592 k37) 37 (.slice A250 l249.length c251) l249,Blk b599 [VI y585.f0,VI y585.f1,VI y585.f2,VI y585.f3,VI y585.f4,.slice A589 y585.f5.length c590] 37,Blk b9 [.map (some b7),.map (some b8)] 112,Mp Try.prog 3 3 b7 y597.1,Mp Try.prog 3 3 b8 y597.2,Blk b561 [VI y585.f0,VI y585.f1,VI y585.f2,VI y585.f3,VI y585.f4,.slice A589 y585.f5.length c590] 37,Blk b10 [.slice A250 l249.length c251,VI 0,VI 0,VI 0,VI 0] 42,Blk b5 [.slice A1 a0.f0.length c2,VI a0.f1.f0,VI a0.f1.f1,VI a0.f1.f2,VI a0.f1.f3] 42,Blk b6 [.slice none 0 0,VI 0,VI 0,VI 0,VI 0] 42]) [1,0,2,3,4,5,6,7,8,9] 10 rfl rfl rfl ?_
    refine TK.sel (Ls:=[Row (Sh G592 k37) 37 (.slice A250 l249.length c251) l249,El (Sh G592 k37) y585 [VI y585.f0,VI y585.f1,VI y585.f2,VI y585.f3,VI y585.f4,.slice A589 y585.f5.length c590],Blk b599 [VI y585.f0,VI y585.f1,VI y585.f2,VI y585.f3,VI y585.f4,.slice A589 y585.f5.length c590] 37,Blk b9 [.map (some b7),.map (some b8)] 112,Mp Try.prog 3 3 b7 y597.1,Mp Try.prog 3 3 b8 y597.2,Blk b561 [VI y585.f0,VI y585.f1,VI y585.f2,VI y585.f3,VI y585.f4,.slice A589 y585.f5.length c590] 37,Blk b10 [.slice A250 l249.length c251,VI 0,VI 0,VI 0,VI 0] 42,Blk b5 [.slice A1 a0.f0.length c2,VI a0.f1.f0,VI a0.f1.f1,VI a0.f1.f2,VI a0.f1.f3] 42,Blk b6 [.slice none 0 0,VI 0,VI 0,VI 0,VI 0] 42]) [1,0,2,3,4,5,6,7,8,9] 10 rfl rfl rfl ?_
    obtain ⟨ha600,h⟩:=ite_no h
    refine TL.cons (TL.append (xs:=l249) (Sh G592 k37) rfl rfl Try.underlying38 inf37 rfl (Nat.le_of_ble_eq_true rfl) (Nat.le_of_ble_eq_true rfl) rfl rfl (by omega) (fun A601 c602=>?_))
    refine TV rfl rfl rfl (Val.fieldAddrB Try.underlying42 rfl fsz38 rfl rfl rfl) ?_
    refine TL.cons (TL.store 5 (ds:=[.slice A601 (l249 ++ [y585]).length c602]) (cs':=[.slice A601 (l249 ++ [y585]).length c602,VI 0,VI 0,VI 0,VI 0]) (L':=(Row (Sh G592 k37) 37 (.slice A601 (l249 ++ [y585]).length c602) (l249 ++ [y585])::Blk b9 [.map (some b7),.map (some b8)] 112::Mp Try.prog 3 3 b7 y597.1::Mp Try.prog 3 3 b8 y597.2::Blk b561 [VI y585.f0,VI y585.f1,VI y585.f2,VI y585.f3,VI y585.f4,.slice A589 y585.f5.length c590] 37::Blk b10 [.slice A601 (l249 ++ [y585]).length c602,VI 0,VI 0,VI 0,VI 0] 42::Blk b5 [.slice A1 a0.f0.length c2,VI a0.f1.f0,VI a0.f1.f1,VI a0.f1.f2,VI a0.f1.f3] 42::Blk b6 [.slice none 0 0,VI 0,VI 0,VI 0,VI 0] 42::L)) rfl fsz38 rfl rfl rfl rfl rfl (Nat.le_of_ble_eq_true rfl) rfl rfl ?_)
    refine TL.nil ?_
    refine TQ.inB ?_
    refine TQ.then_ ?_
    refine TC.region ?_
    refine TV rfl rfl rfl (Val.cmp rfl rfl run_add) ?_
    refine TV rfl rfl rfl (Val.move rfl) ?_
    refine TL.nil ?_
    exact fun a W hF hO=>⟨IntKind.i64.wrap (x248 + 1),(l249 ++ [y585]),y597.1,y597.2,G592,A601,c602,h,(Gd.le.trans (Gd.le.trans (Gd.le.trans e247 e580) e588) e593),hF.sub ⟨rfl,rfl,rfl,rfl,rfl,rfl,rfl,trivial⟩,hO.selT (Ls:=[Blk b10 [.slice A601 (l249 ++ [y585]).length c602,VI 0,VI 0,VI 0,VI 0] 42,Blk b5 [.slice A1 a0.f0.length c2,VI a0.f1.f0,VI a0.f1.f1,VI a0.f1.f2,VI a0.f1.f3] 42,Blk b6 [.slice none 0 0,VI 0,VI 0,VI 0,VI 0] 42,Blk b9 [.map (some b7),.map (some b8)] 112,Mp Try.prog 3 3 b7 y597.1,Mp Try.prog 3 3 b8 y597.2,Row (Sh G592 k37) 37 (.slice A601 (l249 ++ [y585]).length c602) (l249 ++ [y585])]) [5,6,7,1,2,3,0] 8 rfl rfl rfl⟩
   ·
    refine TC.exit ?_
    refine TQ.thenX ?_
    refine TQ.thenX ?_
    refine TQ.inBX ?_
    exact fun a W hF hO=>⟨l249,x253,x254,G246,A250,c251,Option.some.inj h,e247,hF.sub ⟨rfl,rfl,rfl,rfl,trivial⟩,hO.selT (Ls:=[Blk b10 [.slice A250 l249.length c251,VI 0,VI 0,VI 0,VI 0] 42,Blk b5 [.slice A1 a0.f0.length c2,VI a0.f1.f0,VI a0.f1.f1,VI a0.f1.f2,VI a0.f1.f3] 42,Blk b6 [.slice none 0 0,VI 0,VI 0,VI 0,VI 0] 42,Blk b9 [.map (some b7),.map (some b8)] 112,Mp Try.prog 3 3 b7 x253,Mp Try.prog 3 3 b8 x254,Row (Sh G246 k37) 37 (.slice A250 l249.length c251) l249]) [0,1,2,3,4,5,6] 7 rfl rfl rfl⟩
def swagelaw24_some.f:Option S42:=some (⟨([(⟨1,1,0,0,4,([]:List Int)⟩:S37),(⟨3,2,1,0,0,([]:List Int)⟩:S37),(⟨2,3,2,1,1,([]:List Int)⟩:S37)]:List S37),(⟨2,3,1,2⟩:S40)⟩:S42)
def swagelaw24_some.post (G:Gd)  (r:S42) (v:Value) (G':Gd) (Lr:List Ch):Prop:=G=G'∧∃ (A_1:Option Addr) (c_1:Nat),v=.agg #[.slice A_1 r.f0.length c_1,VI r.f1.f0,VI r.f1.f1,VI r.f1.f2,VI r.f1.f3]∧Lr=[Row k37 37 (.slice A_1 r.f0.length c_1) r.f0]
theorem swagelaw24_some.calls {G:Gd} {r:S42} (h:swagelaw24_some.f=some r):Fn Try.prog 46 G [] [] (swagelaw24_some.post G  r):=by
 refine Fn.intro (e:=[]) 7 Try.func46 rfl Try.ntmps46 rfl rfl (Nat.le_of_ble_eq_true rfl) (fun L=>?_)
 unfold swagelaw24_some.f at h
 refine TC.seq ?_
 refine TC.region ?_
 refine TL.cons (TL.alloc (cs:=[.slice none 0 0,VI 0,VI 0,VI 0,VI 0]) rfl rfl zr42 rfl (fun b1=>?_))
 refine TL.nil ?_
 refine TQ.then_ ?_
 refine TC.seq ?_
 refine TC.region ?_
 refine TV rfl rfl rfl (Val.build (cs:=[VI 1,VI 1,VI 0,VI 0,VI 4,.slice none 0 0]) (is:=[0,1,4]) (xs:=[.const (VI 1),.const (VI 1),.const (VI 4)]) Try.underlying37 zr37 bld37 rfl rfl rfl rfl) ?_
 refine TV rfl rfl rfl (Val.build (cs:=[VI 3,VI 2,VI 1,VI 0,VI 0,.slice none 0 0]) (is:=[0,1,2]) (xs:=[.const (VI 3),.const (VI 2),.const (VI 1)]) Try.underlying37 zr37 bld37 rfl rfl rfl rfl) ?_
 refine TV rfl rfl rfl (Val.build (cs:=[VI 2,VI 3,VI 2,VI 1,VI 1,.slice none 0 0]) (is:=[0,1,2,3,4]) (xs:=[.const (VI 2),.const (VI 3),.const (VI 2),.const (VI 1),.const (VI 1)]) Try.underlying37 zr37 bld37 rfl rfl rfl rfl) ?_
 refine TL.cons (TL.buildSlice (xs:=[.tmp 1,.tmp 2,.tmp 3]) (vs:=[.agg #[VI 1,VI 1,VI 0,VI 0,VI 4,.slice none 0 0],.agg #[VI 3,VI 2,VI 1,VI 0,VI 0,.slice none 0 0],.agg #[VI 2,VI 3,VI 2,VI 1,VI 1,.slice none 0 0]]) (cs:=[VI 1,VI 1,VI 0,VI 0,VI 4,.slice none 0 0,VI 3,VI 2,VI 1,VI 0,VI 0,.slice none 0 0,VI 2,VI 3,VI 2,VI 1,VI 1,.slice none 0 0]) rfl rfl Try.underlying38 zs37 rfl rfl rfl rfl rfl rfl rfl rfl (fun b2=>?_))
 refine TV rfl rfl rfl (Val.build (cs:=[VI 2,VI 3,VI 1,VI 2]) (is:=[0,1,2,3]) (xs:=[.const (VI 2),.const (VI 3),.const (VI 1),.const (VI 2)]) Try.underlying40 zr40 bld40 rfl rfl rfl rfl) ?_
 refine TV rfl rfl rfl (Val.build (cs:=[.slice (some ⟨b2,0,none⟩) 3 3,VI 2,VI 3,VI 1,VI 2]) (is:=[0,1]) (xs:=[.tmp 4,.tmp 5]) Try.underlying42 zr42 bld42 rfl rfl rfl rfl) ?_
 refine TL.cons (TL.store 1 (ds:=[.slice (some ⟨b2,0,none⟩) 3 3,VI 2,VI 3,VI 1,VI 2]) (cs':=[.slice (some ⟨b2,0,none⟩) 3 3,VI 2,VI 3,VI 1,VI 2]) (L':=(Blk b2 [VI 1,VI 1,VI 0,VI 0,VI 4,.slice none 0 0,VI 3,VI 2,VI 1,VI 0,VI 0,.slice none 0 0,VI 2,VI 3,VI 2,VI 1,VI 1,.slice none 0 0] 37::Blk b1 [.slice (some ⟨b2,0,none⟩) 3 3,VI 2,VI 3,VI 1,VI 2] 42::L)) rfl fsz42 rfl rfl rfl rfl rfl (Nat.le_of_ble_eq_true rfl) rfl rfl ?_)
 refine TL.nil ?_
 refine TQ.then_ ?_
 refine TC.ret ?_
 refine TQ.new (Els.nil k37) ?_
 refine TQ.new (Row.nil kI 3) ?_
 refine TQ.conv (ch':=El k37 (⟨1,1,0,0,4,([]:List Int)⟩:S37) [VI 1,VI 1,VI 0,VI 0,VI 4,.slice none 0 0]) (fun B W F hh=>k37_mkM W B F (⟨1,1,0,0,4,([]:List Int)⟩:S37) hh) ?_
 refine TQ.sel (Ls:=[Els k37 [] [],El k37 (⟨1,1,0,0,4,([]:List Int)⟩:S37) [VI 1,VI 1,VI 0,VI 0,VI 4,.slice none 0 0],Blk b2 [VI 1,VI 1,VI 0,VI 0,VI 4,.slice none 0 0,VI 3,VI 2,VI 1,VI 0,VI 0,.slice none 0 0,VI 2,VI 3,VI 2,VI 1,VI 1,.slice none 0 0] 37,Blk b1 [.slice (some ⟨b2,0,none⟩) 3 3,VI 2,VI 3,VI 1,VI 2] 42]) [1,0,2,3] 4 rfl rfl rfl ?_
 refine TQ.two (ch:=Els k37 [(⟨1,1,0,0,4,([]:List Int)⟩:S37)] [VI 1,VI 1,VI 0,VI 0,VI 4,.slice none 0 0]) (Els.snoc k37) ?_
 refine TQ.new (Row.nil kI 3) ?_
 refine TQ.conv (ch':=El k37 (⟨3,2,1,0,0,([]:List Int)⟩:S37) [VI 3,VI 2,VI 1,VI 0,VI 0,.slice none 0 0]) (fun B W F hh=>k37_mkM W B F (⟨3,2,1,0,0,([]:List Int)⟩:S37) hh) ?_
 refine TQ.sel (Ls:=[Els k37 [(⟨1,1,0,0,4,([]:List Int)⟩:S37)] [VI 1,VI 1,VI 0,VI 0,VI 4,.slice none 0 0],El k37 (⟨3,2,1,0,0,([]:List Int)⟩:S37) [VI 3,VI 2,VI 1,VI 0,VI 0,.slice none 0 0],Blk b2 [VI 1,VI 1,VI 0,VI 0,VI 4,.slice none 0 0,VI 3,VI 2,VI 1,VI 0,VI 0,.slice none 0 0,VI 2,VI 3,VI 2,VI 1,VI 1,.slice none 0 0] 37,Blk b1 [.slice (some ⟨b2,0,none⟩) 3 3,VI 2,VI 3,VI 1,VI 2] 42]) [1,0,2,3] 4 rfl rfl rfl ?_
 refine TQ.two (ch:=Els k37 [(⟨1,1,0,0,4,([]:List Int)⟩:S37),(⟨3,2,1,0,0,([]:List Int)⟩:S37)] [VI 1,VI 1,VI 0,VI 0,VI 4,.slice none 0 0,VI 3,VI 2,VI 1,VI 0,VI 0,.slice none 0 0]) (Els.snoc k37) ?_
 refine TQ.new (Row.nil kI 3) ?_
 refine TQ.conv (ch':=El k37 (⟨2,3,2,1,1,([]:List Int)⟩:S37) [VI 2,VI 3,VI 2,VI 1,VI 1,.slice none 0 0]) (fun B W F hh=>k37_mkM W B F (⟨2,3,2,1,1,([]:List Int)⟩:S37) hh) ?_
 refine TQ.sel (Ls:=[Els k37 [(⟨1,1,0,0,4,([]:List Int)⟩:S37),(⟨3,2,1,0,0,([]:List Int)⟩:S37)] [VI 1,VI 1,VI 0,VI 0,VI 4,.slice none 0 0,VI 3,VI 2,VI 1,VI 0,VI 0,.slice none 0 0],El k37 (⟨2,3,2,1,1,([]:List Int)⟩:S37) [VI 2,VI 3,VI 2,VI 1,VI 1,.slice none 0 0],Blk b2 [VI 1,VI 1,VI 0,VI 0,VI 4,.slice none 0 0,VI 3,VI 2,VI 1,VI 0,VI 0,.slice none 0 0,VI 2,VI 3,VI 2,VI 1,VI 1,.slice none 0 0] 37,Blk b1 [.slice (some ⟨b2,0,none⟩) 3 3,VI 2,VI 3,VI 1,VI 2] 42]) [1,0,2,3] 4 rfl rfl rfl ?_
 refine TQ.two (ch:=Els k37 [(⟨1,1,0,0,4,([]:List Int)⟩:S37),(⟨3,2,1,0,0,([]:List Int)⟩:S37),(⟨2,3,2,1,1,([]:List Int)⟩:S37)] [VI 1,VI 1,VI 0,VI 0,VI 4,.slice none 0 0,VI 3,VI 2,VI 1,VI 0,VI 0,.slice none 0 0,VI 2,VI 3,VI 2,VI 1,VI 1,.slice none 0 0]) (Els.snoc k37) ?_
 refine TQ.sel (Ls:=[Blk b2 [VI 1,VI 1,VI 0,VI 0,VI 4,.slice none 0 0,VI 3,VI 2,VI 1,VI 0,VI 0,.slice none 0 0,VI 2,VI 3,VI 2,VI 1,VI 1,.slice none 0 0] 37,Els k37 [(⟨1,1,0,0,4,([]:List Int)⟩:S37),(⟨3,2,1,0,0,([]:List Int)⟩:S37),(⟨2,3,2,1,1,([]:List Int)⟩:S37)] [VI 1,VI 1,VI 0,VI 0,VI 4,.slice none 0 0,VI 3,VI 2,VI 1,VI 0,VI 0,.slice none 0 0,VI 2,VI 3,VI 2,VI 1,VI 1,.slice none 0 0],Blk b1 [.slice (some ⟨b2,0,none⟩) 3 3,VI 2,VI 3,VI 1,VI 2] 42]) [1,0,2] 3 rfl rfl rfl ?_
 refine TQ.two (ch:=Row k37 37 (.slice (some ⟨b2,0,none⟩) 3 3) ([(⟨1,1,0,0,4,([]:List Int)⟩:S37),(⟨3,2,1,0,0,([]:List Int)⟩:S37),(⟨2,3,2,1,1,([]:List Int)⟩:S37)]:List S37)) (Row.lit k37 rfl rfl) ?_
 obtain rfl:=Option.some.inj h
 exact TQ.fin (.inl rfl) rfl Try.results46 (.cells 1 rfl rfl agg42 fsz42 .nil) rfl (FRel.mk (Ls:=[Row k37 37 (.slice (some ⟨b2,0,none⟩) 3 3) ([(⟨1,1,0,0,4,([]:List Int)⟩:S37),(⟨3,2,1,0,0,([]:List Int)⟩:S37),(⟨2,3,2,1,1,([]:List Int)⟩:S37)]:List S37)]) [0] 2 (Gd.le.refl _) rfl rfl rfl ⟨rfl,(some ⟨b2,0,none⟩),3,rfl,rfl⟩)
def fold_Op.l0 (a1:(List S81)):Nat → Int → MpS → Option (MpS)
 | 0,_,_=>none
 | n389 + 1,x349,x350=>(if x349 < (a1.length:Int) then (at? a1 x349).bind fun y450=>(if wfi y450.f0 then jn (γ:=(MpS)) (fun (x463:MpS)=>fold_Op.l0 a1 n389 (IntKind.i64.wrap (x349 + 1)) x463) (fun (j464:(MpS → Option (MpS)))=>(if (!(mhas x350 y450.f0))=true then (if x350.1 < 17592186044416∧wfi y450.f0∧wfi y450.f1 then j464 (mput x350 y450.f0 y450.f1) else none) else j464 x350)) else none) else some x350)
def fold_Op.f (a0:S37) (a1:(List S81)):Option S37:=(fold_Op.l0 a1 (a1.length + 1) 0 mnil).bind fun (x387:MpS)=>(fold_numbers_op.f x387 a0).bind fun (y424:S37)=>some y424
def fold_Op.post (G:Gd)  (r:S37) (v:Value) (G':Gd) (Lr:List Ch):Prop:=∃ (A_1:Option Addr) (c_1:Nat),v=.agg #[VI r.f0,VI r.f1,VI r.f2,VI r.f3,VI r.f4,.slice A_1 r.f5.length c_1]∧Lr=[Row kI 3 (.slice A_1 r.f5.length c_1) r.f5]
theorem fold_Op.calls {G:Gd} {r:S37} {a0:S37} {a1:(List S81)} {A1:Option Addr} {c2:Nat} {A5:Option Addr} {c6:Nat} (hr3:Rd G kI A1 a0.f5) (hl4:a0.f5.length ≤ c2) (hr7:Rd G k81 A5 a1) (hl8:a1.length ≤ c6) (h:fold_Op.f a0 a1=some r):Fn Try.prog 47 G [] [.agg #[VI a0.f0,VI a0.f1,VI a0.f2,VI a0.f3,VI a0.f4,.slice A1 a0.f5.length c2],.slice A5 a1.length c6] (fold_Op.post G  r):=by
 refine Fn.intro (e:=[(0,.agg #[VI a0.f0,VI a0.f1,VI a0.f2,VI a0.f3,VI a0.f4,.slice A1 a0.f5.length c2]),(1,.slice A5 a1.length c6)]) 9 Try.func47 rfl Try.ntmps47 rfl rfl (Nat.le_of_ble_eq_true rfl) (fun L=>?_)
 unfold fold_Op.f at h
 refine TC.seq ?_
 refine TC.region ?_
 refine TL.cons (TL.box (cs:=[VI a0.f0,VI a0.f1,VI a0.f2,VI a0.f3,VI a0.f4,.slice A1 a0.f5.length c2]) rfl rfl rfl rfl (fun b9=>?_))
 refine TL.cons (TL.alloc (cs:=[VI 0,VI 0,VI 0,VI 0,VI 0,.slice none 0 0]) rfl rfl zr37 rfl (fun b10=>?_))
 refine TL.nil ?_
 refine TQ.then_ ?_
 refine TC.seq ?_
 refine TC.regionAny [4] [0,2] mixed (by kernel_rfl) ?_
 refine TA.take 0 rfl (by kernel_rfl) rfl (PQ.then_ PQ.body) rfl (Val.move rfl) (fun W hO=>hO) ?_
 refine TA.take 2 rfl (by kernel_rfl) rfl (PQ.then_ PQ.body) rfl (Val.loadsB 1 (cs:=[VI a0.f0,VI a0.f1,VI a0.f2,VI a0.f3,VI a0.f4,.slice A1 a0.f5.length c2]) agg37 fsz37 rfl rfl rfl rfl) (fun W hO=>hO) ?_
 refine TA.eff 1 rfl (by kernel_rfl) rfl (TO.inl (args:=[.slice A5 a1.length c6]) (e':=[(0,.slice A5 a1.length c6)]) 31 rfl rfl hbd72 rfl rfl Try.func72 rfl Try.ntmps72 rfl rfl (Nat.le_of_ble_eq_true rfl) (fun a170 hf171=>?_))
 refine TC.seq ?_
 refine TC.region ?_
 refine TV rfl rfl rfl (Val.assign rfl) ?_
 refine TL.nil ?_
 refine TQ.then_ ?_
 refine TC.seq ?_
 refine TC.region ?_
 refine TL.cons (TL.makeMap (k:=3) (el:=3) rfl rfl (fun b274=>?_))
 refine TV rfl rfl rfl (Val.assign rfl) ?_
 refine TL.nil ?_
 refine TQ.then_ ?_
 refine TC.seq ?_
 refine TC.seq ?_
 refine TC.region ?_
 refine TV rfl rfl rfl (Val.move rfl) ?_
 refine TV rfl rfl rfl (Val.len Try.underlying82 rfl) ?_
 refine TV rfl rfl rfl (Val.move rfl) ?_
 refine TL.nil ?_
 refine TQ.then_ ?_
 obtain ⟨o388,ho388,ko388⟩:=bind_no h
 clear h
 refine TC.tail (fun a W=>∃ (x387:MpS),x387=o388∧Fr 31 a [(3,.map (some b274))]∧Own G (Blk b10 [VI 0,VI 0,VI 0,VI 0,VI 0,.slice none 0 0] 37::Mp Try.prog 3 3 b274 x387::Blk b9 [VI a0.f0,VI a0.f1,VI a0.f2,VI a0.f3,VI a0.f4,.slice A1 a0.f5.length c2] 37::L) W) ?_ ?_
 ·
  rintro a W ⟨x387,rfl,hF,hO⟩
  have h:=ko388
  clear ko388 ho388
  refine TQ.use ?_ hF hO
  clear hF hO
  refine TQ.then_ ?_
  refine TC.seq ?_
  refine TC.region ?_
  refine TV rfl rfl rfl (Val.move rfl) ?_
  refine TV rfl rfl rfl (Val.assign rfl) ?_
  refine TL.nil ?_
  refine TQ.then_ ?_
  refine TC.ret ?_
  refine TQ.fin (v:=.map (some b274)) (.inl rfl) rfl Try.results72 (.tmp rfl .nil) rfl (After.mk hf171 rfl ?_)
  refine TA.next (fun W hO=>hO.selT (Ls:=[Blk b10 [VI 0,VI 0,VI 0,VI 0,VI 0,.slice none 0 0] 37,Blk b9 [VI a0.f0,VI a0.f1,VI a0.f2,VI a0.f3,VI a0.f4,.slice A1 a0.f5.length c2] 37]) [0,2] 3 rfl rfl rfl) ?_
  refine TK.sel (Ls:=[Mp Try.prog 3 3 b274 x387,Blk b10 [VI 0,VI 0,VI 0,VI 0,VI 0,.slice none 0 0] 37,Blk b9 [VI a0.f0,VI a0.f1,VI a0.f2,VI a0.f3,VI a0.f4,.slice A1 a0.f5.length c2] 37]) [1,0,2] 3 rfl rfl rfl ?_
  obtain ⟨y424,hy425,h⟩:=bind_no h
  refine TA.eff 3 rfl (by kernel_rfl) rfl (TL.callV (Lin:=[Mp Try.prog 3 3 b274 x387]) (args:=[.map (some b274),.agg #[VI a0.f0,VI a0.f1,VI a0.f2,VI a0.f3,VI a0.f4,.slice A1 a0.f5.length c2]]) rfl rfl rfl hbd68 rfl rfl (fold_numbers_op.calls (a0_0:=x387) (a1:=a0) hr3 hl4 hy425) rfl ?_)
  rintro _ G426 _ e427 ⟨A428,c429,rfl,rfl⟩
  refine TA.next (fun W hO=>(Own.weak e427 hO).selT (Ls:=[Blk b10 [VI 0,VI 0,VI 0,VI 0,VI 0,.slice none 0 0] 37,Blk b9 [VI a0.f0,VI a0.f1,VI a0.f2,VI a0.f3,VI a0.f4,.slice A1 a0.f5.length c2] 37]) [2,3] 4 rfl rfl rfl) ?_
  refine TA.eff 4 rfl (by kernel_rfl) rfl (TL.store 2 (ds:=[VI y424.f0,VI y424.f1,VI y424.f2,VI y424.f3,VI y424.f4,.slice A428 y424.f5.length c429]) (cs':=[VI y424.f0,VI y424.f1,VI y424.f2,VI y424.f3,VI y424.f4,.slice A428 y424.f5.length c429]) (L':=(Mp Try.prog 3 3 b274 x387::Row kI 3 (.slice A428 y424.f5.length c429) y424.f5::Blk b10 [VI y424.f0,VI y424.f1,VI y424.f2,VI y424.f3,VI y424.f4,.slice A428 y424.f5.length c429] 37::Blk b9 [VI a0.f0,VI a0.f1,VI a0.f2,VI a0.f3,VI a0.f4,.slice A1 a0.f5.length c2] 37::L)) rfl fsz37 rfl rfl rfl rfl rfl (Nat.le_of_ble_eq_true rfl) rfl rfl ?_)
  refine TA.last rfl ?_
  refine TA.done (by kernel_rfl) ?_
  refine TQ.then_ ?_
  refine TC.ret ?_
  obtain rfl:=Option.some.inj h
  exact TQ.fin (.inl rfl) rfl Try.results47 (.cells 2 rfl rfl agg37 fsz37 .nil) rfl (FRel.mk (Ls:=[Row kI 3 (.slice A428 y424.f5.length c429) y424.f5]) [1] 4 e427 rfl rfl rfl ⟨A428,c429,rfl,rfl⟩)
 ·
  refine TC.block ?_
  intro a W hF hO
  have hS:∃ (x349:Int) (x350:MpS),fold_Op.l0 a1 (a1.length + 1) x349 x350=some o388∧Fr 31 a [(3,.map (some b274)),(9,.slice A5 a1.length c6),(10,VI (a1.length:Int)),(11,VI x349)]∧Own G (Blk b10 [VI 0,VI 0,VI 0,VI 0,VI 0,.slice none 0 0] 37::Mp Try.prog 3 3 b274 x350::Blk b9 [VI a0.f0,VI a0.f1,VI a0.f2,VI a0.f3,VI a0.f4,.slice A1 a0.f5.length c2] 37::L) W:=by
   exact ⟨0,mnil,ho388,hF.sub ⟨rfl,rfl,rfl,rfl,trivial⟩,hO.selT (Ls:=[Blk b10 [VI 0,VI 0,VI 0,VI 0,VI 0,.slice none 0 0] 37,Mp Try.prog 3 3 b274 mnil,Blk b9 [VI a0.f0,VI a0.f1,VI a0.f2,VI a0.f3,VI a0.f4,.slice A1 a0.f5.length c2] 37]) [1,0,2] 3 rfl rfl rfl⟩
  clear hF hO ho388 ko388
  refine TC.loop (fun n389 a W=>∃ (x349:Int) (x350:MpS),fold_Op.l0 a1 n389 x349 x350=some o388∧Fr 31 a [(3,.map (some b274)),(9,.slice A5 a1.length c6),(10,VI (a1.length:Int)),(11,VI x349)]∧Own G (Blk b10 [VI 0,VI 0,VI 0,VI 0,VI 0,.slice none 0 0] 37::Mp Try.prog 3 3 b274 x350::Blk b9 [VI a0.f0,VI a0.f1,VI a0.f2,VI a0.f3,VI a0.f4,.slice A1 a0.f5.length c2] 37::L) W) ?_ ?_ hS
  ·
   rintro a W ⟨x349,x350,h,hF,hO⟩
   exact none_no h
  ·
   clear hS
   rintro n389 a W ⟨x349,x350,h,hF,hO⟩
   rw [fold_Op.l0] at h
   refine TC.use ?_ hF hO
   clear hF hO
   refine TC.seq ?_
   refine TC.region ?_
   refine TV rfl rfl rfl (Val.cmp rfl rfl run_lss) ?_
   refine TL.nil ?_
   refine TQ.then_ ?_
   refine TC.seq ?_
   refine TC.cond_p rfl h (fun hc432 h=>?_) (fun hc432 h=>?_)
   ·
    refine TC.skip ?_
    refine TQ.then_ ?_
    refine TC.seq ?_
    refine TC.block ?_
    refine TC.seq ?_
    refine TC.region ?_
    obtain ⟨y450,hx451,h⟩:=bind_no h
    obtain ⟨ad452,cs458,hA453,hi454,hj455,hcl456,hK457⟩:=Rd.at hr7 hx451
    obtain rfl:=k81_openR hK457
    refine TV rfl rfl rfl (Val.indexAddr Try.underlying82 fsz81 rfl hA453 rfl hi454 hj455) ?_
    refine TV rfl rfl rfl (Val.loadsS (cs:=[VI y450.f0,VI y450.f1]) agg81 fsz81 rfl rfl (Cl.sub (off:=0) (n:=2) hcl456 rfl)) ?_
    refine TL.cons (TL.alloc (cs:=[VI 0,VI 0]) rfl rfl zr81 rfl (fun b459=>?_))
    refine TL.cons (TL.store 0 (ds:=[VI y450.f0,VI y450.f1]) (cs':=[VI y450.f0,VI y450.f1]) (L':=(Blk b459 [VI y450.f0,VI y450.f1] 81::Blk b10 [VI 0,VI 0,VI 0,VI 0,VI 0,.slice none 0 0] 37::Mp Try.prog 3 3 b274 x350::Blk b9 [VI a0.f0,VI a0.f1,VI a0.f2,VI a0.f3,VI a0.f4,.slice A1 a0.f5.length c2] 37::L)) rfl fsz81 rfl rfl rfl rfl rfl (Nat.le_of_ble_eq_true rfl) rfl rfl ?_)
    refine TL.nil ?_
    refine TQ.then_ ?_
    refine TC.seq ?_
    refine TC.region ?_
    refine TV rfl rfl rfl (Val.move rfl) ?_
    refine TV rfl rfl rfl (Val.indexAddrA Try.underlying81 fsz3 rfl rfl rfl rfl) ?_
    refine TV rfl rfl rfl (Val.loadB 0 agg3 rfl rfl rfl) ?_
    obtain ⟨hz460,h⟩:=ite_no h
    refine TV rfl rfl rfl (Val.lookupOk 2 Try.underlying110 Try.underlying3 Try.underlying3 zr3 rfl rfl rfl hz460) ?_
    refine TV rfl rfl rfl (Val.move rfl) ?_
    refine TV rfl rfl rfl (Val.extract rfl rfl) ?_
    refine TV rfl rfl rfl (Val.extract rfl rfl) ?_
    refine TV rfl rfl rfl (Val.assign rfl) ?_
    refine TV rfl rfl rfl (Val.assign rfl) ?_
    refine TL.nil ?_
    refine TQ.then_ ?_
    refine TC.seq ?_
    refine TC.region ?_
    refine TV rfl rfl rfl (Val.move rfl) ?_
    refine TV rfl rfl rfl (Val.not_ rfl) ?_
    refine TL.nil ?_
    refine TQ.then_ ?_
    obtain ⟨j464,hj464,h⟩:=jn_no h
    refine TC.tail (fun a W=>∃ (x463:MpS),j464 x463=some o388∧Fr 31 a [(3,.map (some b274)),(9,.slice A5 a1.length c6),(10,VI (a1.length:Int)),(11,VI x349)]∧Own G (Blk b10 [VI 0,VI 0,VI 0,VI 0,VI 0,.slice none 0 0] 37::Mp Try.prog 3 3 b274 x463::Blk b9 [VI a0.f0,VI a0.f1,VI a0.f2,VI a0.f3,VI a0.f4,.slice A1 a0.f5.length c2] 37::L) W) ?_ ?_
    ·
     rintro a W ⟨x463,h,hF,hO⟩
     rw [hj464] at h
     refine TQ.use ?_ hF hO
     clear hF hO
     refine TQ.inB ?_
     refine TQ.then_ ?_
     refine TC.region ?_
     refine TV rfl rfl rfl (Val.cmp rfl rfl run_add) ?_
     refine TV rfl rfl rfl (Val.move rfl) ?_
     refine TL.nil ?_
     exact fun a W hF hO=>⟨IntKind.i64.wrap (x349 + 1),x463,h,hF.sub ⟨rfl,rfl,rfl,rfl,trivial⟩,hO.selT (Ls:=[Blk b10 [VI 0,VI 0,VI 0,VI 0,VI 0,.slice none 0 0] 37,Mp Try.prog 3 3 b274 x463,Blk b9 [VI a0.f0,VI a0.f1,VI a0.f2,VI a0.f3,VI a0.f4,.slice A1 a0.f5.length c2] 37]) [0,1,2] 3 rfl rfl rfl⟩
    ·
     refine TC.cond_b rfl h (fun hc465 h=>?_) (fun hc465 h=>?_)
     ·
      refine TC.region ?_
      refine TV rfl rfl rfl (Val.move rfl) ?_
      refine TV rfl rfl rfl (Val.indexAddrA Try.underlying81 fsz3 rfl rfl rfl rfl) ?_
      refine TV rfl rfl rfl (Val.loadB 0 agg3 rfl rfl rfl) ?_
      refine TV rfl rfl rfl (Val.indexAddrA Try.underlying81 fsz3 rfl rfl rfl rfl) ?_
      refine TV rfl rfl rfl (Val.loadB 0 agg3 rfl rfl rfl) ?_
      obtain ⟨hz466,h⟩:=ite_no h
      refine TL.cons (TL.mapUpdate 2 (L':=(Blk b459 [VI y450.f0,VI y450.f1] 81::Blk b10 [VI 0,VI 0,VI 0,VI 0,VI 0,.slice none 0 0] 37::Mp Try.prog 3 3 b274 (mput x350 y450.f0 y450.f1)::Blk b9 [VI a0.f0,VI a0.f1,VI a0.f2,VI a0.f3,VI a0.f4,.slice A1 a0.f5.length c2] 37::L)) rfl Try.underlying110 Try.underlying3 Try.underlying3 rfl rfl rfl rfl rfl hz466 ?_)
      refine TL.nil ?_
      exact fun a W hF hO=>⟨(mput x350 y450.f0 y450.f1),h,hF.sub ⟨rfl,rfl,rfl,rfl,trivial⟩,hO.selT (Ls:=[Blk b10 [VI 0,VI 0,VI 0,VI 0,VI 0,.slice none 0 0] 37,Mp Try.prog 3 3 b274 (mput x350 y450.f0 y450.f1),Blk b9 [VI a0.f0,VI a0.f1,VI a0.f2,VI a0.f3,VI a0.f4,.slice A1 a0.f5.length c2] 37]) [1,2,3] 4 rfl rfl rfl⟩
     ·
      refine TC.skip ?_
      exact fun a W hF hO=>⟨x350,h,hF.sub ⟨rfl,rfl,rfl,rfl,trivial⟩,hO.selT (Ls:=[Blk b10 [VI 0,VI 0,VI 0,VI 0,VI 0,.slice none 0 0] 37,Mp Try.prog 3 3 b274 x350,Blk b9 [VI a0.f0,VI a0.f1,VI a0.f2,VI a0.f3,VI a0.f4,.slice A1 a0.f5.length c2] 37]) [1,2,3] 4 rfl rfl rfl⟩
   ·
    refine TC.exit ?_
    refine TQ.thenX ?_
    refine TQ.thenX ?_
    refine TQ.inBX ?_
    exact fun a W hF hO=>⟨x350,Option.some.inj h,hF.sub ⟨rfl,trivial⟩,hO.selT (Ls:=[Blk b10 [VI 0,VI 0,VI 0,VI 0,VI 0,.slice none 0 0] 37,Mp Try.prog 3 3 b274 x350,Blk b9 [VI a0.f0,VI a0.f1,VI a0.f2,VI a0.f3,VI a0.f4,.slice A1 a0.f5.length c2] 37]) [0,1,2] 3 rfl rfl rfl⟩
end Go.Proofs.Ytfmocegnpmomnaa.Sy
