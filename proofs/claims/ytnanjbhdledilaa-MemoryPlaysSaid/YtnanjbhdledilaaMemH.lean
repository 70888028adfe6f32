/- The document's memory: which cells hold what, in a map. -/
import Derived.Test.YtnanjbhdledilaaMemG
import Derived.Maps.Own
import Derived.Maps.OwnOps
import Derived.Maps.OwnSet
set_option linter.unusedVariables false
set_option linter.unusedSimpArgs false
namespace Go.Proofs.Ytnanjbhdledilaa.Mem
open Go Go.RowKit Go.Maps Go.Proofs.YtnanjbhdledilaaW.PrintWords Go.Proofs.YtnanjbhdledilaaW.PrintLast Go.Proofs.YtnanjbhdledilaaW.PrintMore
/-- A map of ints, by what it tells of each int. -/
def IsIntMap (w : World) (b cnt : Nat) (c : Int → Int) : Prop := ∃ D : DataW Unit, w.ownsMap Try.prog 3 (plainElem Try.prog 3) b cnt D ∧ ∀ a, D.atKey (.int .i64 a) (.lit (.int .i64 0)) = .lit (.int .i64 (c a))
structure IsRef (w : World) (g b cnt : Nat) (M : Mem) (c : Int → Int) : Prop where
  ne : g ≠ b
  c0 : w.cell? ⟨g, 0, none⟩ = some (.int .i64 M.n)
  c1 : w.cell? ⟨g, 1, none⟩ = some (.int .i64 M.h)
  c2 : w.cell? ⟨g, 2, none⟩ = some (.int .i64 M.f)
  c3 : w.cell? ⟨g, 3, none⟩ = some (.map (some b))
  fg : ∀ i, w.frozen? ⟨g, i, none⟩ = false
  mp : IsIntMap w b cnt c
theorem rthere_any (g b cnt : Nat) (M : Mem) (c : Int → Int) (a : Int) (w : World) (hI : IsRef w g b cnt M c) : Calls Try.prog 24 #[.pointer (some ⟨g, 0, none⟩), .int .i64 a] w fun e w' => e = .returned (.bool (M.there a)) ∧ w = w' := by
  have c0 := hI.c0
  have c1 := hI.c1
  have c2 := hI.c2
  clear hI
  by_cases h1 : (1 : Int) ≤ a
  · have d1 : decide ((1 : Int) ≤ a) = true := decide_eq_true h1
    by_cases h2 : a < (M.h : Int)
    · have d2 : decide (a < (M.h : Int)) = true := decide_eq_true h2
      have hr : M.there a = true := decide_eq_true (.inl ⟨h1, h2⟩)
      rw [hr]
      clear h1 h2
      go_enter Try.func24, Try.ntmps24
      go_wp2
      go_ret
      exact ⟨rfl, rfl⟩
    · have d2 : decide (a < (M.h : Int)) = false := decide_eq_false h2
      by_cases h3 : (M.f : Int) ≤ a
      · have d3 : decide ((M.f : Int) ≤ a) = true := decide_eq_true h3
        have hr : M.there a = decide (a < (M.n : Int)) := by unfold Mem.there; rw [decide_eq_decide]; omega
        rw [hr]
        clear h1 h2 h3
        go_enter Try.func24, Try.ntmps24
        go_wp2
        go_ret
        exact ⟨rfl, rfl⟩
      · have d3 : decide ((M.f : Int) ≤ a) = false := decide_eq_false h3
        have hr : M.there a = false := decide_eq_false (by omega)
        rw [hr]
        clear h1 h2 h3
        go_enter Try.func24, Try.ntmps24
        go_wp2
        go_ret
        exact ⟨rfl, rfl⟩
  · have d1 : decide ((1 : Int) ≤ a) = false := decide_eq_false h1
    by_cases h3 : (M.f : Int) ≤ a
    · have d3 : decide ((M.f : Int) ≤ a) = true := decide_eq_true h3
      have hr : M.there a = decide (a < (M.n : Int)) := by unfold Mem.there; rw [decide_eq_decide]; omega
      rw [hr]
      clear h1 h3
      go_enter Try.func24, Try.ntmps24
      go_wp2
      go_ret
      exact ⟨rfl, rfl⟩
    · have d3 : decide ((M.f : Int) ≤ a) = false := decide_eq_false h3
      have hr : M.there a = false := decide_eq_false (by omega)
      rw [hr]
      clear h1 h3
      go_enter Try.func24, Try.ntmps24
      go_wp2
      go_ret
      exact ⟨rfl, rfl⟩
theorem law3 : Keyed Try.prog 3 := int_keyed Try.underlying3
theorem zero3 (w : World) : (zeroValue 3).run Try.prog w = .ok (.int .i64 0) w := by kernel_rfl
/-- What a store into the map leaves. -/
def putI (c : Int → Int) (a v : Int) : Int → Int := fun x => if x = a then v else c x
theorem IsIntMap.put {w w' : World} {b cnt : Nat} {c : Int → Int} {D : DataW Unit} (h : w.ownsMap Try.prog 3 (plainElem Try.prog 3) b cnt D) (hc : ∀ a, D.atKey (.int .i64 a) (.lit (.int .i64 0)) = .lit (.int .i64 (c a))) (a v : Int)
    (h' : w'.ownsMap Try.prog 3 (plainElem Try.prog 3) b (cnt + 1) (D.put (.int .i64 a) (.lit (.int .i64 v)))) : IsIntMap w' b (cnt + 1) (putI c a v) := by
  refine ⟨_, h', fun x => ?_⟩
  unfold putI
  by_cases e : x = a
  · subst e; rw [if_pos rfl, atKey_put_same h.isMap (by trivial)]
  · rw [if_neg e, atKey_put_other (fun hh => e (by injection hh)), hc]
def refLoad (M : Mem) (c : Int → Int) (a : Int) : Int × Int := if M.there a = true then (c a, 0) else (0, 7)
theorem rload_any (g b cnt : Nat) (M : Mem) (c : Int → Int) (a : Int) (ha : (Lit.int .i64 a).wf = true) (w : World) (hI : IsRef w g b cnt M c) :
    Calls Try.prog 22 #[.pointer (some ⟨g, 0, none⟩), .int .i64 a] w fun e w' => e = .returned (.tuple #[.int .i64 (refLoad M c a).1, .int .i64 (refLoad M c a).2]) ∧ w = w' := by
  have ht := rthere_any g b cnt M c a w hI
  have c3 := hI.c3
  obtain ⟨D, hD, hc⟩ := hI.mp
  unfold refLoad
  cases h : M.there a
  · rw [h] at ht
    rw [if_neg (by simp)]
    clear hI c3 h hD hc
    go_enter Try.func22, Try.ntmps22
    go_wp2_with (go_at_call 24; with_reducible refine ht.mono ?_; rintro e w' ⟨rfl, rfl⟩)
    go_ret2
    exact ⟨rfl, rfl⟩
  · rw [h] at ht
    rw [if_pos rfl]
    have hkey : keyOf Try.prog 3 (.int .i64 a) = some (.int .i64 a) := keyOf_int_mk Try.underlying3 ha
    replace hc := Aside0.mk hc
    replace hD := Aside0.mk hD
    clear hI h ha
    go_enter Try.func22, Try.ntmps22
    go_wp2_with (first | (go_at_call 24; with_reducible refine ht.mono ?_; rintro e w' ⟨rfl, rfl⟩) | (at_lookup; refine wpList_lookup_own_int _ rfl _ _ 34 rfl 3 3 .i64 law3 Try.underlying34 Try.underlying3 (zero3 _) b cnt _ rfl hD.out _ _ rfl hkey ?_; intro c' hat hwc))
    go_ret2
    have := hc.out a
    rw [hat] at this
    injection this with this
    injection this with _ this
    subst this
    exact ⟨rfl, rfl⟩
/-- What only turns the map's block, or makes new ones. -/
theorem IsRef.grown {w w' : World} {g b cnt cnt' : Nat} {M : Mem} {c c' : Int → Int} (h : IsRef w g b cnt M c) (hg : w.grownBy w' (some b)) (hm : IsIntMap w' b cnt' c') : IsRef w' g b cnt' M c' := by
  have hlt : g < w.heap.size := World.block_lt_of_cell? _ _ h.c0
  have e := hg.block g hlt (fun hh => h.ne (by injection hh))
  exact ⟨h.ne, (cell_same e 0).trans h.c0, (cell_same e 1).trans h.c1, (cell_same e 2).trans h.c2, (cell_same e 3).trans h.c3, fun i => (frozen_same e i).trans (h.fg i), hm⟩
def refStore (M : Mem) (c : Int → Int) (a v : Int) : Int → Int := if M.there a = true then putI c a v else c
theorem rstore_any (g b cnt : Nat) (M : Mem) (c : Int → Int) (a v : Int) (ha : (Lit.int .i64 a).wf = true) (hv : (Lit.int .i64 v).wf = true) (hcnt : cnt < maxLen) (w : World) (hI : IsRef w g b cnt M c) :
    Calls Try.prog 21 #[.pointer (some ⟨g, 0, none⟩), .int .i64 a, .int .i64 v] w fun e w' => e = .returned (.int .i64 (M.storeE a)) ∧ IsRef w' g b (cnt + 1) M (refStore M c a v) ∧ w.grownBy w' (some b) := by
  have ht := rthere_any g b cnt M c a w hI
  have c3 := hI.c3
  obtain ⟨D, hD, hc⟩ := hI.mp
  unfold refStore Mem.storeE
  cases h : M.there a
  · rw [h] at ht
    rw [if_neg (by simp), if_neg (by simp)]
    have hI' : IsRef w g b (cnt + 1) M c := ⟨hI.ne, hI.c0, hI.c1, hI.c2, hI.c3, hI.fg, ⟨D, hD.mono (Nat.le_succ _), hc⟩⟩
    replace hI' := Aside0.mk hI'
    clear hI c3 h hD hc
    go_enter Try.func21, Try.ntmps21
    go_wp2_with (go_at_call 24; with_reducible refine ht.mono ?_; rintro e w' ⟨rfl, rfl⟩)
    go_ret
    exact ⟨rfl, hI'.out, ⟨rfl, rfl, rfl, Nat.le_refl _, fun _ _ _ => rfl⟩⟩
  · rw [h] at ht
    rw [if_pos rfl, if_pos rfl]
    have hkey : keyOf Try.prog 3 (.int .i64 a) = some (.int .i64 a) := keyOf_int_mk Try.underlying3 ha
    have hval : plainElem (H := Unit) Try.prog 3 (.int .i64 v) = some (.lit (.int .i64 v), []) := plainElem_int Try.underlying3 hv
    replace hc := Aside0.mk hc
    replace hD := Aside0.mk hD
    replace hI := Aside0.mk hI
    clear h ha hv
    go_enter Try.func21, Try.ntmps21
    go_wp2_with (first | (go_at_call 24; with_reducible refine ht.mono ?_; rintro e w' ⟨rfl, rfl⟩) | (at_mapUpdate; refine wpList_mapUpdate_own _ rfl _ _ _ 34 rfl 3 3 law3 Try.underlying34 _ b cnt _ rfl hD.out hcnt _ _ _ rfl rfl hkey _ [] hval ?_; intro w1 hown1 hgrow1))
    go_ret
    exact ⟨rfl, hI.out.grown hgrow1 (IsIntMap.put hD.out hc.out a v hown1), hgrow1⟩
end Go.Proofs.Ytnanjbhdledilaa.Mem
