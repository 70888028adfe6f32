/- The document's memory: SetFloor. -/
import Derived.Test.YtnanjbhdledilaaMemH
set_option linter.unusedVariables false
set_option linter.unusedSimpArgs false
namespace Go.Proofs.Ytnanjbhdledilaa.Mem
open Go Go.RowKit Go.Maps Go.Proofs.YtnanjbhdledilaaW.PrintWords Go.Proofs.YtnanjbhdledilaaW.PrintLast Go.Proofs.YtnanjbhdledilaaW.PrintMore
theorem wf64 {n : Int} (h : -9223372036854775808 ≤ n ∧ n ≤ 9223372036854775807) : (Lit.int .i64 n).wf = true := by
  simp [Lit.wf, IntKind.min, IntKind.max, IntKind.signed, IntKind.bits]
  omega
structure Grow2 (g b : Nat) (w w' : World) : Prop where
  os : w'.os = w.os
  tape : w'.tape = w.tape
  output : w'.output = w.output
  size : w.heap.size ≤ w'.heap.size
  block : ∀ k, k < w.heap.size → k ≠ g → k ≠ b → w'.heap[k]? = w.heap[k]?
theorem Grow2.refl (g b : Nat) (w : World) : Grow2 g b w w := ⟨rfl, rfl, rfl, Nat.le_refl _, fun _ _ _ _ => rfl⟩
theorem Grow2.trans {g b : Nat} {u v w : World} (h : Grow2 g b u v) (k : Grow2 g b v w) : Grow2 g b u w :=
  ⟨k.os.trans h.os, k.tape.trans h.tape, k.output.trans h.output, Nat.le_trans h.size k.size, fun i hi h1 h2 => (k.block i (Nat.lt_of_lt_of_le hi h.size) h1 h2).trans (h.block i hi h1 h2)⟩
theorem Grow2.grown {g b : Nat} {w w' : World} (h : w.grownBy w' (some b)) : Grow2 g b w w' := ⟨h.os, h.tape, h.output, h.size, fun k hk _ h2 => h.block k hk (fun hh => h2 (by injection hh))⟩
theorem Grow2.setCell (g b i : Nat) (w : World) (u : Value) : Grow2 g b w (w.setCell ⟨g, i, none⟩ u) :=
  ⟨rfl, rfl, rfl, by simp [World.setCell], fun k _ h1 _ => Below.heap_setCell w ⟨g, i, none⟩ u k h1⟩
theorem Grow2.drewN (g b : Nat) (w : World) (n : Nat) : Grow2 g b w (w.drewN n) := ⟨rfl, rfl, rfl, Nat.le_refl _, fun _ _ _ _ => rfl⟩
def zeroI (c : Int → Int) (a b : Int) : Int → Int := fun x => if a ≤ x ∧ x < b then 0 else c x
theorem zeroI_none (c : Int → Int) {a b : Int} (h : b ≤ a) : zeroI c a b = c := by funext x; unfold zeroI; rw [if_neg (by omega)]
theorem zeroI_step (c : Int → Int) {a b : Int} (h : a ≤ b) : putI (zeroI c a b) b 0 = zeroI c a (b + 1) := by
  funext x; unfold putI zeroI
  by_cases e : x = b
  · rw [if_pos e, if_pos (by omega)]
  · rw [if_neg e]
    by_cases h2 : a ≤ x ∧ x < b
    · rw [if_pos h2, if_pos (by omega)]
    · rw [if_neg h2, if_neg (by omega)]
theorem IsIntMap.mono {w : World} {b cnt cnt' : Nat} {c : Int → Int} (h : IsIntMap w b cnt c) (hle : cnt ≤ cnt') : IsIntMap w b cnt' c := by
  obtain ⟨D, hD, hc⟩ := h; exact ⟨D, hD.mono hle, hc⟩
theorem IsRef.mono {w : World} {g b cnt cnt' : Nat} {M : Mem} {c : Int → Int} (h : IsRef w g b cnt M c) (hle : cnt ≤ cnt') : IsRef w g b cnt' M c := ⟨h.ne, h.c0, h.c1, h.c2, h.c3, h.fg, h.mp.mono hle⟩
theorem IsRef.floor {w : World} {g b cnt : Nat} {M : Mem} {c : Int → Int} (h : IsRef w g b cnt M c) (x : Nat) : IsRef (w.setCell ⟨g, 2, none⟩ (.int .i64 x)) g b cnt { M with f := x } c := by
  refine ⟨h.ne, ?_, ?_, World.cell?_setCell_same _ _ _ h.c2, ?_, fun i => by rw [World.frozen?_setCell]; exact h.fg i, ?_⟩
  · rw [World.cell?_setCell_other _ _ _ _ (by simp)]; exact h.c0
  · rw [World.cell?_setCell_other _ _ _ _ (by simp)]; exact h.c1
  · rw [World.cell?_setCell_other _ _ _ _ (by simp)]; exact h.c3
  · obtain ⟨D, hD, hc⟩ := h.mp; exact ⟨D, hD.setCell (Ne.symm h.ne) _, hc⟩
theorem IsRef.heap {w : World} {g b cnt : Nat} {M : Mem} {c : Int → Int} (h : IsRef w g b cnt M c) (x : Nat) : IsRef (w.setCell ⟨g, 1, none⟩ (.int .i64 x)) g b cnt { M with h := x } c := by
  refine ⟨h.ne, ?_, World.cell?_setCell_same _ _ _ h.c1, ?_, ?_, fun i => by rw [World.frozen?_setCell]; exact h.fg i, ?_⟩
  · rw [World.cell?_setCell_other _ _ _ _ (by simp)]; exact h.c0
  · rw [World.cell?_setCell_other _ _ _ _ (by simp)]; exact h.c2
  · rw [World.cell?_setCell_other _ _ _ _ (by simp)]; exact h.c3
  · obtain ⟨D, hD, hc⟩ := h.mp; exact ⟨D, hD.setCell (Ne.symm h.ne) _, hc⟩
def refFloorM (M : Mem) (a : Int) : Mem := if a < (M.h : Int) ∨ (M.n : Int) < a then M else { M with f := a.toNat }
def refFloorC (M : Mem) (c : Int → Int) (a : Int) : Int → Int := if a < (M.h : Int) ∨ (M.n : Int) < a then c else zeroI c a M.f
set_option maxHeartbeats 8000000 in
set_option maxRecDepth 100000 in
theorem rfloor_any (g b cnt : Nat) (M : Mem) (ok : M.Ok) (c : Int → Int) (a : Int) (hcnt : cnt + 1048577 < maxLen) (w : World) (hI : IsRef w g b cnt M c) :
    Calls Try.prog 19 #[.pointer (some ⟨g, 0, none⟩), .int .i64 a] w fun e w' => e = .returned (.int .i64 (M.setFloorE a)) ∧ IsRef w' g b (cnt + 1048576) (refFloorM M a) (refFloorC M c a) ∧ Grow2 g b w w' := by
  have c0 := hI.c0
  have c1 := hI.c1
  have c2 := hI.c2
  unfold refFloorM refFloorC Mem.setFloorE
  obtain ⟨o1, o2, o3, o4⟩ := ok
  by_cases h1 : a < (M.h : Int)
  · have d1 : decide (a < (M.h : Int)) = true := decide_eq_true h1
    rw [if_pos (.inl h1), if_pos (.inl h1), if_pos (.inl h1)]
    have hI := Aside0.mk (hI.mono (Nat.le_add_right _ 1048576))
    clear h1
    go_enter Try.func19, Try.ntmps19
    go_wp2
    go_ret
    exact ⟨rfl, hI.out, Grow2.refl g b _⟩
  have d1 : decide (a < (M.h : Int)) = false := decide_eq_false h1
  by_cases h2 : (M.n : Int) < a
  · have d2 : decide ((M.n : Int) < a) = true := decide_eq_true h2
    rw [if_pos (.inr h2), if_pos (.inr h2), if_pos (.inr h2)]
    have hI := Aside0.mk (hI.mono (Nat.le_add_right _ 1048576))
    clear h1 h2
    go_enter Try.func19, Try.ntmps19
    go_wp2
    go_ret
    exact ⟨rfl, hI.out, Grow2.refl g b _⟩
  have d2 : decide ((M.n : Int) < a) = false := decide_eq_false h2
  rw [if_neg (by omega), if_neg (by omega), if_neg (by omega)]
  obtain ⟨k, rfl⟩ : ∃ k : Nat, a = k := ⟨a.toNat, by omega⟩
  rw [Int.toNat_natCast]
  replace d1 : decide (k < M.h) = false := decide_eq_false (by omega)
  replace d2 : decide (M.n < k) = false := decide_eq_false (by omega)
  have hkn : k ≤ M.n := by omega
  have HB := Aside0.mk (show k ≤ 1048576 ∧ M.f ≤ 1048576 from by omega)
  replace hcnt := Aside0.mk hcnt
  replace hI := Aside0.mk hI
  clear h1 h2 o1 o2 o3 o4 hkn
  go_enter Try.func19, Try.ntmps19
  go_wp2
  clear c0 c1 c2 d1 d2
  go_loopw [5] (fun v5 wr => ∃ j : Nat, v5 = .int .i64 j ∧ Aside0 (k ≤ j ∧ (j ≤ M.f ∨ j = k)) ∧ Aside0 (IsRef wr g b (cnt + (j - k)) M (zeroI c k j)) ∧ Aside0 (Grow2 g b w wr)) (fun v5 _ => M.f - (intOf v5).toNat)
  case atStart => exact ⟨k, rfl, Aside0.mk ⟨Nat.le_refl _, .inr rfl⟩, Aside0.mk (by rw [Nat.sub_self, Nat.add_zero, zeroI_none c (by omega)]; exact hI.out), Aside0.mk (Grow2.refl g b _)⟩
  case round =>
    clear hI
    obtain ⟨j, rfl, HJ, HI, HG⟩ := hrel
    have c2 := HI.out.c2
    have c3 := HI.out.c3
    obtain ⟨hb1, hb2⟩ := HB.out
    obtain ⟨j1, j2⟩ := HJ.out
    by_cases hj : j < M.f
    · have d5 : decide ((j : Int) < (M.f : Int)) = true := decide_eq_true (by omega)
      have d6 : decide (j < M.f) = true := decide_eq_true hj
      have hj62 : j ≤ 4611686018427387904 := by omega
      have hst2 := Aside0.mk (wone hj62)
      have hj' := Aside0.mk hj
      have hwf : (Lit.int .i64 (j : Int)).wf = true := wf64 (by omega)
      have hkey : keyOf Try.prog 3 (.int .i64 (j : Int)) = some (.int .i64 (j : Int)) := keyOf_int_mk Try.underlying3 hwf
      have hval : plainElem (H := Unit) Try.prog 3 (.int .i64 0) = some (.lit (.int .i64 0), []) := plainElem_int Try.underlying3 (by decide)
      obtain ⟨D, hD, hc⟩ := HI.out.mp
      have hcn : cnt + (j - k) < maxLen := by have := hcnt.out; omega
      have hz := Aside0.mk (zeroI_step c (show (k : Int) ≤ (j : Int) from by omega))
      have hcs := Aside0.mk (show cnt + (j - k) + 1 = cnt + (j + 1 - k) from by omega)
      replace hc := Aside0.mk hc
      replace hD := Aside0.mk hD
      clear hwf j1 j2 hb1 hb2 hj hj62
      go_wp2_with (first | (at_mapUpdate; refine wpList_mapUpdate_own _ rfl _ _ _ 34 rfl 3 3 law3 Try.underlying34 _ b (cnt + (j - k)) _ rfl hD.out hcn _ _ _ rfl rfl hkey _ [] hval ?_; intro w1 hown1 hgrow1))
      go_roundw
      case rel =>
        refine ⟨j + 1, by first | exact congrArg _ hst2.out | go_num, Aside0.mk ⟨Nat.le_succ_of_le HJ.out.1, .inl hj'.out⟩, Aside0.mk ?_, Aside0.mk (HG.out.trans (Grow2.grown hgrow1))⟩
        have := HI.out.grown hgrow1 (IsIntMap.put hD.out hc.out (j : Int) 0 hown1)
        rw [hz.out, hcs.out] at this
        exact this
      case measure => exact meas hj'.out hst2.out
    · have d5 : decide ((j : Int) < (M.f : Int)) = false := decide_eq_false (by omega)
      have d6 : decide (j < M.f) = false := decide_eq_false hj
      have f2 := HI.out.fg 2
      have hzz : zeroI c k j = zeroI c k M.f := by
        rcases j2 with h | h
        · rw [show j = M.f from by omega]
        · rw [h, zeroI_none c (by omega), zeroI_none c (by omega)]
      have P := (HI.out.mono (cnt' := cnt + 1048576) (by omega)).floor k
      rw [hzz] at P
      have G := HG.out.trans (Grow2.setCell g b 2 wr (.int .i64 (k : Nat)))
      replace P := Aside0.mk P
      replace G := Aside0.mk G
      clear j1 j2 hb1 hb2 hj hzz HI HG HJ
      go_wp2
      go_ret
      exact ⟨rfl, P.out, G.out⟩
end Go.Proofs.Ytnanjbhdledilaa.Mem
