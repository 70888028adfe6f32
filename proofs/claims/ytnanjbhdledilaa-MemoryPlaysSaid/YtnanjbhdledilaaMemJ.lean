/- The document's memory: Alloc, New. -/
import Derived.Test.YtnanjbhdledilaaMemI
set_option linter.unusedVariables false
set_option linter.unusedSimpArgs false
namespace Go.Proofs.Ytnanjbhdledilaa.Mem
open Go Go.RowKit Go.Maps Go.Proofs.YtnanjbhdledilaaW.PrintWords Go.Proofs.YtnanjbhdledilaaW.PrintLast Go.Proofs.YtnanjbhdledilaaW.PrintMore
theorem IsRef.drewN {w : World} {g b cnt : Nat} {M : Mem} {c : Int → Int} (h : IsRef w g b cnt M c) (n : Nat) : IsRef (w.drewN n) g b cnt M c := by
  obtain ⟨D, hD, hc⟩ := h.mp
  exact ⟨h.ne, h.c0, h.c1, h.c2, h.c3, h.fg, ⟨D, hD, hc⟩⟩
def refAllocM (M : Mem) (n : Int) : Mem := if n < 0 then M else if (M.f : Int) - M.h < n then M else { M with h := M.h + n.toNat }
def refAllocC (M : Mem) (c : Int → Int) (n : Int) : Int → Int := if n < 0 then c else if (M.f : Int) - M.h < n then c else zeroI c M.h (M.h + n)
set_option maxHeartbeats 8000000 in
set_option maxRecDepth 100000 in
theorem ralloc_any (g b cnt : Nat) (M : Mem) (ok : M.Ok) (c : Int → Int) (n : Int) (hcnt : cnt + 1048577 < maxLen) (w : World) (hI : IsRef w g b cnt M c) :
    Calls Try.prog 20 #[.pointer (some ⟨g, 0, none⟩), .int .i64 n] w fun e w' => e = .returned (.tuple #[.int .i64 (M.allocR n).1, .int .i64 (M.allocR n).2]) ∧ IsRef w' g b (cnt + 1048576) (refAllocM M n) (refAllocC M c n) ∧ Grow2 g b w w' := by
  have c1 := hI.c1
  have c2 := hI.c2
  unfold refAllocM refAllocC Mem.allocR
  obtain ⟨o1, o2, o3, o4⟩ := ok
  by_cases h1 : n < 0
  · have d1 : decide (n < 0) = true := decide_eq_true h1
    rw [if_pos h1, if_pos h1, if_pos h1]
    have hI := Aside0.mk (hI.mono (Nat.le_add_right _ 1048576))
    clear h1
    go_enter Try.func20, Try.ntmps20
    go_wp2
    go_ret2
    exact ⟨rfl, hI.out, Grow2.refl g b _⟩
  rw [if_neg h1, if_neg h1, if_neg h1]
  obtain ⟨k, rfl⟩ : ∃ k : Nat, n = k := ⟨n.toNat, by omega⟩
  have d1 : decide ((k : Int) < 0) = false := decide_eq_false h1
  have b1 : -4611686018427387904 ≤ (M.f : Int) - (M.h : Int) := by omega
  have b2 : (M.f : Int) - (M.h : Int) ≤ 4611686018427387904 := by omega
  by_cases h2 : (M.f : Int) - M.h < (k : Int)
  · have d2 : decide ((M.f : Int) - M.h < (k : Int)) = true := decide_eq_true h2
    rw [if_pos h2, if_pos h2, if_pos h2]
    have hI := Aside0.mk (hI.mono (Nat.le_add_right _ 1048576))
    have hw0 := wid b1 b2
    clear h1 h2 b1 b2
    go_enter Try.func20, Try.ntmps20
    go_wp2
    go_quiet (fail)
    go_wp2
    go_ret2
    exact ⟨rfl, hI.out.drewN _, Grow2.drewN g b w _⟩
  have d2 : decide ((M.f : Int) - M.h < (k : Int)) = false := decide_eq_false h2
  rw [if_neg h2, if_neg h2, if_neg h2, Int.toNat_natCast]
  have b3 : -4611686018427387904 ≤ (M.h : Int) + (k : Int) := by omega
  have b4 : (M.h : Int) + (k : Int) ≤ 4611686018427387904 := by omega
  have HB := Aside0.mk (show M.h + k ≤ 1048576 from by omega)
  have hw0 := wid b1 b2
  have hw1 := wid b3 b4
  clear b1 b2 b3 b4
  replace hcnt := Aside0.mk hcnt
  replace hI := Aside0.mk hI
  clear h1 h2 o1 o2 o3 o4
  go_enter Try.func20, Try.ntmps20
  go_wp2
  go_quiet (fail)
  go_wp2
  have hI' := Aside0.mk (hI.out.drewN nq)
  have hG' := Aside0.mk (Grow2.drewN g b w nq)
  clear hI
  generalize w.drewN nq = W at *
  clear c1 c2 d1 d2 hw0
  go_loopw [7] (fun v7 wr => ∃ j : Nat, v7 = .int .i64 j ∧ Aside0 (M.h ≤ j ∧ j ≤ M.h + k) ∧ Aside0 (IsRef wr g b (cnt + (j - M.h)) M (zeroI c M.h j)) ∧ Aside0 (Grow2 g b w wr)) (fun v7 _ => M.h + k - (intOf v7).toNat)
  case atStart => exact ⟨M.h, rfl, Aside0.mk ⟨Nat.le_refl _, Nat.le_add_right _ _⟩, Aside0.mk (by rw [Nat.sub_self, Nat.add_zero, zeroI_none c (Int.le_refl _)]; exact hI'.out), hG'⟩
  case round =>
    clear hI' hG'
    obtain ⟨j, rfl, HJ, HI, HG⟩ := hrel
    have c1 := HI.out.c1
    have c3 := HI.out.c3
    have hb := HB.out
    obtain ⟨j1, j2⟩ := HJ.out
    by_cases hj : j < M.h + k
    · have d5 : decide ((j : Int) < (M.h : Int) + (k : Int)) = true := by clear hw1; exact decide_eq_true (by omega)
      have d6 : decide (j < M.h + k) = true := decide_eq_true hj
      have hj62 : j ≤ 4611686018427387904 := by clear hw1; omega
      have hst2 := Aside0.mk (wone hj62)
      have hj' := Aside0.mk hj
      have hwf : (Lit.int .i64 (j : Int)).wf = true := by clear hw1 hst2; exact wf64 (by omega)
      have hkey : keyOf Try.prog 3 (.int .i64 (j : Int)) = some (.int .i64 (j : Int)) := keyOf_int_mk Try.underlying3 hwf
      have hval : plainElem (H := Unit) Try.prog 3 (.int .i64 0) = some (.lit (.int .i64 0), []) := plainElem_int Try.underlying3 (by decide)
      obtain ⟨D, hD, hc⟩ := HI.out.mp
      have hcn : cnt + (j - M.h) < maxLen := by clear hw1 hst2; have := hcnt.out; omega
      have hle : (M.h : Int) ≤ (j : Int) := by clear hw1 hst2; omega
      have hz := Aside0.mk (zeroI_step c hle)
      have hcs := Aside0.mk (show cnt + (j - M.h) + 1 = cnt + (j + 1 - M.h) from by clear hw1 hst2; omega)
      replace hc := Aside0.mk hc
      replace hD := Aside0.mk hD
      clear hwf j1 j2 hb hj hj62 hle
      go_wp2_with (first | (at_mapUpdate; refine wpList_mapUpdate_own _ rfl _ _ _ 34 rfl 3 3 law3 Try.underlying34 _ b (cnt + (j - M.h)) _ rfl hD.out hcn _ _ _ rfl rfl hkey _ [] hval ?_; intro w1 hown1 hgrow1))
      go_roundw
      case rel =>
        refine ⟨j + 1, by first | exact congrArg _ hst2.out | go_num, Aside0.mk ⟨Nat.le_succ_of_le HJ.out.1, hj'.out⟩, Aside0.mk ?_, Aside0.mk (HG.out.trans (Grow2.grown hgrow1))⟩
        have := HI.out.grown hgrow1 (IsIntMap.put hD.out hc.out (j : Int) 0 hown1)
        rw [hz.out, hcs.out] at this
        exact this
      case measure => exact meas hj'.out hst2.out
    · have d5 : decide ((j : Int) < (M.h : Int) + (k : Int)) = false := by clear hw1; exact decide_eq_false (by omega)
      have d6 : decide (j < M.h + k) = false := decide_eq_false hj
      have f1 := HI.out.fg 1
      have hjj : (j : Int) = (M.h : Int) + (k : Int) := by clear hw1; omega
      have P := (HI.out.mono (cnt' := cnt + 1048576) (by clear hw1; omega)).heap (M.h + k)
      have G := HG.out.trans (Grow2.setCell g b 1 wr (.int .i64 ((M.h + k : Nat) : Int)))
      rw [hjj] at P
      rw [Int.natCast_add] at P G
      replace P := Aside0.mk P
      replace G := Aside0.mk G
      clear j1 j2 hb hj hjj HI HG HJ
      go_wp2
      go_ret2
      exact ⟨rfl, P.out, G.out⟩
end Go.Proofs.Ytnanjbhdledilaa.Mem
