-- Written by a program of this work (wip/tools/mp.py), not by print.sh.
import Derived.Test.YtmacdhkfgoahcaaQx0
import Derived.Test.YtmacdhkfgoahcaaQx1
import Derived.Test.YtmacdhkfgoahcaaQx2
namespace Go.Proofs.Ytmacdhkfgoahcaa.Q
open Go.RowKit Go.Proofs.YtmacdhkfgoahcaaW.PrintWords Go.Proofs.YtmacdhkfgoahcaaW.PrintLast Go.Proofs.YtmacdhkfgoahcaaW.PrintMore
attribute [local go_sem] max2_int min2_int max_two min_two max_three min_three max_four min_four   -- for this text's walks alone
set_option linter.unusedVariables false
set_option linter.unusedSimpArgs false

attribute [local go_sem high] eqA25
/-! ### swageref14_Same: function 16 -/
mutual
def swageref14_Same.j0 : Nat → Bool → Int → List (S28) → Int → List (S28) → Option (Bool)
  | 0, _, _, _, _, _ => none
  | k + 1, x21, x107000, x107001, x108000, x108001 => if x21 = true then (some false) else (swageref14_Same.l0 k 0 x107000 x107001 x108000 x108001)
def swageref14_Same.l0 : Nat → Int → Int → List (S28) → Int → List (S28) → Option (Bool)
  | 0, _, _, _, _, _ => none
  | k + 1, x5, x107000, x107001, x108000, x108001 => if x5 < (x107001.length : Int) then (if 0 ≤ x5 then (if x5 < (x108001.length : Int) then (if (!(((rd_T28 x107001 x5).f1.f0) == ((rd_T28 x108001 x5).f1.f0)) || (!(((rd_T28 x107001 x5).f1.f1) == ((rd_T28 x108001 x5).f1.f1)) || (!(((rd_T28 x107001 x5).f1.f2) == ((rd_T28 x108001 x5).f1.f2)) || (!(((rd_T28 x107001 x5).f1.f3) == ((rd_T28 x108001 x5).f1.f3)))))) = true then (swageref14_Same.j2 k x5 true x107000 x107001 x108000 x108001) else (swageref14_Same.j2 k x5 ((((rd_T28 x107001 x5).f0).length : Int) != (((rd_T28 x108001 x5).f0).length : Int)) x107000 x107001 x108000 x108001)) else (none)) else (none)) else (some true)
def swageref14_Same.j2 : Nat → Int → Bool → Int → List (S28) → Int → List (S28) → Option (Bool)
  | 0, _, _, _, _, _, _ => none
  | k + 1, x5, x58, x107000, x107001, x108000, x108001 => if x58 = true then (some false) else (swageref14_Same.l1 k x5 0 x107000 x107001 x108000 x108001)
def swageref14_Same.l1 : Nat → Int → Int → Int → List (S28) → Int → List (S28) → Option (Bool)
  | 0, _, _, _, _, _, _ => none
  | k + 1, x5, x6, x107000, x107001, x108000, x108001 => if 0 ≤ x5 then (if x5 < (x107001.length : Int) then (if x6 < (((rd_T28 x107001 x5).f0).length : Int) then (if 0 ≤ x6 then (if x5 < (x108001.length : Int) then (if x6 < (((rd_T28 x108001 x5).f0).length : Int) then ((swageref14_SameOp.f k ((rd_T30 ((rd_T28 x107001 x5).f0) x6).f0) ((rd_T30 ((rd_T28 x107001 x5).f0) x6).f1) ((rd_T30 ((rd_T28 x107001 x5).f0) x6).f2) ((rd_T30 ((rd_T28 x107001 x5).f0) x6).f3) ((rd_T30 ((rd_T28 x107001 x5).f0) x6).f4) ((rd_T30 ((rd_T28 x107001 x5).f0) x6).f5) ((rd_T30 ((rd_T28 x108001 x5).f0) x6).f0) ((rd_T30 ((rd_T28 x108001 x5).f0) x6).f1) ((rd_T30 ((rd_T28 x108001 x5).f0) x6).f2) ((rd_T30 ((rd_T28 x108001 x5).f0) x6).f3) ((rd_T30 ((rd_T28 x108001 x5).f0) x6).f4) ((rd_T30 ((rd_T28 x108001 x5).f0) x6).f5)).bind fun t117 => (if t117 = true then (swageref14_Same.l1 k x5 (wrap64 (x6 + 1)) x107000 x107001 x108000 x108001) else (some false))) else (none)) else (none)) else (none)) else (swageref14_Same.l0 k (wrap64 (x5 + 1)) x107000 x107001 x108000 x108001)) else (none)) else (none)
end
def swageref14_Same.f (k : Nat) (a0_0 : Int) (l0_1 : List (S28)) (a1_0 : Int) (l1_1 : List (S28)) : Option (Bool) := if a0_0 = a1_0 then (swageref14_Same.j0 k ((l0_1.length : Int) != (l1_1.length : Int)) a0_0 l0_1 a1_0 l1_1) else (swageref14_Same.j0 k true a0_0 l0_1 a1_0 l1_1)
theorem swageref14_Same.mono_l : ∀ k, (∀ y0 y1 y2 y3 y4, LeO (swageref14_Same.j0 k y0 y1 y2 y3 y4) (swageref14_Same.j0 (k + 1) y0 y1 y2 y3 y4)) ∧ (∀ y0 y1 y2 y3 y4, LeO (swageref14_Same.l0 k y0 y1 y2 y3 y4) (swageref14_Same.l0 (k + 1) y0 y1 y2 y3 y4)) ∧ (∀ y0 y1 y2 y3 y4 y5, LeO (swageref14_Same.j2 k y0 y1 y2 y3 y4 y5) (swageref14_Same.j2 (k + 1) y0 y1 y2 y3 y4 y5)) ∧ (∀ y0 y1 y2 y3 y4 y5, LeO (swageref14_Same.l1 k y0 y1 y2 y3 y4 y5) (swageref14_Same.l1 (k + 1) y0 y1 y2 y3 y4 y5))
  | 0 => ⟨fun _ _ _ _ _ r h => by simp [swageref14_Same.j0] at h, fun _ _ _ _ _ r h => by simp [swageref14_Same.l0] at h, fun _ _ _ _ _ _ r h => by simp [swageref14_Same.j2] at h, fun _ _ _ _ _ _ r h => by simp [swageref14_Same.l1] at h⟩
  | k + 1 => by
    obtain ⟨ih0, ih1, ih2, ih3⟩ := swageref14_Same.mono_l k
    refine ⟨?_, ?_, ?_, ?_⟩
    · intro y0 y1 y2 y3 y4
      unfold swageref14_Same.j0
      repeat' first
      | (with_reducible exact ih0 _ _ _ _ _)
      | (with_reducible exact ih1 _ _ _ _ _)
      | (with_reducible exact ih2 _ _ _ _ _ _)
      | (with_reducible exact ih3 _ _ _ _ _ _)
      | (with_reducible exact swageref14_SameOp.mono _ _ _ _ _ _ _ _ _ _ _ _ _)
      | (with_reducible exact LeO.refl _)
      | (with_reducible exact LeO.none _)
      | (with_reducible refine LeO.ite ?_ ?_)
      | (with_reducible refine LeO.bind ?_ (fun _ => ?_))
      | exact ih0 _ _ _ _ _
      | exact ih1 _ _ _ _ _
      | exact ih2 _ _ _ _ _ _
      | exact ih3 _ _ _ _ _ _
      | exact swageref14_SameOp.mono _ _ _ _ _ _ _ _ _ _ _ _ _
      | exact LeO.none _
      | refine LeO.ite ?_ ?_
      | refine LeO.bind ?_ (fun _ => ?_)
    · intro y0 y1 y2 y3 y4
      unfold swageref14_Same.l0
      repeat' first
      | (with_reducible exact ih0 _ _ _ _ _)
      | (with_reducible exact ih1 _ _ _ _ _)
      | (with_reducible exact ih2 _ _ _ _ _ _)
      | (with_reducible exact ih3 _ _ _ _ _ _)
      | (with_reducible exact swageref14_SameOp.mono _ _ _ _ _ _ _ _ _ _ _ _ _)
      | (with_reducible exact LeO.refl _)
      | (with_reducible exact LeO.none _)
      | (with_reducible refine LeO.ite ?_ ?_)
      | (with_reducible refine LeO.bind ?_ (fun _ => ?_))
      | exact ih0 _ _ _ _ _
      | exact ih1 _ _ _ _ _
      | exact ih2 _ _ _ _ _ _
      | exact ih3 _ _ _ _ _ _
      | exact swageref14_SameOp.mono _ _ _ _ _ _ _ _ _ _ _ _ _
      | exact LeO.none _
      | refine LeO.ite ?_ ?_
      | refine LeO.bind ?_ (fun _ => ?_)
    · intro y0 y1 y2 y3 y4 y5
      unfold swageref14_Same.j2
      repeat' first
      | (with_reducible exact ih0 _ _ _ _ _)
      | (with_reducible exact ih1 _ _ _ _ _)
      | (with_reducible exact ih2 _ _ _ _ _ _)
      | (with_reducible exact ih3 _ _ _ _ _ _)
      | (with_reducible exact swageref14_SameOp.mono _ _ _ _ _ _ _ _ _ _ _ _ _)
      | (with_reducible exact LeO.refl _)
      | (with_reducible exact LeO.none _)
      | (with_reducible refine LeO.ite ?_ ?_)
      | (with_reducible refine LeO.bind ?_ (fun _ => ?_))
      | exact ih0 _ _ _ _ _
      | exact ih1 _ _ _ _ _
      | exact ih2 _ _ _ _ _ _
      | exact ih3 _ _ _ _ _ _
      | exact swageref14_SameOp.mono _ _ _ _ _ _ _ _ _ _ _ _ _
      | exact LeO.none _
      | refine LeO.ite ?_ ?_
      | refine LeO.bind ?_ (fun _ => ?_)
    · intro y0 y1 y2 y3 y4 y5
      unfold swageref14_Same.l1
      repeat' first
      | (with_reducible exact ih0 _ _ _ _ _)
      | (with_reducible exact ih1 _ _ _ _ _)
      | (with_reducible exact ih2 _ _ _ _ _ _)
      | (with_reducible exact ih3 _ _ _ _ _ _)
      | (with_reducible exact swageref14_SameOp.mono _ _ _ _ _ _ _ _ _ _ _ _ _)
      | (with_reducible exact LeO.refl _)
      | (with_reducible exact LeO.none _)
      | (with_reducible refine LeO.ite ?_ ?_)
      | (with_reducible refine LeO.bind ?_ (fun _ => ?_))
      | exact ih0 _ _ _ _ _
      | exact ih1 _ _ _ _ _
      | exact ih2 _ _ _ _ _ _
      | exact ih3 _ _ _ _ _ _
      | exact swageref14_SameOp.mono _ _ _ _ _ _ _ _ _ _ _ _ _
      | exact LeO.none _
      | refine LeO.ite ?_ ?_
      | refine LeO.bind ?_ (fun _ => ?_)
theorem swageref14_Same.mono : ∀ a0 a1 a2 a3 k, LeO (swageref14_Same.f k a0 a1 a2 a3) (swageref14_Same.f (k + 1) a0 a1 a2 a3) := by
  intro a0 a1 a2 a3 k
  obtain ⟨ih0, ih1, ih2, ih3⟩ := swageref14_Same.mono_l k
  unfold swageref14_Same.f
  repeat' first
      | (with_reducible exact ih0 _ _ _ _ _)
      | (with_reducible exact ih1 _ _ _ _ _)
      | (with_reducible exact ih2 _ _ _ _ _ _)
      | (with_reducible exact ih3 _ _ _ _ _ _)
      | (with_reducible exact swageref14_SameOp.mono _ _ _ _ _ _ _ _ _ _ _ _ _)
      | (with_reducible exact LeO.refl _)
      | (with_reducible exact LeO.none _)
      | (with_reducible refine LeO.ite ?_ ?_)
      | (with_reducible refine LeO.bind ?_ (fun _ => ?_))
      | exact ih0 _ _ _ _ _
      | exact ih1 _ _ _ _ _
      | exact ih2 _ _ _ _ _ _
      | exact ih3 _ _ _ _ _ _
      | exact swageref14_SameOp.mono _ _ _ _ _ _ _ _ _ _ _ _ _
      | exact LeO.none _
      | refine LeO.ite ?_ ?_
      | refine LeO.bind ?_ (fun _ => ?_)
def swageref14_Same.T6 : Bool × List (List Nat × List Nat) := (true, [([], []), ([0], [0]), ([], []), ([1, 2], [1, 2]), ([3], [3]), ([4], [4]), ([], []), ([6], [6]), ([], []), ([7, 8], [7, 8]), ([9], [9]), ([10], [10]), ([5, 11], [5, 11]), ([12], [12]), ([13], [13]), ([14, 13], [13, 14]), ([13], [13]), ([15, 16, 13], [13, 15, 16]), ([17, 13], [13, 17]), ([18, 13], [13, 18]), ([19, 13], [13, 19]), ([13], [13]), ([21, 13], [13, 21]), ([13], [13]), ([22, 23, 13], [13, 22, 23]), ([24, 13], [13, 24]), ([25, 13], [13, 25]), ([26, 13], [13, 26]), ([20, 27, 13], [13, 20, 27]), ([13, 28], [13, 28])])
def swageref14_Same.B6 : List Nat := [0, 1, 0, 7, 15, 31, 0, 64, 0, 448, 960, 1984, 4095, 8191, 16383, 32767, 16383, 131071, 262143, 524287, 1048575, 16383, 2113535, 16383, 14696447, 31473663, 65028095, 132136959, 268435455, 536870911]
theorem swageref14_Same.tab6 : rtab .any (opsOf Try.f16 6) = swageref14_Same.T6 := by kernel_rfl
theorem swageref14_Same.bits6 : waitsOk swageref14_Same.T6.2 swageref14_Same.B6 = true := by kernel_rfl
def swageref14_Same.T11 : Bool × List (List Nat × List Nat) := (true, [([], []), ([0], [0]), ([], []), ([1, 2], [1, 2]), ([3], [3]), ([4], [4]), ([], []), ([5, 6], [5, 6]), ([7], [7]), ([], []), ([9], [9]), ([], []), ([10, 11], [10, 11]), ([12], [12]), ([13], [13]), ([], []), ([14, 15], [14, 15]), ([16], [16]), ([8, 17], [8, 17]), ([18, 18, 0, 1, 2, 3, 4, 5, 6, 7, 8, 9, 10, 11, 12, 13, 14, 15, 16, 17, 18], [18])])
def swageref14_Same.B11 : List Nat := [0, 1, 0, 7, 15, 31, 0, 127, 255, 0, 512, 0, 3584, 7680, 15872, 0, 65024, 130560, 262143, 524287]
theorem swageref14_Same.tab11 : rtab .any (opsOf Try.f16 11) = swageref14_Same.T11 := by kernel_rfl
theorem swageref14_Same.bits11 : waitsOk swageref14_Same.T11.2 swageref14_Same.B11 = true := by kernel_rfl
set_option maxHeartbeats 8000000 in
set_option maxRecDepth 100000 in
theorem swageref14_Same.calls (k : Nat) (a0_0 : Int) (A0_1 : Option Addr) (c0_1 : Nat) (l0_1 : List (S28)) (a1_0 : Int) (A1_1 : Option Addr) (c1_1 : Nat) (l1_1 : List (S28)) (r : Bool) (w : World) (hr0_1 : Kd.C k28 w A0_1 l0_1.length l0_1) (hc0_1 : l0_1.length ≤ c0_1) (hr1_1 : Kd.C k28 w A1_1 l1_1.length l1_1) (hc1_1 : l1_1.length ≤ c1_1) (h : swageref14_Same.f k a0_0 l0_1 a1_0 l1_1 = some r) :
    Calls Try.prog 16 #[.agg #[.int .i64 a0_0, .slice A0_1 l0_1.length c0_1], .agg #[.int .i64 a1_0, .slice A1_1 l1_1.length c1_1]] w fun e w' => e = .returned (.bool r) ∧ Below w.heap.size w w' := by
  have hu36 := Try.underlying36
  have hu25 := Try.underlying25
  have hu30 := Try.underlying30
  have HR0_1 := Aside0.mk hr0_1
  have HC0_1 := Aside0.mk hc0_1
  clear hr0_1 hc0_1
  have HR1_1 := Aside0.mk hr1_1
  have HC1_1 := Aside0.mk hc1_1
  clear hr1_1 hc1_1
  have HB := Aside0.mk (Below.refl w.heap.size w)
  have H : (if a0_0 = a1_0 then (swageref14_Same.j0 k ((l0_1.length : Int) != (l1_1.length : Int)) a0_0 l0_1 a1_0 l1_1) else (swageref14_Same.j0 k true a0_0 l0_1 a1_0 l1_1)) = some r := h
  clear h
  have HC3 := Aside0.mk H
  clear H
  go_enter Try.func16, Try.ntmps16
  go_upto_region 1 with (first | ((with_reducible refine gate_dst (N := 2) rfl ?_); (try (refine gate_guard (by rfl) ?_; dsimp only)); refine box_event ?hg (N := 2) ?hd (cs := #[.int .i64 a0_0, .slice A0_1 l0_1.length c0_1]) (t := 36) ?hr ?_; (case hd => rfl); (case hg => rfl); (case hr => first | (go_simp; done) | (go_simp; rfl)); intro gb106 hg w4 hbox hb; have n0_ := Aside0.mk (below_step (by repeat (first | (with_reducible first | exact HB.out | apply below_alloc | apply pw_below_drewN | apply below_drew1) | exact HB.out)) hb); have n1_ := Aside0.mk (hbox); have n2_ := Aside0.mk ((by rw [hg]; exact (below_size (by repeat (first | (with_reducible first | exact HB.out | apply below_alloc | apply pw_below_drewN | apply below_drew1) | exact HB.out))) : w.heap.size ≤ gb106)); have n3_ := Aside0.mk ((by rw [hg]; exact (below_size (by repeat (first | (with_reducible first | exact HB.out | apply below_alloc | apply pw_below_drewN | apply below_drew1) | exact HB.out))) : w.heap.size ≤ gb106)); clear HB; have HB := n0_; have BK106 := n1_; have GW106 := n2_; have GE106 := n3_; clear n0_ n1_ n2_ n3_; clear hb hbox hg) | ((with_reducible refine gate_dst (N := 3) rfl ?_); (try (refine gate_guard (by rfl) ?_; dsimp only)); refine box_event ?hg (N := 3) ?hd (cs := #[.int .i64 a1_0, .slice A1_1 l1_1.length c1_1]) (t := 36) ?hr ?_; (case hd => rfl); (case hg => rfl); (case hr => first | (go_simp; done) | (go_simp; rfl)); intro gb107 hg w5 hbox hb; have n0_ := Aside0.mk (blk_below (g := gb106) (o := .cells #[.int .i64 a0_0, .slice A0_1 l0_1.length c0_1] 36 (0, 0)) (by (with_reducible repeat (first | refine blk_drewN ?_ _ | refine blk_drew ?_ | refine blk_alloc ?_ _)); exact BK106.out) hb); have n1_ := Aside0.mk (below_step (by repeat (first | (with_reducible first | exact HB.out | apply below_alloc | apply pw_below_drewN | apply below_drew1 | refine below_set ?_ GE106.out) | exact HB.out)) hb); have n2_ := Aside0.mk (hbox); have n3_ := Aside0.mk ((by rw [hg]; exact (below_size (by repeat (first | (with_reducible first | exact HB.out | apply below_alloc | apply pw_below_drewN | apply below_drew1 | refine below_set ?_ GE106.out) | exact HB.out))) : w.heap.size ≤ gb107)); have n4_ := Aside0.mk ((by rw [hg]; exact (below_size (by repeat (first | (with_reducible first | exact HB.out | apply below_alloc | apply pw_below_drewN | apply below_drew1 | refine below_set ?_ GE106.out) | exact HB.out))) : w.heap.size ≤ gb107)); have n5_ := Aside0.mk ((by rw [hg]; exact Nat.ne_of_lt (blk_lt (g := gb106) (o := .cells #[.int .i64 a0_0, .slice A0_1 l0_1.length c0_1] 36 (0, 0)) (by (with_reducible repeat (first | refine blk_drewN ?_ _ | refine blk_drew ?_ | refine blk_alloc ?_ _)); exact BK106.out)) : gb106 ≠ gb107)); have n6_ := Aside0.mk ((by rw [hg]; exact Nat.ne_of_gt (blk_lt (g := gb106) (o := .cells #[.int .i64 a0_0, .slice A0_1 l0_1.length c0_1] 36 (0, 0)) (by (with_reducible repeat (first | refine blk_drewN ?_ _ | refine blk_drew ?_ | refine blk_alloc ?_ _)); exact BK106.out)) : gb107 ≠ gb106)); clear BK106; clear HB; have BK106 := n0_; have HB := n1_; have BK107 := n2_; have GW107 := n3_; have GE107 := n4_; have NB106_107 := n5_; have NB107_106 := n6_; clear n0_ n1_ n2_ n3_ n4_ n5_ n6_; clear hb hbox hg))
  (try simp only [Act.put, List.setIfInBounds_toArray, List.set_cons_zero, List.set_cons_succ])
  go_cut [21] (fun v21 wc => ∃ (kq : Nat) (x21_2 : Bool), v21 = .bool x21_2 ∧ Aside0 (swageref14_Same.j0 kq x21_2 a0_0 l0_1 a1_0 l1_1 = some r) ∧ Aside0 (kq ≤ k) ∧ Aside0 (wc.heap[gb106]? = some (.cells #[.int .i64 a0_0, (.slice A0_1 l0_1.length c0_1)] 36 (0, 0))) ∧ Aside0 (wc.heap[gb107]? = some (.cells #[.int .i64 a1_0, (.slice A1_1 l1_1.length c1_1)] 36 (0, 0))) ∧ Aside0 (Below w.heap.size w wc))
  case first =>
    have H := HC3.out
    clear HC3
    by_cases c6 : a0_0 = a1_0
    · rw [if_pos c6] at H
      have c6b0 : (a0_0 == a1_0) = true := beq_iff_eq.mpr c6
      have c6b1 : (a0_0 != a1_0) = false := bne_eq_false_iff_eq.mpr c6
      clear c6
      (first | rw [c6b0] | (simp only [i64_w, i32_w]; rw [c6b0]) | skip)
      have H' := Aside0.mk H
      clear H
      have hnb7 := NB106_107.out
      have hnc7 := NB107_106.out
      have hcz8_0 : w5.cell? ⟨gb106, 0, none⟩ = some (.int .i64 a0_0) := (blk_cell BK106.out 0).trans rfl
      have hcz8_1 : w5.cell? ⟨gb106, 1, none⟩ = some (.slice A0_1 l0_1.length c0_1) := (blk_cell BK106.out 1).trans rfl
      have hfz8_0 := blk_frozen BK106.out 0
      have hfz8_1 := blk_frozen BK106.out 1
      have hcz9_0 : w5.cell? ⟨gb107, 0, none⟩ = some (.int .i64 a1_0) := (blk_cell BK107.out 0).trans rfl
      have hcz9_1 : w5.cell? ⟨gb107, 1, none⟩ = some (.slice A1_1 l1_1.length c1_1) := (blk_cell BK107.out 1).trans rfl
      have hfz9_0 := blk_frozen BK107.out 0
      have hfz9_1 := blk_frozen BK107.out 1
      go_wp2
      go_meet
      case rel => exact ⟨_, (((l0_1.length : Int) != (l1_1.length : Int))), (by first | rfl | (simp; done) | (simp [*]; done)), H', ⟨by first | omega | exact Nat.le_refl _⟩, ⟨by (with_reducible repeat (first | refine blk_drewN ?_ _ | refine blk_drew ?_ | refine blk_alloc ?_ _)); exact BK106.out⟩, ⟨by (with_reducible repeat (first | refine blk_drewN ?_ _ | refine blk_drew ?_ | refine blk_alloc ?_ _)); exact BK107.out⟩, ⟨by repeat (first | (with_reducible first | exact HB.out | apply below_alloc | apply pw_below_drewN | apply below_drew1 | refine below_set ?_ GE106.out | refine below_set ?_ GE107.out) | exact HB.out)⟩⟩
    · rw [if_neg c6] at H
      have c6b0 : (a0_0 == a1_0) = false := beq_eq_false_iff_ne.mpr c6
      have c6b1 : (a0_0 != a1_0) = true := bne_iff_ne.mpr c6
      (first | rw [c6b0] | (simp only [i64_w, i32_w]; rw [c6b0]) | skip)
      have H' := Aside0.mk H
      clear H
      have hnb10 := NB106_107.out
      have hnc10 := NB107_106.out
      have hcz11_0 : w5.cell? ⟨gb106, 0, none⟩ = some (.int .i64 a0_0) := (blk_cell BK106.out 0).trans rfl
      have hcz11_1 : w5.cell? ⟨gb106, 1, none⟩ = some (.slice A0_1 l0_1.length c0_1) := (blk_cell BK106.out 1).trans rfl
      have hfz11_0 := blk_frozen BK106.out 0
      have hfz11_1 := blk_frozen BK106.out 1
      have hcz12_0 : w5.cell? ⟨gb107, 0, none⟩ = some (.int .i64 a1_0) := (blk_cell BK107.out 0).trans rfl
      have hcz12_1 : w5.cell? ⟨gb107, 1, none⟩ = some (.slice A1_1 l1_1.length c1_1) := (blk_cell BK107.out 1).trans rfl
      have hfz12_0 := blk_frozen BK107.out 0
      have hfz12_1 := blk_frozen BK107.out 1
      go_wp2
      go_meet
      case rel => exact ⟨_, (true), (by first | rfl | (simp; done) | (simp [*]; done)), H', ⟨by first | omega | exact Nat.le_refl _⟩, ⟨by (with_reducible repeat (first | refine blk_drewN ?_ _ | refine blk_drew ?_ | refine blk_alloc ?_ _)); exact BK106.out⟩, ⟨by (with_reducible repeat (first | refine blk_drewN ?_ _ | refine blk_drew ?_ | refine blk_alloc ?_ _)); exact BK107.out⟩, ⟨by repeat (first | (with_reducible first | exact HB.out | apply below_alloc | apply pw_below_drewN | apply below_drew1 | refine below_set ?_ GE106.out | refine below_set ?_ GE107.out) | exact HB.out)⟩⟩
  case rest =>
    clear HC3
    try clear c1
    try clear p2
    try clear c6
    try clear c6b0
    try clear c6b1
    try clear c7
    try clear c10
    try clear hcz11_0
    try clear hcz11_1
    try clear hcz12_0
    try clear hcz12_1
    try clear hcz8_0
    try clear hcz8_1
    try clear hcz9_0
    try clear hcz9_1
    try clear hfz11_0
    try clear hfz11_1
    try clear hfz12_0
    try clear hfz12_1
    try clear hfz8_0
    try clear hfz8_1
    try clear hfz9_0
    try clear hfz9_1
    obtain ⟨kq, x21_2, rfl, HA, HJ2, BK106, BK107, HB⟩ := hcut
    cases kq with
    | zero => exact absurd HA.out (by simp [swageref14_Same.j0])
    | succ kj2 =>
      have H := HA.out
      clear HA
      simp only [swageref14_Same.j0] at H
      by_cases c13 : x21_2 = true
      · subst c13
        have H1 : (some false) = some r := by rw [if_pos rfl] at H; exact H
        clear H
        have H := H1
        clear H1
        obtain rfl := Option.some.inj H
        go_wp2
        go_ret
        exact ⟨by first | rfl | (simp [errW_none, errW_some] <;> rfl) | (simp [*, errW_none, errW_some] <;> rfl), by repeat (first | (with_reducible first | exact HB.out | apply below_alloc | apply pw_below_drewN | apply below_drew1 | refine below_set ?_ GE106.out | refine below_set ?_ GE107.out) | exact HB.out)⟩
      · replace c13 := Bool.eq_false_iff.mpr c13
        subst c13
        have H1 : (swageref14_Same.l0 kj2 0 a0_0 l0_1 a1_0 l1_1) = some r := by rw [if_neg (show ¬ (false = true) by decide)] at H; exact H
        clear H
        have H := H1
        clear H1
        have H' := Aside0.mk H
        clear H
        go_wp2
        go_loopg [5] kj2 (fun kq v5 w' => ∃ (x5_2 : Int), v5 = .int .i64 x5_2 ∧ Aside0 (swageref14_Same.l0 kq x5_2 a0_0 l0_1 a1_0 l1_1 = some r) ∧ Aside0 (kq ≤ kj2) ∧ Aside0 (w'.heap[gb106]? = some (.cells #[.int .i64 a0_0, (.slice A0_1 l0_1.length c0_1)] 36 (0, 0))) ∧ Aside0 (w'.heap[gb107]? = some (.cells #[.int .i64 a1_0, (.slice A1_1 l1_1.length c1_1)] 36 (0, 0))) ∧ Aside0 (Below w.heap.size w w'))
        case atStart => exact ⟨(0), (by first | rfl | (simp; done) | (simp [*]; done)), H', ⟨Nat.le_refl _⟩, ⟨by (with_reducible repeat (first | refine blk_drewN ?_ _ | refine blk_drew ?_ | refine blk_alloc ?_ _)); exact BK106.out⟩, ⟨by (with_reducible repeat (first | refine blk_drewN ?_ _ | refine blk_drew ?_ | refine blk_alloc ?_ _)); exact BK107.out⟩, ⟨by repeat (first | (with_reducible first | exact HB.out | apply below_alloc | apply pw_below_drewN | apply below_drew1 | refine below_set ?_ GE106.out | refine below_set ?_ GE107.out) | exact HB.out)⟩⟩
        case round =>
          clear H'
          try clear c1
          try clear p2
          try clear c6
          try clear c6b0
          try clear c6b1
          try clear c7
          try clear c10
          try clear c13
          try clear hcz11_0
          try clear hcz11_1
          try clear hcz12_0
          try clear hcz12_1
          try clear hcz8_0
          try clear hcz8_1
          try clear hcz9_0
          try clear hcz9_1
          try clear hfz11_0
          try clear hfz11_1
          try clear hfz12_0
          try clear hfz12_1
          try clear hfz8_0
          try clear hfz8_1
          try clear hfz9_0
          try clear hfz9_1
          try clear p2
          obtain ⟨x5_2, rfl, HA, HK2, BK106, BK107, HB⟩ := hrel
          cases gk with
          | zero => exact absurd HA.out (by simp [swageref14_Same.l0])
          | succ k2 =>
            have H := HA.out
            clear HA
            simp only [swageref14_Same.l0] at H
            by_cases c14 : x5_2 < (l0_1.length : Int)
            · rw [if_pos c14] at H
              have c14b0 : decide (x5_2 < (l0_1.length : Int)) = true := decide_eq_true c14
              clear c14
              have HC15 := Aside0.mk H
              clear H
              have hnb16 := NB106_107.out
              have hnc16 := NB107_106.out
              have hcz17_0 : wr.cell? ⟨gb106, 0, none⟩ = some (.int .i64 a0_0) := (blk_cell BK106.out 0).trans rfl
              have hcz17_1 : wr.cell? ⟨gb106, 1, none⟩ = some (.slice A0_1 l0_1.length c0_1) := (blk_cell BK106.out 1).trans rfl
              have hfz17_0 := blk_frozen BK106.out 0
              have hfz17_1 := blk_frozen BK106.out 1
              go_upto_region 6 with (fail)
              go_cut [58] (fun v58 wc => ∃ (kq : Nat) (x58_14 : Bool), v58 = .bool x58_14 ∧ Aside0 (swageref14_Same.j2 kq x5_2 x58_14 a0_0 l0_1 a1_0 l1_1 = some r) ∧ Aside0 (kq ≤ k2) ∧ Aside0 (wc.heap[gb106]? = some (.cells #[.int .i64 a0_0, (.slice A0_1 l0_1.length c0_1)] 36 (0, 0))) ∧ Aside0 (wc.heap[gb107]? = some (.cells #[.int .i64 a1_0, (.slice A1_1 l1_1.length c1_1)] 36 (0, 0))) ∧ Aside0 (Below w.heap.size w wc))
              case first =>
                have H := HC15.out
                clear HC15
                by_cases c18 : 0 ≤ x5_2
                · rw [if_pos c18] at H
                  have c18b0 : decide (0 ≤ x5_2) = true := decide_eq_true c18
                  clear c18
                  (first | rw [c18b0] | (simp only [i64_w, i32_w]; rw [c18b0]) | skip)
                  by_cases c19 : x5_2 < (l1_1.length : Int)
                  · rw [if_pos c19] at H
                    have c19b0 : decide (x5_2 < (l1_1.length : Int)) = true := decide_eq_true c19
                    clear c19
                    by_cases c20 : (!(((rd_T28 l0_1 x5_2).f1.f0) == ((rd_T28 l1_1 x5_2).f1.f0)) || (!(((rd_T28 l0_1 x5_2).f1.f1) == ((rd_T28 l1_1 x5_2).f1.f1)) || (!(((rd_T28 l0_1 x5_2).f1.f2) == ((rd_T28 l1_1 x5_2).f1.f2)) || (!(((rd_T28 l0_1 x5_2).f1.f3) == ((rd_T28 l1_1 x5_2).f1.f3)))))) = true
                    · rw [if_pos c20] at H
                      have c20b0 : (!(((rd_T28 l0_1 x5_2).f1.f0) == ((rd_T28 l1_1 x5_2).f1.f0)) || (!(((rd_T28 l0_1 x5_2).f1.f1) == ((rd_T28 l1_1 x5_2).f1.f1)) || (!(((rd_T28 l0_1 x5_2).f1.f2) == ((rd_T28 l1_1 x5_2).f1.f2)) || (!(((rd_T28 l0_1 x5_2).f1.f3) == ((rd_T28 l1_1 x5_2).f1.f3)))))) = true := c20
                      clear c20
                      have H' := Aside0.mk H
                      clear H
                      try go_wp2
                      have n0_ := Aside0.mk (blk_drew BK106.out)
                      have n1_ := Aside0.mk (blk_drew BK107.out)
                      have n2_ := Aside0.mk (below_drew1 HB.out)
                      clear BK106
                      clear BK107
                      clear HB
                      have BK106 := n0_
                      have BK107 := n1_
                      have HB := n2_
                      clear n0_ n1_ n2_
                      have p108 : 0 ≤ (x5_2 : Int) := of_decide_eq_true (by first | (with_reducible assumption) | assumption)
                      have q108 : x5_2 < (l0_1.length : Int) := of_decide_eq_true (by first | (with_reducible assumption) | assumption)
                      obtain ⟨ad108, A108_0, c108_0, e108, hx108_0, hx108_1, hx108_2, hx108_3, hx108_4, hl108_0, hi108_0⟩ := at_T28 HR0_1.out x5_2 p108 q108
                      have hw108_4 := hx108_4
                      have hw108_3 := hx108_3
                      have hw108_2 := hx108_2
                      have hw108_1 := hx108_1
                      have hw108_0 := hx108_0
                      cases e108
                      replace hx108_0 := (HB.out.cell (World.block_lt_of_cell? w _ hx108_0)).trans hx108_0
                      replace hx108_1 := (HB.out.cell (World.block_lt_of_cell? w _ hx108_1)).trans hx108_1
                      replace hx108_2 := (HB.out.cell (World.block_lt_of_cell? w _ hx108_2)).trans hx108_2
                      replace hx108_3 := (HB.out.cell (World.block_lt_of_cell? w _ hx108_3)).trans hx108_3
                      replace hx108_4 := (HB.out.cell (World.block_lt_of_cell? w _ hx108_4)).trans hx108_4
                      have HR108_0 := Aside0.mk hi108_0
                      have HC108_0 := Aside0.mk hl108_0
                      clear hi108_0 hl108_0
                      replace p108 := eq_true p108
                      replace q108 := eq_true q108
                      have p109 : 0 ≤ (x5_2 : Int) := of_decide_eq_true (by first | (with_reducible assumption) | assumption)
                      have q109 : x5_2 < (l1_1.length : Int) := of_decide_eq_true (by first | (with_reducible assumption) | assumption)
                      obtain ⟨ad109, A109_0, c109_0, e109, hx109_0, hx109_1, hx109_2, hx109_3, hx109_4, hl109_0, hi109_0⟩ := at_T28 HR1_1.out x5_2 p109 q109
                      have hw109_4 := hx109_4
                      have hw109_3 := hx109_3
                      have hw109_2 := hx109_2
                      have hw109_1 := hx109_1
                      have hw109_0 := hx109_0
                      cases e109
                      replace hx109_0 := (HB.out.cell (World.block_lt_of_cell? w _ hx109_0)).trans hx109_0
                      replace hx109_1 := (HB.out.cell (World.block_lt_of_cell? w _ hx109_1)).trans hx109_1
                      replace hx109_2 := (HB.out.cell (World.block_lt_of_cell? w _ hx109_2)).trans hx109_2
                      replace hx109_3 := (HB.out.cell (World.block_lt_of_cell? w _ hx109_3)).trans hx109_3
                      replace hx109_4 := (HB.out.cell (World.block_lt_of_cell? w _ hx109_4)).trans hx109_4
                      have HR109_0 := Aside0.mk hi109_0
                      have HC109_0 := Aside0.mk hl109_0
                      clear hi109_0 hl109_0
                      replace p109 := eq_true p109
                      replace q109 := eq_true q109
                      refine start_ (n := 30) (S := fun w' => w'.cell? ⟨gb106, 0, none⟩ = some (.int .i64 a0_0) ∧ w'.cell? ⟨gb106, 1, none⟩ = some (.slice (some ad108) l0_1.length c0_1) ∧ w'.cell? ⟨gb107, 0, none⟩ = some (.int .i64 a1_0) ∧ w'.cell? ⟨gb107, 1, none⟩ = some (.slice (some ad109) l1_1.length c1_1) ∧ w'.cell? (ad108.add ((x5_2).toNat * 5)) = some (.slice A108_0 ((rd_T28 l0_1 x5_2).f0).length c108_0) ∧ w'.cell? ⟨(ad108.add ((x5_2).toNat * 5)).block, (ad108.add ((x5_2).toNat * 5)).off + 1, none⟩ = some (.int .i64 ((rd_T28 l0_1 x5_2).f1.f0)) ∧ w'.cell? ⟨(ad108.add ((x5_2).toNat * 5)).block, (ad108.add ((x5_2).toNat * 5)).off + 2, none⟩ = some (.int .i64 ((rd_T28 l0_1 x5_2).f1.f1)) ∧ w'.cell? ⟨(ad108.add ((x5_2).toNat * 5)).block, (ad108.add ((x5_2).toNat * 5)).off + 3, none⟩ = some (.int .i64 ((rd_T28 l0_1 x5_2).f1.f2)) ∧ w'.cell? ⟨(ad108.add ((x5_2).toNat * 5)).block, (ad108.add ((x5_2).toNat * 5)).off + 4, none⟩ = some (.int .i64 ((rd_T28 l0_1 x5_2).f1.f3)) ∧ w'.cell? (ad109.add ((x5_2).toNat * 5)) = some (.slice A109_0 ((rd_T28 l1_1 x5_2).f0).length c109_0) ∧ w'.cell? ⟨(ad109.add ((x5_2).toNat * 5)).block, (ad109.add ((x5_2).toNat * 5)).off + 1, none⟩ = some (.int .i64 ((rd_T28 l1_1 x5_2).f1.f0)) ∧ w'.cell? ⟨(ad109.add ((x5_2).toNat * 5)).block, (ad109.add ((x5_2).toNat * 5)).off + 2, none⟩ = some (.int .i64 ((rd_T28 l1_1 x5_2).f1.f1)) ∧ w'.cell? ⟨(ad109.add ((x5_2).toNat * 5)).block, (ad109.add ((x5_2).toNat * 5)).off + 3, none⟩ = some (.int .i64 ((rd_T28 l1_1 x5_2).f1.f2)) ∧ w'.cell? ⟨(ad109.add ((x5_2).toNat * 5)).block, (ad109.add ((x5_2).toNat * 5)).off + 4, none⟩ = some (.int .i64 ((rd_T28 l1_1 x5_2).f1.f3))) (ds := []) #[false, false, false, false, false, false, false, false, false, false, false, false, false, false, false, false, false, false, false, false, false, false, false, false, false, false, false, false, false, false] (by kernel_rfl) rfl rfl ⟨(blk_cell BK106.out 0).trans rfl, (blk_cell BK106.out 1).trans rfl, (blk_cell BK107.out 0).trans rfl, (blk_cell BK107.out 1).trans rfl, ((HB.out.cell (World.block_lt_of_cell? w _ hw108_0)).trans hw108_0), ((HB.out.cell (World.block_lt_of_cell? w _ hw108_1)).trans hw108_1), ((HB.out.cell (World.block_lt_of_cell? w _ hw108_2)).trans hw108_2), ((HB.out.cell (World.block_lt_of_cell? w _ hw108_3)).trans hw108_3), ((HB.out.cell (World.block_lt_of_cell? w _ hw108_4)).trans hw108_4), ((HB.out.cell (World.block_lt_of_cell? w _ hw109_0)).trans hw109_0), ((HB.out.cell (World.block_lt_of_cell? w _ hw109_1)).trans hw109_1), ((HB.out.cell (World.block_lt_of_cell? w _ hw109_2)).trans hw109_2), ((HB.out.cell (World.block_lt_of_cell? w _ hw109_3)).trans hw109_3), ((HB.out.cell (World.block_lt_of_cell? w _ hw109_4)).trans hw109_4)⟩ (fun hHeld => ?_); refine with_tabW swageref14_Same.tab6 swageref14_Same.bits6 (fun HT_ HW_ => ?_)
                      generalize wr.drew = w21 at BK106 BK107 HB HR108_0 HR109_0 hx108_0 hx108_1 hx108_2 hx108_3 hx108_4 hx109_0 hx109_1 hx109_2 hx109_3 hx109_4 hHeld ⊢
                      refine pure_ (i := 0) (N := some 29) (v := ?_) (a' := ?_) #[true, false, false, false, false, false, false, false, false, false, false, false, false, false, false, false, false, false, false, false, false, false, false, false, false, false, false, false, false, false] rfl rfl (any_of HT_.out (by kernel_rfl)) (fun _ _ _ h => h) (Or.inl ⟨by rfl, ?_⟩) ?_ ?_
                      rotate_left
                      · intro w'
                        go_simp
                        with_reducible rfl
                      rotate_left
                      · simp only [Act.put, List.setIfInBounds_toArray, List.set_cons_zero, List.set_cons_succ, i64_w, i32_w]
                        rfl
                      refine pure_ (i := 2) (N := some 31) (v := ?_) (a' := ?_) #[true, false, true, false, false, false, false, false, false, false, false, false, false, false, false, false, false, false, false, false, false, false, false, false, false, false, false, false, false, false] rfl rfl (any_of HT_.out (by kernel_rfl)) (fun _ _ _ h => h) (Or.inl ⟨by rfl, ?_⟩) ?_ ?_
                      rotate_left
                      · intro w'
                        go_simp
                        with_reducible rfl
                      rotate_left
                      · simp only [Act.put, List.setIfInBounds_toArray, List.set_cons_zero, List.set_cons_succ, i64_w, i32_w]
                        rfl
                      refine pure_ (i := 6) (N := some 35) (v := ?_) (a' := ?_) #[true, false, true, false, false, false, true, false, false, false, false, false, false, false, false, false, false, false, false, false, false, false, false, false, false, false, false, false, false, false] rfl rfl (any_of HT_.out (by kernel_rfl)) (fun _ _ _ h => h) (Or.inl ⟨by rfl, ?_⟩) ?_ ?_
                      rotate_left
                      · intro w'
                        go_simp
                        with_reducible rfl
                      rotate_left
                      · simp only [Act.put, List.setIfInBounds_toArray, List.set_cons_zero, List.set_cons_succ, i64_w, i32_w]
                        rfl
                      refine pure_ (i := 8) (N := some 37) (v := ?_) (a' := ?_) #[true, false, true, false, false, false, true, false, true, false, false, false, false, false, false, false, false, false, false, false, false, false, false, false, false, false, false, false, false, false] rfl rfl (any_of HT_.out (by kernel_rfl)) (fun _ _ _ h => h) (Or.inl ⟨by rfl, ?_⟩) ?_ ?_
                      rotate_left
                      · intro w'
                        go_simp
                        with_reducible rfl
                      rotate_left
                      · simp only [Act.put, List.setIfInBounds_toArray, List.set_cons_zero, List.set_cons_succ, i64_w, i32_w]
                        rfl
                      refine take_ (i := 1) (N := some 30) (v := ?_) (a' := ?_) #[true, true, true, false, false, false, true, false, true, false, false, false, false, false, false, false, false, false, false, false, false, false, false, false, false, false, false, false, false, false] rfl rfl (take_ofW HT_.out HW_.out (by kernel_rfl)) (fun _ _ _ h => h) (Or.inl ⟨by rfl, ?_⟩) hHeld ?_ ?_
                      rotate_left
                      · rintro w' ⟨s0, s1, s2, s3, s4, s5, s6, s7, s8, s9, s10, s11, s12, s13⟩
                        go_simp
                        with_reducible rfl
                      rotate_left
                      · simp only [Act.put, List.setIfInBounds_toArray, List.set_cons_zero, List.set_cons_succ, i64_w, i32_w]
                        rfl
                      refine pure_ (i := 3) (N := some 32) (v := ?_) (a' := ?_) #[true, true, true, true, false, false, true, false, true, false, false, false, false, false, false, false, false, false, false, false, false, false, false, false, false, false, false, false, false, false] rfl rfl (any_of HT_.out (by kernel_rfl)) (fun _ _ _ h => h) (Or.inl ⟨by rfl, ?_⟩) ?_ ?_
                      rotate_left
                      · intro w'
                        go_simp
                        with_reducible rfl
                      rotate_left
                      · simp only [Act.put, List.setIfInBounds_toArray, List.set_cons_zero, List.set_cons_succ, i64_w, i32_w]
                        rfl
                      refine pure_ (i := 4) (N := some 33) (v := ?_) (a' := ?_) #[true, true, true, true, true, false, true, false, true, false, false, false, false, false, false, false, false, false, false, false, false, false, false, false, false, false, false, false, false, false] rfl rfl (any_of HT_.out (by kernel_rfl)) (fun _ _ _ h => h) (Or.inl ⟨by rfl, ?_⟩) ?_ ?_
                      rotate_left
                      · intro w'
                        go_simp
                        with_reducible rfl
                      rotate_left
                      · simp only [Act.put, List.setIfInBounds_toArray, List.set_cons_zero, List.set_cons_succ, i64_w, i32_w]
                        rfl
                      refine take_ (i := 5) (N := some 34) (v := ?_) (a' := ?_) #[true, true, true, true, true, true, true, false, true, false, false, false, false, false, false, false, false, false, false, false, false, false, false, false, false, false, false, false, false, false] rfl rfl (take_ofW HT_.out HW_.out (by kernel_rfl)) (fun _ _ _ h => h) (Or.inl ⟨by rfl, ?_⟩) hHeld ?_ ?_
                      rotate_left
                      · rintro w' ⟨s0, s1, s2, s3, s4, s5, s6, s7, s8, s9, s10, s11, s12, s13⟩
                        go_simp
                        with_reducible rfl
                      rotate_left
                      · simp only [Act.put, List.setIfInBounds_toArray, List.set_cons_zero, List.set_cons_succ, i64_w, i32_w]
                        rfl
                      refine take_ (i := 7) (N := some 36) (v := ?_) (a' := ?_) #[true, true, true, true, true, true, true, true, true, false, false, false, false, false, false, false, false, false, false, false, false, false, false, false, false, false, false, false, false, false] rfl rfl (take_ofW HT_.out HW_.out (by kernel_rfl)) (fun _ _ _ h => h) (Or.inl ⟨by rfl, ?_⟩) hHeld ?_ ?_
                      rotate_left
                      · rintro w' ⟨s0, s1, s2, s3, s4, s5, s6, s7, s8, s9, s10, s11, s12, s13⟩
                        go_simp
                        with_reducible rfl
                      rotate_left
                      · simp only [Act.put, List.setIfInBounds_toArray, List.set_cons_zero, List.set_cons_succ, i64_w, i32_w]
                        rfl
                      refine pure_ (i := 9) (N := some 38) (v := ?_) (a' := ?_) #[true, true, true, true, true, true, true, true, true, true, false, false, false, false, false, false, false, false, false, false, false, false, false, false, false, false, false, false, false, false] rfl rfl (any_of HT_.out (by kernel_rfl)) (fun _ _ _ h => h) (Or.inl ⟨by rfl, ?_⟩) ?_ ?_
                      rotate_left
                      · intro w'
                        go_simp
                        with_reducible rfl
                      rotate_left
                      · simp only [Act.put, List.setIfInBounds_toArray, List.set_cons_zero, List.set_cons_succ, i64_w, i32_w]
                        rfl
                      refine pure_ (i := 10) (N := some 39) (v := ?_) (a' := ?_) #[true, true, true, true, true, true, true, true, true, true, true, false, false, false, false, false, false, false, false, false, false, false, false, false, false, false, false, false, false, false] rfl rfl (any_of HT_.out (by kernel_rfl)) (fun _ _ _ h => h) (Or.inl ⟨by rfl, ?_⟩) ?_ ?_
                      rotate_left
                      · intro w'
                        go_simp
                        with_reducible rfl
                      rotate_left
                      · simp only [Act.put, List.setIfInBounds_toArray, List.set_cons_zero, List.set_cons_succ, i64_w, i32_w]
                        rfl
                      refine take_ (i := 11) (N := some 40) (v := ?_) (a' := ?_) #[true, true, true, true, true, true, true, true, true, true, true, true, false, false, false, false, false, false, false, false, false, false, false, false, false, false, false, false, false, false] rfl rfl (take_ofW HT_.out HW_.out (by kernel_rfl)) (fun _ _ _ h => h) (Or.inl ⟨by rfl, ?_⟩) hHeld ?_ ?_
                      rotate_left
                      · rintro w' ⟨s0, s1, s2, s3, s4, s5, s6, s7, s8, s9, s10, s11, s12, s13⟩
                        go_simp
                        with_reducible rfl
                      rotate_left
                      · simp only [Act.put, List.setIfInBounds_toArray, List.set_cons_zero, List.set_cons_succ, i64_w, i32_w]
                        rfl
                      refine pure_ (i := 12) (N := some 41) (v := ?_) (a' := ?_) #[true, true, true, true, true, true, true, true, true, true, true, true, true, false, false, false, false, false, false, false, false, false, false, false, false, false, false, false, false, false] rfl rfl (any_of HT_.out (by kernel_rfl)) (fun _ _ _ h => h) (Or.inl ⟨by rfl, ?_⟩) ?_ ?_
                      rotate_left
                      · intro w'
                        go_simp
                        with_reducible rfl
                      rotate_left
                      · simp only [Act.put, List.setIfInBounds_toArray, List.set_cons_zero, List.set_cons_succ, i64_w, i32_w]
                        rfl
                      refine pure_ (i := 13) (N := some 42) (v := ?_) (a' := ?_) #[true, true, true, true, true, true, true, true, true, true, true, true, true, true, false, false, false, false, false, false, false, false, false, false, false, false, false, false, false, false] rfl rfl (any_of HT_.out (by kernel_rfl)) (fun _ _ _ h => h) (Or.inl ⟨by rfl, ?_⟩) ?_ ?_
                      rotate_left
                      · intro w'
                        go_simp
                        with_reducible rfl
                      rotate_left
                      · simp only [Act.put, List.setIfInBounds_toArray, List.set_cons_zero, List.set_cons_succ, i64_w, i32_w]
                        rfl
                      refine pure_ (i := 14) (N := some 43) (v := undef) (a' := ?_) #[true, true, true, true, true, true, true, true, true, true, true, true, true, true, true, false, false, false, false, false, false, false, false, false, false, false, false, false, false, false] rfl rfl (any_of HT_.out (by kernel_rfl)) (fun _ _ _ h => h) (Or.inr ⟨by rfl, rfl⟩) ?_ ?_
                      rotate_left
                      · simp only [Act.put, List.setIfInBounds_toArray, List.set_cons_zero, List.set_cons_succ, i64_w, i32_w]
                        rfl
                      refine pure_ (i := 15) (N := some 44) (v := undef) (a' := ?_) #[true, true, true, true, true, true, true, true, true, true, true, true, true, true, true, true, false, false, false, false, false, false, false, false, false, false, false, false, false, false] rfl rfl (any_of HT_.out (by kernel_rfl)) (fun _ _ _ h => h) (Or.inr ⟨by rfl, rfl⟩) ?_ ?_
                      rotate_left
                      · simp only [Act.put, List.setIfInBounds_toArray, List.set_cons_zero, List.set_cons_succ, i64_w, i32_w]
                        rfl
                      refine pure_ (i := 16) (N := some 45) (v := undef) (a' := ?_) #[true, true, true, true, true, true, true, true, true, true, true, true, true, true, true, true, true, false, false, false, false, false, false, false, false, false, false, false, false, false] rfl rfl (any_of HT_.out (by kernel_rfl)) (fun _ _ _ h => h) (Or.inr ⟨by rfl, rfl⟩) ?_ ?_
                      rotate_left
                      · simp only [Act.put, List.setIfInBounds_toArray, List.set_cons_zero, List.set_cons_succ, i64_w, i32_w]
                        rfl
                      refine pure_ (i := 17) (N := some 46) (v := undef) (a' := ?_) #[true, true, true, true, true, true, true, true, true, true, true, true, true, true, true, true, true, true, false, false, false, false, false, false, false, false, false, false, false, false] rfl rfl (any_of HT_.out (by kernel_rfl)) (fun _ _ _ h => h) (Or.inr ⟨by rfl, rfl⟩) ?_ ?_
                      rotate_left
                      · simp only [Act.put, List.setIfInBounds_toArray, List.set_cons_zero, List.set_cons_succ, i64_w, i32_w]
                        rfl
                      refine pure_ (i := 18) (N := some 47) (v := undef) (a' := ?_) #[true, true, true, true, true, true, true, true, true, true, true, true, true, true, true, true, true, true, true, false, false, false, false, false, false, false, false, false, false, false] rfl rfl (any_of HT_.out (by kernel_rfl)) (fun _ _ _ h => h) (Or.inr ⟨by rfl, rfl⟩) ?_ ?_
                      rotate_left
                      · simp only [Act.put, List.setIfInBounds_toArray, List.set_cons_zero, List.set_cons_succ, i64_w, i32_w]
                        rfl
                      refine pure_ (i := 19) (N := some 48) (v := undef) (a' := ?_) #[true, true, true, true, true, true, true, true, true, true, true, true, true, true, true, true, true, true, true, true, false, false, false, false, false, false, false, false, false, false] rfl rfl (any_of HT_.out (by kernel_rfl)) (fun _ _ _ h => h) (Or.inr ⟨by rfl, rfl⟩) ?_ ?_
                      rotate_left
                      · simp only [Act.put, List.setIfInBounds_toArray, List.set_cons_zero, List.set_cons_succ, i64_w, i32_w]
                        rfl
                      refine pure_ (i := 20) (N := some 49) (v := undef) (a' := ?_) #[true, true, true, true, true, true, true, true, true, true, true, true, true, true, true, true, true, true, true, true, true, false, false, false, false, false, false, false, false, false] rfl rfl (any_of HT_.out (by kernel_rfl)) (fun _ _ _ h => h) (Or.inr ⟨by rfl, rfl⟩) ?_ ?_
                      rotate_left
                      · simp only [Act.put, List.setIfInBounds_toArray, List.set_cons_zero, List.set_cons_succ, i64_w, i32_w]
                        rfl
                      refine pure_ (i := 21) (N := some 50) (v := undef) (a' := ?_) #[true, true, true, true, true, true, true, true, true, true, true, true, true, true, true, true, true, true, true, true, true, true, false, false, false, false, false, false, false, false] rfl rfl (any_of HT_.out (by kernel_rfl)) (fun _ _ _ h => h) (Or.inr ⟨by rfl, rfl⟩) ?_ ?_
                      rotate_left
                      · simp only [Act.put, List.setIfInBounds_toArray, List.set_cons_zero, List.set_cons_succ, i64_w, i32_w]
                        rfl
                      refine pure_ (i := 22) (N := some 51) (v := undef) (a' := ?_) #[true, true, true, true, true, true, true, true, true, true, true, true, true, true, true, true, true, true, true, true, true, true, true, false, false, false, false, false, false, false] rfl rfl (any_of HT_.out (by kernel_rfl)) (fun _ _ _ h => h) (Or.inr ⟨by rfl, rfl⟩) ?_ ?_
                      rotate_left
                      · simp only [Act.put, List.setIfInBounds_toArray, List.set_cons_zero, List.set_cons_succ, i64_w, i32_w]
                        rfl
                      refine pure_ (i := 23) (N := some 52) (v := undef) (a' := ?_) #[true, true, true, true, true, true, true, true, true, true, true, true, true, true, true, true, true, true, true, true, true, true, true, true, false, false, false, false, false, false] rfl rfl (any_of HT_.out (by kernel_rfl)) (fun _ _ _ h => h) (Or.inr ⟨by rfl, rfl⟩) ?_ ?_
                      rotate_left
                      · simp only [Act.put, List.setIfInBounds_toArray, List.set_cons_zero, List.set_cons_succ, i64_w, i32_w]
                        rfl
                      refine pure_ (i := 24) (N := some 53) (v := undef) (a' := ?_) #[true, true, true, true, true, true, true, true, true, true, true, true, true, true, true, true, true, true, true, true, true, true, true, true, true, false, false, false, false, false] rfl rfl (any_of HT_.out (by kernel_rfl)) (fun _ _ _ h => h) (Or.inr ⟨by rfl, rfl⟩) ?_ ?_
                      rotate_left
                      · simp only [Act.put, List.setIfInBounds_toArray, List.set_cons_zero, List.set_cons_succ, i64_w, i32_w]
                        rfl
                      refine pure_ (i := 25) (N := some 54) (v := undef) (a' := ?_) #[true, true, true, true, true, true, true, true, true, true, true, true, true, true, true, true, true, true, true, true, true, true, true, true, true, true, false, false, false, false] rfl rfl (any_of HT_.out (by kernel_rfl)) (fun _ _ _ h => h) (Or.inr ⟨by rfl, rfl⟩) ?_ ?_
                      rotate_left
                      · simp only [Act.put, List.setIfInBounds_toArray, List.set_cons_zero, List.set_cons_succ, i64_w, i32_w]
                        rfl
                      refine pure_ (i := 26) (N := some 55) (v := undef) (a' := ?_) #[true, true, true, true, true, true, true, true, true, true, true, true, true, true, true, true, true, true, true, true, true, true, true, true, true, true, true, false, false, false] rfl rfl (any_of HT_.out (by kernel_rfl)) (fun _ _ _ h => h) (Or.inr ⟨by rfl, rfl⟩) ?_ ?_
                      rotate_left
                      · simp only [Act.put, List.setIfInBounds_toArray, List.set_cons_zero, List.set_cons_succ, i64_w, i32_w]
                        rfl
                      refine pure_ (i := 27) (N := some 56) (v := undef) (a' := ?_) #[true, true, true, true, true, true, true, true, true, true, true, true, true, true, true, true, true, true, true, true, true, true, true, true, true, true, true, true, false, false] rfl rfl (any_of HT_.out (by kernel_rfl)) (fun _ _ _ h => h) (Or.inr ⟨by rfl, rfl⟩) ?_ ?_
                      rotate_left
                      · simp only [Act.put, List.setIfInBounds_toArray, List.set_cons_zero, List.set_cons_succ, i64_w, i32_w]
                        rfl
                      refine pure_ (i := 28) (N := some 57) (v := undef) (a' := ?_) #[true, true, true, true, true, true, true, true, true, true, true, true, true, true, true, true, true, true, true, true, true, true, true, true, true, true, true, true, true, false] rfl rfl (any_of HT_.out (by kernel_rfl)) (fun _ _ _ h => h) (Or.inr ⟨by rfl, rfl⟩) ?_ ?_
                      rotate_left
                      · simp only [Act.put, List.setIfInBounds_toArray, List.set_cons_zero, List.set_cons_succ, i64_w, i32_w]
                        rfl
                      refine pure_ (i := 29) (N := some 58) (v := ?_) (a' := ?_) #[true, true, true, true, true, true, true, true, true, true, true, true, true, true, true, true, true, true, true, true, true, true, true, true, true, true, true, true, true, true] rfl rfl (any_of HT_.out (by kernel_rfl)) (fun _ _ _ h => h) (Or.inl ⟨by rfl, ?_⟩) ?_ ?_
                      rotate_left
                      · intro w'
                        go_simp
                        with_reducible rfl
                      rotate_left
                      · simp only [Act.put, List.setIfInBounds_toArray, List.set_cons_zero, List.set_cons_succ, i64_w, i32_w]
                        rfl
                      refine done_ (done_of HT_.out (by kernel_rfl)) ?_
                      try go_wp2
                      go_meet
                      case rel => exact ⟨_, (true), (by first | rfl | (simp; done) | (simp [*]; done)), H', ⟨by have := HJ2.out; have := HK2.out; first | omega | exact Nat.le_refl _⟩, ⟨by (with_reducible repeat (first | refine blk_drewN ?_ _ | refine blk_drew ?_ | refine blk_alloc ?_ _)); exact BK106.out⟩, ⟨by (with_reducible repeat (first | refine blk_drewN ?_ _ | refine blk_drew ?_ | refine blk_alloc ?_ _)); exact BK107.out⟩, ⟨by repeat (first | (with_reducible first | exact HB.out | apply below_alloc | apply pw_below_drewN | apply below_drew1 | refine below_set ?_ GE106.out | refine below_set ?_ GE107.out) | exact HB.out)⟩⟩
                    · rw [if_neg c20] at H
                      have c20b0 : (!(((rd_T28 l0_1 x5_2).f1.f0) == ((rd_T28 l1_1 x5_2).f1.f0)) || (!(((rd_T28 l0_1 x5_2).f1.f1) == ((rd_T28 l1_1 x5_2).f1.f1)) || (!(((rd_T28 l0_1 x5_2).f1.f2) == ((rd_T28 l1_1 x5_2).f1.f2)) || (!(((rd_T28 l0_1 x5_2).f1.f3) == ((rd_T28 l1_1 x5_2).f1.f3)))))) = false := by simpa using c20
                      clear c20
                      have H' := Aside0.mk H
                      clear H
                      try go_wp2
                      have n0_ := Aside0.mk (blk_drew BK106.out)
                      have n1_ := Aside0.mk (blk_drew BK107.out)
                      have n2_ := Aside0.mk (below_drew1 HB.out)
                      clear BK106
                      clear BK107
                      clear HB
                      have BK106 := n0_
                      have BK107 := n1_
                      have HB := n2_
                      clear n0_ n1_ n2_
                      have p108 : 0 ≤ (x5_2 : Int) := of_decide_eq_true (by first | (with_reducible assumption) | assumption)
                      have q108 : x5_2 < (l0_1.length : Int) := of_decide_eq_true (by first | (with_reducible assumption) | assumption)
                      obtain ⟨ad108, A108_0, c108_0, e108, hx108_0, hx108_1, hx108_2, hx108_3, hx108_4, hl108_0, hi108_0⟩ := at_T28 HR0_1.out x5_2 p108 q108
                      have hw108_4 := hx108_4
                      have hw108_3 := hx108_3
                      have hw108_2 := hx108_2
                      have hw108_1 := hx108_1
                      have hw108_0 := hx108_0
                      cases e108
                      replace hx108_0 := (HB.out.cell (World.block_lt_of_cell? w _ hx108_0)).trans hx108_0
                      replace hx108_1 := (HB.out.cell (World.block_lt_of_cell? w _ hx108_1)).trans hx108_1
                      replace hx108_2 := (HB.out.cell (World.block_lt_of_cell? w _ hx108_2)).trans hx108_2
                      replace hx108_3 := (HB.out.cell (World.block_lt_of_cell? w _ hx108_3)).trans hx108_3
                      replace hx108_4 := (HB.out.cell (World.block_lt_of_cell? w _ hx108_4)).trans hx108_4
                      have HR108_0 := Aside0.mk hi108_0
                      have HC108_0 := Aside0.mk hl108_0
                      clear hi108_0 hl108_0
                      replace p108 := eq_true p108
                      replace q108 := eq_true q108
                      have p109 : 0 ≤ (x5_2 : Int) := of_decide_eq_true (by first | (with_reducible assumption) | assumption)
                      have q109 : x5_2 < (l1_1.length : Int) := of_decide_eq_true (by first | (with_reducible assumption) | assumption)
                      obtain ⟨ad109, A109_0, c109_0, e109, hx109_0, hx109_1, hx109_2, hx109_3, hx109_4, hl109_0, hi109_0⟩ := at_T28 HR1_1.out x5_2 p109 q109
                      have hw109_4 := hx109_4
                      have hw109_3 := hx109_3
                      have hw109_2 := hx109_2
                      have hw109_1 := hx109_1
                      have hw109_0 := hx109_0
                      cases e109
                      replace hx109_0 := (HB.out.cell (World.block_lt_of_cell? w _ hx109_0)).trans hx109_0
                      replace hx109_1 := (HB.out.cell (World.block_lt_of_cell? w _ hx109_1)).trans hx109_1
                      replace hx109_2 := (HB.out.cell (World.block_lt_of_cell? w _ hx109_2)).trans hx109_2
                      replace hx109_3 := (HB.out.cell (World.block_lt_of_cell? w _ hx109_3)).trans hx109_3
                      replace hx109_4 := (HB.out.cell (World.block_lt_of_cell? w _ hx109_4)).trans hx109_4
                      have HR109_0 := Aside0.mk hi109_0
                      have HC109_0 := Aside0.mk hl109_0
                      clear hi109_0 hl109_0
                      replace p109 := eq_true p109
                      replace q109 := eq_true q109
                      have p110 : 0 ≤ (x5_2 : Int) := of_decide_eq_true (by first | (with_reducible assumption) | assumption)
                      have q110 : x5_2 < (l0_1.length : Int) := of_decide_eq_true (by first | (with_reducible assumption) | assumption)
                      obtain ⟨ad110, A110_0, c110_0, e110, hx110_0, hx110_1, hx110_2, hx110_3, hx110_4, hl110_0, hi110_0⟩ := at_T28 HR0_1.out x5_2 p110 q110
                      have hw110_4 := hx110_4
                      have hw110_3 := hx110_3
                      have hw110_2 := hx110_2
                      have hw110_1 := hx110_1
                      have hw110_0 := hx110_0
                      obtain rfl : ad108 = ad110 := (by injection e110)
                      replace hx110_0 := (HB.out.cell (World.block_lt_of_cell? w _ hx110_0)).trans hx110_0
                      replace hx110_1 := (HB.out.cell (World.block_lt_of_cell? w _ hx110_1)).trans hx110_1
                      replace hx110_2 := (HB.out.cell (World.block_lt_of_cell? w _ hx110_2)).trans hx110_2
                      replace hx110_3 := (HB.out.cell (World.block_lt_of_cell? w _ hx110_3)).trans hx110_3
                      replace hx110_4 := (HB.out.cell (World.block_lt_of_cell? w _ hx110_4)).trans hx110_4
                      have HR110_0 := Aside0.mk hi110_0
                      have HC110_0 := Aside0.mk hl110_0
                      clear hi110_0 hl110_0
                      replace p110 := eq_true p110
                      replace q110 := eq_true q110
                      have ea_ := Option.some.inj (hx108_0.symm.trans hx110_0)
                      injection ea_ with ea_ en_ ec_
                      subst ea_
                      subst ec_
                      clear en_
                      have p111 : 0 ≤ (x5_2 : Int) := of_decide_eq_true (by first | (with_reducible assumption) | assumption)
                      have q111 : x5_2 < (l1_1.length : Int) := of_decide_eq_true (by first | (with_reducible assumption) | assumption)
                      obtain ⟨ad111, A111_0, c111_0, e111, hx111_0, hx111_1, hx111_2, hx111_3, hx111_4, hl111_0, hi111_0⟩ := at_T28 HR1_1.out x5_2 p111 q111
                      have hw111_4 := hx111_4
                      have hw111_3 := hx111_3
                      have hw111_2 := hx111_2
                      have hw111_1 := hx111_1
                      have hw111_0 := hx111_0
                      obtain rfl : ad109 = ad111 := (by injection e111)
                      replace hx111_0 := (HB.out.cell (World.block_lt_of_cell? w _ hx111_0)).trans hx111_0
                      replace hx111_1 := (HB.out.cell (World.block_lt_of_cell? w _ hx111_1)).trans hx111_1
                      replace hx111_2 := (HB.out.cell (World.block_lt_of_cell? w _ hx111_2)).trans hx111_2
                      replace hx111_3 := (HB.out.cell (World.block_lt_of_cell? w _ hx111_3)).trans hx111_3
                      replace hx111_4 := (HB.out.cell (World.block_lt_of_cell? w _ hx111_4)).trans hx111_4
                      have HR111_0 := Aside0.mk hi111_0
                      have HC111_0 := Aside0.mk hl111_0
                      clear hi111_0 hl111_0
                      replace p111 := eq_true p111
                      replace q111 := eq_true q111
                      have ea_ := Option.some.inj (hx109_0.symm.trans hx111_0)
                      injection ea_ with ea_ en_ ec_
                      subst ea_
                      subst ec_
                      clear en_
                      refine start_ (n := 30) (S := fun w' => w'.cell? ⟨gb106, 0, none⟩ = some (.int .i64 a0_0) ∧ w'.cell? ⟨gb106, 1, none⟩ = some (.slice (some ad108) l0_1.length c0_1) ∧ w'.cell? ⟨gb107, 0, none⟩ = some (.int .i64 a1_0) ∧ w'.cell? ⟨gb107, 1, none⟩ = some (.slice (some ad109) l1_1.length c1_1) ∧ w'.cell? (ad108.add ((x5_2).toNat * 5)) = some (.slice A108_0 ((rd_T28 l0_1 x5_2).f0).length c108_0) ∧ w'.cell? ⟨(ad108.add ((x5_2).toNat * 5)).block, (ad108.add ((x5_2).toNat * 5)).off + 1, none⟩ = some (.int .i64 ((rd_T28 l0_1 x5_2).f1.f0)) ∧ w'.cell? ⟨(ad108.add ((x5_2).toNat * 5)).block, (ad108.add ((x5_2).toNat * 5)).off + 2, none⟩ = some (.int .i64 ((rd_T28 l0_1 x5_2).f1.f1)) ∧ w'.cell? ⟨(ad108.add ((x5_2).toNat * 5)).block, (ad108.add ((x5_2).toNat * 5)).off + 3, none⟩ = some (.int .i64 ((rd_T28 l0_1 x5_2).f1.f2)) ∧ w'.cell? ⟨(ad108.add ((x5_2).toNat * 5)).block, (ad108.add ((x5_2).toNat * 5)).off + 4, none⟩ = some (.int .i64 ((rd_T28 l0_1 x5_2).f1.f3)) ∧ w'.cell? (ad109.add ((x5_2).toNat * 5)) = some (.slice A109_0 ((rd_T28 l1_1 x5_2).f0).length c109_0) ∧ w'.cell? ⟨(ad109.add ((x5_2).toNat * 5)).block, (ad109.add ((x5_2).toNat * 5)).off + 1, none⟩ = some (.int .i64 ((rd_T28 l1_1 x5_2).f1.f0)) ∧ w'.cell? ⟨(ad109.add ((x5_2).toNat * 5)).block, (ad109.add ((x5_2).toNat * 5)).off + 2, none⟩ = some (.int .i64 ((rd_T28 l1_1 x5_2).f1.f1)) ∧ w'.cell? ⟨(ad109.add ((x5_2).toNat * 5)).block, (ad109.add ((x5_2).toNat * 5)).off + 3, none⟩ = some (.int .i64 ((rd_T28 l1_1 x5_2).f1.f2)) ∧ w'.cell? ⟨(ad109.add ((x5_2).toNat * 5)).block, (ad109.add ((x5_2).toNat * 5)).off + 4, none⟩ = some (.int .i64 ((rd_T28 l1_1 x5_2).f1.f3)) ∧ w'.cell? (ad108.add ((x5_2).toNat * 5)) = some (.slice A108_0 ((rd_T28 l0_1 x5_2).f0).length c108_0) ∧ w'.cell? ⟨(ad108.add ((x5_2).toNat * 5)).block, (ad108.add ((x5_2).toNat * 5)).off + 1, none⟩ = some (.int .i64 ((rd_T28 l0_1 x5_2).f1.f0)) ∧ w'.cell? ⟨(ad108.add ((x5_2).toNat * 5)).block, (ad108.add ((x5_2).toNat * 5)).off + 2, none⟩ = some (.int .i64 ((rd_T28 l0_1 x5_2).f1.f1)) ∧ w'.cell? ⟨(ad108.add ((x5_2).toNat * 5)).block, (ad108.add ((x5_2).toNat * 5)).off + 3, none⟩ = some (.int .i64 ((rd_T28 l0_1 x5_2).f1.f2)) ∧ w'.cell? ⟨(ad108.add ((x5_2).toNat * 5)).block, (ad108.add ((x5_2).toNat * 5)).off + 4, none⟩ = some (.int .i64 ((rd_T28 l0_1 x5_2).f1.f3)) ∧ w'.cell? (ad109.add ((x5_2).toNat * 5)) = some (.slice A109_0 ((rd_T28 l1_1 x5_2).f0).length c109_0) ∧ w'.cell? ⟨(ad109.add ((x5_2).toNat * 5)).block, (ad109.add ((x5_2).toNat * 5)).off + 1, none⟩ = some (.int .i64 ((rd_T28 l1_1 x5_2).f1.f0)) ∧ w'.cell? ⟨(ad109.add ((x5_2).toNat * 5)).block, (ad109.add ((x5_2).toNat * 5)).off + 2, none⟩ = some (.int .i64 ((rd_T28 l1_1 x5_2).f1.f1)) ∧ w'.cell? ⟨(ad109.add ((x5_2).toNat * 5)).block, (ad109.add ((x5_2).toNat * 5)).off + 3, none⟩ = some (.int .i64 ((rd_T28 l1_1 x5_2).f1.f2)) ∧ w'.cell? ⟨(ad109.add ((x5_2).toNat * 5)).block, (ad109.add ((x5_2).toNat * 5)).off + 4, none⟩ = some (.int .i64 ((rd_T28 l1_1 x5_2).f1.f3))) (ds := []) #[false, false, false, false, false, false, false, false, false, false, false, false, false, false, false, false, false, false, false, false, false, false, false, false, false, false, false, false, false, false] (by kernel_rfl) rfl rfl ⟨(blk_cell BK106.out 0).trans rfl, (blk_cell BK106.out 1).trans rfl, (blk_cell BK107.out 0).trans rfl, (blk_cell BK107.out 1).trans rfl, ((HB.out.cell (World.block_lt_of_cell? w _ hw108_0)).trans hw108_0), ((HB.out.cell (World.block_lt_of_cell? w _ hw108_1)).trans hw108_1), ((HB.out.cell (World.block_lt_of_cell? w _ hw108_2)).trans hw108_2), ((HB.out.cell (World.block_lt_of_cell? w _ hw108_3)).trans hw108_3), ((HB.out.cell (World.block_lt_of_cell? w _ hw108_4)).trans hw108_4), ((HB.out.cell (World.block_lt_of_cell? w _ hw109_0)).trans hw109_0), ((HB.out.cell (World.block_lt_of_cell? w _ hw109_1)).trans hw109_1), ((HB.out.cell (World.block_lt_of_cell? w _ hw109_2)).trans hw109_2), ((HB.out.cell (World.block_lt_of_cell? w _ hw109_3)).trans hw109_3), ((HB.out.cell (World.block_lt_of_cell? w _ hw109_4)).trans hw109_4), ((HB.out.cell (World.block_lt_of_cell? w _ hw110_0)).trans hw110_0), ((HB.out.cell (World.block_lt_of_cell? w _ hw110_1)).trans hw110_1), ((HB.out.cell (World.block_lt_of_cell? w _ hw110_2)).trans hw110_2), ((HB.out.cell (World.block_lt_of_cell? w _ hw110_3)).trans hw110_3), ((HB.out.cell (World.block_lt_of_cell? w _ hw110_4)).trans hw110_4), ((HB.out.cell (World.block_lt_of_cell? w _ hw111_0)).trans hw111_0), ((HB.out.cell (World.block_lt_of_cell? w _ hw111_1)).trans hw111_1), ((HB.out.cell (World.block_lt_of_cell? w _ hw111_2)).trans hw111_2), ((HB.out.cell (World.block_lt_of_cell? w _ hw111_3)).trans hw111_3), ((HB.out.cell (World.block_lt_of_cell? w _ hw111_4)).trans hw111_4)⟩ (fun hHeld => ?_); refine with_tabW swageref14_Same.tab6 swageref14_Same.bits6 (fun HT_ HW_ => ?_)
                      generalize wr.drew = w22 at BK106 BK107 HB HR108_0 HR109_0 HR110_0 HR111_0 hx108_0 hx108_1 hx108_2 hx108_3 hx108_4 hx109_0 hx109_1 hx109_2 hx109_3 hx109_4 hx110_0 hx110_1 hx110_2 hx110_3 hx110_4 hx111_0 hx111_1 hx111_2 hx111_3 hx111_4 hHeld ⊢
                      refine pure_ (i := 0) (N := some 29) (v := ?_) (a' := ?_) #[true, false, false, false, false, false, false, false, false, false, false, false, false, false, false, false, false, false, false, false, false, false, false, false, false, false, false, false, false, false] rfl rfl (any_of HT_.out (by kernel_rfl)) (fun _ _ _ h => h) (Or.inl ⟨by rfl, ?_⟩) ?_ ?_
                      rotate_left
                      · intro w'
                        go_simp
                        with_reducible rfl
                      rotate_left
                      · simp only [Act.put, List.setIfInBounds_toArray, List.set_cons_zero, List.set_cons_succ, i64_w, i32_w]
                        rfl
                      refine pure_ (i := 2) (N := some 31) (v := ?_) (a' := ?_) #[true, false, true, false, false, false, false, false, false, false, false, false, false, false, false, false, false, false, false, false, false, false, false, false, false, false, false, false, false, false] rfl rfl (any_of HT_.out (by kernel_rfl)) (fun _ _ _ h => h) (Or.inl ⟨by rfl, ?_⟩) ?_ ?_
                      rotate_left
                      · intro w'
                        go_simp
                        with_reducible rfl
                      rotate_left
                      · simp only [Act.put, List.setIfInBounds_toArray, List.set_cons_zero, List.set_cons_succ, i64_w, i32_w]
                        rfl
                      refine pure_ (i := 6) (N := some 35) (v := ?_) (a' := ?_) #[true, false, true, false, false, false, true, false, false, false, false, false, false, false, false, false, false, false, false, false, false, false, false, false, false, false, false, false, false, false] rfl rfl (any_of HT_.out (by kernel_rfl)) (fun _ _ _ h => h) (Or.inl ⟨by rfl, ?_⟩) ?_ ?_
                      rotate_left
                      · intro w'
                        go_simp
                        with_reducible rfl
                      rotate_left
                      · simp only [Act.put, List.setIfInBounds_toArray, List.set_cons_zero, List.set_cons_succ, i64_w, i32_w]
                        rfl
                      refine pure_ (i := 8) (N := some 37) (v := ?_) (a' := ?_) #[true, false, true, false, false, false, true, false, true, false, false, false, false, false, false, false, false, false, false, false, false, false, false, false, false, false, false, false, false, false] rfl rfl (any_of HT_.out (by kernel_rfl)) (fun _ _ _ h => h) (Or.inl ⟨by rfl, ?_⟩) ?_ ?_
                      rotate_left
                      · intro w'
                        go_simp
                        with_reducible rfl
                      rotate_left
                      · simp only [Act.put, List.setIfInBounds_toArray, List.set_cons_zero, List.set_cons_succ, i64_w, i32_w]
                        rfl
                      refine take_ (i := 1) (N := some 30) (v := ?_) (a' := ?_) #[true, true, true, false, false, false, true, false, true, false, false, false, false, false, false, false, false, false, false, false, false, false, false, false, false, false, false, false, false, false] rfl rfl (take_ofW HT_.out HW_.out (by kernel_rfl)) (fun _ _ _ h => h) (Or.inl ⟨by rfl, ?_⟩) hHeld ?_ ?_
                      rotate_left
                      · rintro w' ⟨s0, s1, s2, s3, s4, s5, s6, s7, s8, s9, s10, s11, s12, s13, s14, s15, s16, s17, s18, s19, s20, s21, s22, s23⟩
                        go_simp
                        with_reducible rfl
                      rotate_left
                      · simp only [Act.put, List.setIfInBounds_toArray, List.set_cons_zero, List.set_cons_succ, i64_w, i32_w]
                        rfl
                      refine pure_ (i := 3) (N := some 32) (v := ?_) (a' := ?_) #[true, true, true, true, false, false, true, false, true, false, false, false, false, false, false, false, false, false, false, false, false, false, false, false, false, false, false, false, false, false] rfl rfl (any_of HT_.out (by kernel_rfl)) (fun _ _ _ h => h) (Or.inl ⟨by rfl, ?_⟩) ?_ ?_
                      rotate_left
                      · intro w'
                        go_simp
                        with_reducible rfl
                      rotate_left
                      · simp only [Act.put, List.setIfInBounds_toArray, List.set_cons_zero, List.set_cons_succ, i64_w, i32_w]
                        rfl
                      refine pure_ (i := 4) (N := some 33) (v := ?_) (a' := ?_) #[true, true, true, true, true, false, true, false, true, false, false, false, false, false, false, false, false, false, false, false, false, false, false, false, false, false, false, false, false, false] rfl rfl (any_of HT_.out (by kernel_rfl)) (fun _ _ _ h => h) (Or.inl ⟨by rfl, ?_⟩) ?_ ?_
                      rotate_left
                      · intro w'
                        go_simp
                        with_reducible rfl
                      rotate_left
                      · simp only [Act.put, List.setIfInBounds_toArray, List.set_cons_zero, List.set_cons_succ, i64_w, i32_w]
                        rfl
                      refine take_ (i := 5) (N := some 34) (v := ?_) (a' := ?_) #[true, true, true, true, true, true, true, false, true, false, false, false, false, false, false, false, false, false, false, false, false, false, false, false, false, false, false, false, false, false] rfl rfl (take_ofW HT_.out HW_.out (by kernel_rfl)) (fun _ _ _ h => h) (Or.inl ⟨by rfl, ?_⟩) hHeld ?_ ?_
                      rotate_left
                      · rintro w' ⟨s0, s1, s2, s3, s4, s5, s6, s7, s8, s9, s10, s11, s12, s13, s14, s15, s16, s17, s18, s19, s20, s21, s22, s23⟩
                        go_simp
                        with_reducible rfl
                      rotate_left
                      · simp only [Act.put, List.setIfInBounds_toArray, List.set_cons_zero, List.set_cons_succ, i64_w, i32_w]
                        rfl
                      refine take_ (i := 7) (N := some 36) (v := ?_) (a' := ?_) #[true, true, true, true, true, true, true, true, true, false, false, false, false, false, false, false, false, false, false, false, false, false, false, false, false, false, false, false, false, false] rfl rfl (take_ofW HT_.out HW_.out (by kernel_rfl)) (fun _ _ _ h => h) (Or.inl ⟨by rfl, ?_⟩) hHeld ?_ ?_
                      rotate_left
                      · rintro w' ⟨s0, s1, s2, s3, s4, s5, s6, s7, s8, s9, s10, s11, s12, s13, s14, s15, s16, s17, s18, s19, s20, s21, s22, s23⟩
                        go_simp
                        with_reducible rfl
                      rotate_left
                      · simp only [Act.put, List.setIfInBounds_toArray, List.set_cons_zero, List.set_cons_succ, i64_w, i32_w]
                        rfl
                      refine pure_ (i := 9) (N := some 38) (v := ?_) (a' := ?_) #[true, true, true, true, true, true, true, true, true, true, false, false, false, false, false, false, false, false, false, false, false, false, false, false, false, false, false, false, false, false] rfl rfl (any_of HT_.out (by kernel_rfl)) (fun _ _ _ h => h) (Or.inl ⟨by rfl, ?_⟩) ?_ ?_
                      rotate_left
                      · intro w'
                        go_simp
                        with_reducible rfl
                      rotate_left
                      · simp only [Act.put, List.setIfInBounds_toArray, List.set_cons_zero, List.set_cons_succ, i64_w, i32_w]
                        rfl
                      refine pure_ (i := 10) (N := some 39) (v := ?_) (a' := ?_) #[true, true, true, true, true, true, true, true, true, true, true, false, false, false, false, false, false, false, false, false, false, false, false, false, false, false, false, false, false, false] rfl rfl (any_of HT_.out (by kernel_rfl)) (fun _ _ _ h => h) (Or.inl ⟨by rfl, ?_⟩) ?_ ?_
                      rotate_left
                      · intro w'
                        go_simp
                        with_reducible rfl
                      rotate_left
                      · simp only [Act.put, List.setIfInBounds_toArray, List.set_cons_zero, List.set_cons_succ, i64_w, i32_w]
                        rfl
                      refine take_ (i := 11) (N := some 40) (v := ?_) (a' := ?_) #[true, true, true, true, true, true, true, true, true, true, true, true, false, false, false, false, false, false, false, false, false, false, false, false, false, false, false, false, false, false] rfl rfl (take_ofW HT_.out HW_.out (by kernel_rfl)) (fun _ _ _ h => h) (Or.inl ⟨by rfl, ?_⟩) hHeld ?_ ?_
                      rotate_left
                      · rintro w' ⟨s0, s1, s2, s3, s4, s5, s6, s7, s8, s9, s10, s11, s12, s13, s14, s15, s16, s17, s18, s19, s20, s21, s22, s23⟩
                        go_simp
                        with_reducible rfl
                      rotate_left
                      · simp only [Act.put, List.setIfInBounds_toArray, List.set_cons_zero, List.set_cons_succ, i64_w, i32_w]
                        rfl
                      refine pure_ (i := 12) (N := some 41) (v := ?_) (a' := ?_) #[true, true, true, true, true, true, true, true, true, true, true, true, true, false, false, false, false, false, false, false, false, false, false, false, false, false, false, false, false, false] rfl rfl (any_of HT_.out (by kernel_rfl)) (fun _ _ _ h => h) (Or.inl ⟨by rfl, ?_⟩) ?_ ?_
                      rotate_left
                      · intro w'
                        go_simp
                        with_reducible rfl
                      rotate_left
                      · simp only [Act.put, List.setIfInBounds_toArray, List.set_cons_zero, List.set_cons_succ, i64_w, i32_w]
                        rfl
                      refine pure_ (i := 13) (N := some 42) (v := ?_) (a' := ?_) #[true, true, true, true, true, true, true, true, true, true, true, true, true, true, false, false, false, false, false, false, false, false, false, false, false, false, false, false, false, false] rfl rfl (any_of HT_.out (by kernel_rfl)) (fun _ _ _ h => h) (Or.inl ⟨by rfl, ?_⟩) ?_ ?_
                      rotate_left
                      · intro w'
                        go_simp
                        with_reducible rfl
                      rotate_left
                      · simp only [Act.put, List.setIfInBounds_toArray, List.set_cons_zero, List.set_cons_succ, i64_w, i32_w]
                        rfl
                      refine pure_ (i := 14) (N := some 43) (v := ?_) (a' := ?_) #[true, true, true, true, true, true, true, true, true, true, true, true, true, true, true, false, false, false, false, false, false, false, false, false, false, false, false, false, false, false] rfl rfl (any_of HT_.out (by kernel_rfl)) (fun _ _ _ h => h) (Or.inl ⟨by rfl, ?_⟩) ?_ ?_
                      rotate_left
                      · intro w'
                        go_simp
                        with_reducible rfl
                      rotate_left
                      · simp only [Act.put, List.setIfInBounds_toArray, List.set_cons_zero, List.set_cons_succ, i64_w, i32_w]
                        rfl
                      refine pure_ (i := 16) (N := some 45) (v := ?_) (a' := ?_) #[true, true, true, true, true, true, true, true, true, true, true, true, true, true, true, false, true, false, false, false, false, false, false, false, false, false, false, false, false, false] rfl rfl (any_of HT_.out (by kernel_rfl)) (fun _ _ _ h => h) (Or.inl ⟨by rfl, ?_⟩) ?_ ?_
                      rotate_left
                      · intro w'
                        go_simp
                        with_reducible rfl
                      rotate_left
                      · simp only [Act.put, List.setIfInBounds_toArray, List.set_cons_zero, List.set_cons_succ, i64_w, i32_w]
                        rfl
                      refine pure_ (i := 21) (N := some 50) (v := ?_) (a' := ?_) #[true, true, true, true, true, true, true, true, true, true, true, true, true, true, true, false, true, false, false, false, false, true, false, false, false, false, false, false, false, false] rfl rfl (any_of HT_.out (by kernel_rfl)) (fun _ _ _ h => h) (Or.inl ⟨by rfl, ?_⟩) ?_ ?_
                      rotate_left
                      · intro w'
                        go_simp
                        with_reducible rfl
                      rotate_left
                      · simp only [Act.put, List.setIfInBounds_toArray, List.set_cons_zero, List.set_cons_succ, i64_w, i32_w]
                        rfl
                      refine pure_ (i := 23) (N := some 52) (v := ?_) (a' := ?_) #[true, true, true, true, true, true, true, true, true, true, true, true, true, true, true, false, true, false, false, false, false, true, false, true, false, false, false, false, false, false] rfl rfl (any_of HT_.out (by kernel_rfl)) (fun _ _ _ h => h) (Or.inl ⟨by rfl, ?_⟩) ?_ ?_
                      rotate_left
                      · intro w'
                        go_simp
                        with_reducible rfl
                      rotate_left
                      · simp only [Act.put, List.setIfInBounds_toArray, List.set_cons_zero, List.set_cons_succ, i64_w, i32_w]
                        rfl
                      refine take_ (i := 15) (N := some 44) (v := ?_) (a' := ?_) #[true, true, true, true, true, true, true, true, true, true, true, true, true, true, true, true, true, false, false, false, false, true, false, true, false, false, false, false, false, false] rfl rfl (take_ofW HT_.out HW_.out (by kernel_rfl)) (fun _ _ _ h => h) (Or.inl ⟨by rfl, ?_⟩) hHeld ?_ ?_
                      rotate_left
                      · rintro w' ⟨s0, s1, s2, s3, s4, s5, s6, s7, s8, s9, s10, s11, s12, s13, s14, s15, s16, s17, s18, s19, s20, s21, s22, s23⟩
                        go_simp
                        with_reducible rfl
                      rotate_left
                      · simp only [Act.put, List.setIfInBounds_toArray, List.set_cons_zero, List.set_cons_succ, i64_w, i32_w]
                        rfl
                      refine pure_ (i := 17) (N := some 46) (v := ?_) (a' := ?_) #[true, true, true, true, true, true, true, true, true, true, true, true, true, true, true, true, true, true, false, false, false, true, false, true, false, false, false, false, false, false] rfl rfl (any_of HT_.out (by kernel_rfl)) (fun _ _ _ h => h) (Or.inl ⟨by rfl, ?_⟩) ?_ ?_
                      rotate_left
                      · intro w'
                        go_simp
                        with_reducible rfl
                      rotate_left
                      · simp only [Act.put, List.setIfInBounds_toArray, List.set_cons_zero, List.set_cons_succ, i64_w, i32_w]
                        rfl
                      refine pure_ (i := 18) (N := some 47) (v := ?_) (a' := ?_) #[true, true, true, true, true, true, true, true, true, true, true, true, true, true, true, true, true, true, true, false, false, true, false, true, false, false, false, false, false, false] rfl rfl (any_of HT_.out (by kernel_rfl)) (fun _ _ _ h => h) (Or.inl ⟨by rfl, ?_⟩) ?_ ?_
                      rotate_left
                      · intro w'
                        go_simp
                        with_reducible rfl
                      rotate_left
                      · simp only [Act.put, List.setIfInBounds_toArray, List.set_cons_zero, List.set_cons_succ, i64_w, i32_w]
                        rfl
                      refine take_ (i := 19) (N := some 48) (v := ?_) (a' := ?_) #[true, true, true, true, true, true, true, true, true, true, true, true, true, true, true, true, true, true, true, true, false, true, false, true, false, false, false, false, false, false] rfl rfl (take_ofW HT_.out HW_.out (by kernel_rfl)) (fun _ _ _ h => h) (Or.inl ⟨by rfl, ?_⟩) hHeld ?_ ?_
                      rotate_left
                      · rintro w' ⟨s0, s1, s2, s3, s4, s5, s6, s7, s8, s9, s10, s11, s12, s13, s14, s15, s16, s17, s18, s19, s20, s21, s22, s23⟩
                        go_simp
                        with_reducible rfl
                      rotate_left
                      · simp only [Act.put, List.setIfInBounds_toArray, List.set_cons_zero, List.set_cons_succ, i64_w, i32_w]
                        rfl
                      refine pure_ (i := 20) (N := some 49) (v := ?_) (a' := ?_) #[true, true, true, true, true, true, true, true, true, true, true, true, true, true, true, true, true, true, true, true, true, true, false, true, false, false, false, false, false, false] rfl rfl (any_of HT_.out (by kernel_rfl)) (fun _ _ _ h => h) (Or.inl ⟨by rfl, ?_⟩) ?_ ?_
                      rotate_left
                      · intro w'
                        go_simp
                        with_reducible rfl
                      rotate_left
                      · simp only [Act.put, List.setIfInBounds_toArray, List.set_cons_zero, List.set_cons_succ, i64_w, i32_w]
                        rfl
                      refine take_ (i := 22) (N := some 51) (v := ?_) (a' := ?_) #[true, true, true, true, true, true, true, true, true, true, true, true, true, true, true, true, true, true, true, true, true, true, true, true, false, false, false, false, false, false] rfl rfl (take_ofW HT_.out HW_.out (by kernel_rfl)) (fun _ _ _ h => h) (Or.inl ⟨by rfl, ?_⟩) hHeld ?_ ?_
                      rotate_left
                      · rintro w' ⟨s0, s1, s2, s3, s4, s5, s6, s7, s8, s9, s10, s11, s12, s13, s14, s15, s16, s17, s18, s19, s20, s21, s22, s23⟩
                        go_simp
                        with_reducible rfl
                      rotate_left
                      · simp only [Act.put, List.setIfInBounds_toArray, List.set_cons_zero, List.set_cons_succ, i64_w, i32_w]
                        rfl
                      refine pure_ (i := 24) (N := some 53) (v := ?_) (a' := ?_) #[true, true, true, true, true, true, true, true, true, true, true, true, true, true, true, true, true, true, true, true, true, true, true, true, true, false, false, false, false, false] rfl rfl (any_of HT_.out (by kernel_rfl)) (fun _ _ _ h => h) (Or.inl ⟨by rfl, ?_⟩) ?_ ?_
                      rotate_left
                      · intro w'
                        go_simp
                        with_reducible rfl
                      rotate_left
                      · simp only [Act.put, List.setIfInBounds_toArray, List.set_cons_zero, List.set_cons_succ, i64_w, i32_w]
                        rfl
                      refine pure_ (i := 25) (N := some 54) (v := ?_) (a' := ?_) #[true, true, true, true, true, true, true, true, true, true, true, true, true, true, true, true, true, true, true, true, true, true, true, true, true, true, false, false, false, false] rfl rfl (any_of HT_.out (by kernel_rfl)) (fun _ _ _ h => h) (Or.inl ⟨by rfl, ?_⟩) ?_ ?_
                      rotate_left
                      · intro w'
                        go_simp
                        with_reducible rfl
                      rotate_left
                      · simp only [Act.put, List.setIfInBounds_toArray, List.set_cons_zero, List.set_cons_succ, i64_w, i32_w]
                        rfl
                      refine take_ (i := 26) (N := some 55) (v := ?_) (a' := ?_) #[true, true, true, true, true, true, true, true, true, true, true, true, true, true, true, true, true, true, true, true, true, true, true, true, true, true, true, false, false, false] rfl rfl (take_ofW HT_.out HW_.out (by kernel_rfl)) (fun _ _ _ h => h) (Or.inl ⟨by rfl, ?_⟩) hHeld ?_ ?_
                      rotate_left
                      · rintro w' ⟨s0, s1, s2, s3, s4, s5, s6, s7, s8, s9, s10, s11, s12, s13, s14, s15, s16, s17, s18, s19, s20, s21, s22, s23⟩
                        go_simp
                        with_reducible rfl
                      rotate_left
                      · simp only [Act.put, List.setIfInBounds_toArray, List.set_cons_zero, List.set_cons_succ, i64_w, i32_w]
                        rfl
                      refine pure_ (i := 27) (N := some 56) (v := ?_) (a' := ?_) #[true, true, true, true, true, true, true, true, true, true, true, true, true, true, true, true, true, true, true, true, true, true, true, true, true, true, true, true, false, false] rfl rfl (any_of HT_.out (by kernel_rfl)) (fun _ _ _ h => h) (Or.inl ⟨by rfl, ?_⟩) ?_ ?_
                      rotate_left
                      · intro w'
                        go_simp
                        with_reducible rfl
                      rotate_left
                      · simp only [Act.put, List.setIfInBounds_toArray, List.set_cons_zero, List.set_cons_succ, i64_w, i32_w]
                        rfl
                      refine pure_ (i := 28) (N := some 57) (v := ?_) (a' := ?_) #[true, true, true, true, true, true, true, true, true, true, true, true, true, true, true, true, true, true, true, true, true, true, true, true, true, true, true, true, true, false] rfl rfl (any_of HT_.out (by kernel_rfl)) (fun _ _ _ h => h) (Or.inl ⟨by rfl, ?_⟩) ?_ ?_
                      rotate_left
                      · intro w'
                        go_simp
                        with_reducible rfl
                      rotate_left
                      · simp only [Act.put, List.setIfInBounds_toArray, List.set_cons_zero, List.set_cons_succ, i64_w, i32_w]
                        rfl
                      refine pure_ (i := 29) (N := some 58) (v := ?_) (a' := ?_) #[true, true, true, true, true, true, true, true, true, true, true, true, true, true, true, true, true, true, true, true, true, true, true, true, true, true, true, true, true, true] rfl rfl (any_of HT_.out (by kernel_rfl)) (fun _ _ _ h => h) (Or.inl ⟨by rfl, ?_⟩) ?_ ?_
                      rotate_left
                      · intro w'
                        go_simp
                        with_reducible rfl
                      rotate_left
                      · simp only [Act.put, List.setIfInBounds_toArray, List.set_cons_zero, List.set_cons_succ, i64_w, i32_w]
                        rfl
                      refine done_ (done_of HT_.out (by kernel_rfl)) ?_
                      try go_wp2
                      go_meet
                      case rel => exact ⟨_, (((((rd_T28 l0_1 x5_2).f0).length : Int) != (((rd_T28 l1_1 x5_2).f0).length : Int))), (by first | rfl | (simp; done) | (simp [*]; done)), H', ⟨by have := HJ2.out; have := HK2.out; first | omega | exact Nat.le_refl _⟩, ⟨by (with_reducible repeat (first | refine blk_drewN ?_ _ | refine blk_drew ?_ | refine blk_alloc ?_ _)); exact BK106.out⟩, ⟨by (with_reducible repeat (first | refine blk_drewN ?_ _ | refine blk_drew ?_ | refine blk_alloc ?_ _)); exact BK107.out⟩, ⟨by repeat (first | (with_reducible first | exact HB.out | apply below_alloc | apply pw_below_drewN | apply below_drew1 | refine below_set ?_ GE106.out | refine below_set ?_ GE107.out) | exact HB.out)⟩⟩
                  · rw [if_neg c19] at H
                    exact absurd H (by simp)
                · rw [if_neg c18] at H
                  exact absurd H (by simp)
              case rest =>
                clear HC15
                try clear c1
                try clear p1
                try clear q1
                try clear hx1
                try clear c2
                try clear p2
                try clear c10
                try clear p10
                try clear q10
                try clear hx10
                try clear c11
                try clear p11
                try clear q11
                try clear hx11
                try clear c18
                try clear c18b0
                try clear c19
                try clear c19b0
                try clear c20
                try clear c20b0
                try clear hx108_0
                try clear hx108_1
                try clear hx108_2
                try clear hx108_3
                try clear hx108_4
                try clear hx109_0
                try clear hx109_1
                try clear hx109_2
                try clear hx109_3
                try clear hx109_4
                try clear hx110_0
                try clear hx110_1
                try clear hx110_2
                try clear hx110_3
                try clear hx110_4
                try clear hx111_0
                try clear hx111_1
                try clear hx111_2
                try clear hx111_3
                try clear hx111_4
                try clear p108
                try clear p109
                try clear p110
                try clear p111
                try clear q108
                try clear q109
                try clear q110
                try clear q111
                obtain ⟨kq, x58_14, rfl, HA, HJ14, BK106, BK107, HB⟩ := hcut
                cases kq with
                | zero => exact absurd HA.out (by simp [swageref14_Same.j2])
                | succ kj14 =>
                  have H := HA.out
                  clear HA
                  simp only [swageref14_Same.j2] at H
                  by_cases c23 : x58_14 = true
                  · subst c23
                    have H1 : (some false) = some r := by rw [if_pos rfl] at H; exact H
                    clear H
                    have H := H1
                    clear H1
                    obtain rfl := Option.some.inj H
                    go_wp2
                    go_ret
                    exact ⟨by first | rfl | (simp [errW_none, errW_some] <;> rfl) | (simp [*, errW_none, errW_some] <;> rfl), by repeat (first | (with_reducible first | exact HB.out | apply below_alloc | apply pw_below_drewN | apply below_drew1 | refine below_set ?_ GE106.out | refine below_set ?_ GE107.out) | exact HB.out)⟩
                  · replace c23 := Bool.eq_false_iff.mpr c23
                    subst c23
                    have H1 : (swageref14_Same.l1 kj14 x5_2 0 a0_0 l0_1 a1_0 l1_1) = some r := by rw [if_neg (show ¬ (false = true) by decide)] at H; exact H
                    clear H
                    have H := H1
                    clear H1
                    have H' := Aside0.mk H
                    clear H
                    go_wp2
                    go_loopg [6] kj14 (fun kq v6 w' => ∃ (x6_4 : Int), v6 = .int .i64 x6_4 ∧ Aside0 (swageref14_Same.l1 kq x5_2 x6_4 a0_0 l0_1 a1_0 l1_1 = some r) ∧ Aside0 (kq ≤ kj14) ∧ Aside0 (w'.heap[gb106]? = some (.cells #[.int .i64 a0_0, (.slice A0_1 l0_1.length c0_1)] 36 (0, 0))) ∧ Aside0 (w'.heap[gb107]? = some (.cells #[.int .i64 a1_0, (.slice A1_1 l1_1.length c1_1)] 36 (0, 0))) ∧ Aside0 (Below w.heap.size w w'))
                    case atStart => exact ⟨(0), (by first | rfl | (simp; done) | (simp [*]; done)), H', ⟨Nat.le_refl _⟩, ⟨by (with_reducible repeat (first | refine blk_drewN ?_ _ | refine blk_drew ?_ | refine blk_alloc ?_ _)); exact BK106.out⟩, ⟨by (with_reducible repeat (first | refine blk_drewN ?_ _ | refine blk_drew ?_ | refine blk_alloc ?_ _)); exact BK107.out⟩, ⟨by repeat (first | (with_reducible first | exact HB.out | apply below_alloc | apply pw_below_drewN | apply below_drew1 | refine below_set ?_ GE106.out | refine below_set ?_ GE107.out) | exact HB.out)⟩⟩
                    case round =>
                      clear H'
                      try clear c1
                      try clear p1
                      try clear q1
                      try clear hx1
                      try clear c2
                      try clear p2
                      try clear c10
                      try clear p10
                      try clear q10
                      try clear hx10
                      try clear c11
                      try clear p11
                      try clear q11
                      try clear hx11
                      try clear c18
                      try clear c18b0
                      try clear c19
                      try clear c19b0
                      try clear c20
                      try clear c20b0
                      try clear c23
                      try clear hx108_0
                      try clear hx108_1
                      try clear hx108_2
                      try clear hx108_3
                      try clear hx108_4
                      try clear hx109_0
                      try clear hx109_1
                      try clear hx109_2
                      try clear hx109_3
                      try clear hx109_4
                      try clear hx110_0
                      try clear hx110_1
                      try clear hx110_2
                      try clear hx110_3
                      try clear hx110_4
                      try clear hx111_0
                      try clear hx111_1
                      try clear hx111_2
                      try clear hx111_3
                      try clear hx111_4
                      try clear p1
                      try clear p10
                      try clear p108
                      try clear p109
                      try clear p11
                      try clear p110
                      try clear p111
                      try clear p2
                      try clear q1
                      try clear q10
                      try clear q108
                      try clear q109
                      try clear q11
                      try clear q110
                      try clear q111
                      obtain ⟨x6_4, rfl, HA, HK4, BK106, BK107, HB⟩ := hrel
                      cases gk with
                      | zero => exact absurd HA.out (by simp [swageref14_Same.l1])
                      | succ k4 =>
                        have H := HA.out
                        clear HA
                        simp only [swageref14_Same.l1] at H
                        by_cases c24 : 0 ≤ x5_2
                        · rw [if_pos c24] at H
                          have c24b0 : decide (0 ≤ x5_2) = true := decide_eq_true c24
                          clear c24
                          by_cases c25 : x5_2 < (l0_1.length : Int)
                          · rw [if_pos c25] at H
                            have c25b0 : decide (x5_2 < (l0_1.length : Int)) = true := decide_eq_true c25
                            clear c25
                            by_cases c26 : x6_4 < (((rd_T28 l0_1 x5_2).f0).length : Int)
                            · rw [if_pos c26] at H
                              have c26b0 : decide (x6_4 < (((rd_T28 l0_1 x5_2).f0).length : Int)) = true := decide_eq_true c26
                              clear c26
                              by_cases c27 : 0 ≤ x6_4
                              · rw [if_pos c27] at H
                                have c27b0 : decide (0 ≤ x6_4) = true := decide_eq_true c27
                                clear c27
                                by_cases c28 : x5_2 < (l1_1.length : Int)
                                · rw [if_pos c28] at H
                                  have c28b0 : decide (x5_2 < (l1_1.length : Int)) = true := decide_eq_true c28
                                  clear c28
                                  by_cases c29 : x6_4 < (((rd_T28 l1_1 x5_2).f0).length : Int)
                                  · rw [if_pos c29] at H
                                    have c29b0 : decide (x6_4 < (((rd_T28 l1_1 x5_2).f0).length : Int)) = true := decide_eq_true c29
                                    clear c29
                                    replace H := Option.bind_eq_some_iff.mp H
                                    obtain ⟨t117, A300, H⟩ := H
                                    replace H : (if t117 = true then (swageref14_Same.l1 k4 x5_2 (wrap64 (x6_4 + 1)) a0_0 l0_1 a1_0 l1_1) else (some false)) = some r := H
                                    have A30 := Aside0.mk A300
                                    clear A300
                                    by_cases c31 : t117 = true
                                    · subst c31
                                      have H1 : (swageref14_Same.l1 k4 x5_2 (wrap64 (x6_4 + 1)) a0_0 l0_1 a1_0 l1_1) = some r := by rw [if_pos rfl] at H; exact H
                                      clear H
                                      have H := H1
                                      clear H1
                                      have H' := Aside0.mk H
                                      clear H
                                      have hnb32 := NB106_107.out
                                      have hnc32 := NB107_106.out
                                      have hcz33_0 : wr.cell? ⟨gb106, 0, none⟩ = some (.int .i64 a0_0) := (blk_cell BK106.out 0).trans rfl
                                      have hcz33_1 : wr.cell? ⟨gb106, 1, none⟩ = some (.slice A0_1 l0_1.length c0_1) := (blk_cell BK106.out 1).trans rfl
                                      have hfz33_0 := blk_frozen BK106.out 0
                                      have hfz33_1 := blk_frozen BK106.out 1
                                      have p112 : 0 ≤ (x5_2 : Int) := of_decide_eq_true (by first | (with_reducible assumption) | assumption)
                                      have q112 : x5_2 < (l0_1.length : Int) := of_decide_eq_true (by first | (with_reducible assumption) | assumption)
                                      obtain ⟨ad112, A112_0, c112_0, e112, hx112_0, hx112_1, hx112_2, hx112_3, hx112_4, hl112_0, hi112_0⟩ := at_T28 HR0_1.out x5_2 p112 q112
                                      cases e112
                                      replace hx112_0 := (HB.out.cell (World.block_lt_of_cell? w _ hx112_0)).trans hx112_0
                                      replace hx112_1 := (HB.out.cell (World.block_lt_of_cell? w _ hx112_1)).trans hx112_1
                                      replace hx112_2 := (HB.out.cell (World.block_lt_of_cell? w _ hx112_2)).trans hx112_2
                                      replace hx112_3 := (HB.out.cell (World.block_lt_of_cell? w _ hx112_3)).trans hx112_3
                                      replace hx112_4 := (HB.out.cell (World.block_lt_of_cell? w _ hx112_4)).trans hx112_4
                                      have HR112_0 := Aside0.mk hi112_0
                                      have HC112_0 := Aside0.mk hl112_0
                                      clear hi112_0 hl112_0
                                      replace p112 := eq_true p112
                                      replace q112 := eq_true q112
                                      try go_wp2
                                      have n0_ := Aside0.mk (blk_drew BK106.out)
                                      have n1_ := Aside0.mk (blk_drew BK107.out)
                                      have n2_ := Aside0.mk (below_drew1 HB.out)
                                      clear BK106
                                      clear BK107
                                      clear HB
                                      have BK106 := n0_
                                      have BK107 := n1_
                                      have HB := n2_
                                      clear n0_ n1_ n2_
                                      have p113 : 0 ≤ (x5_2 : Int) := of_decide_eq_true (by first | (with_reducible assumption) | assumption)
                                      have q113 : x5_2 < (l0_1.length : Int) := of_decide_eq_true (by first | (with_reducible assumption) | assumption)
                                      obtain ⟨ad113, A113_0, c113_0, e113, hx113_0, hx113_1, hx113_2, hx113_3, hx113_4, hl113_0, hi113_0⟩ := at_T28 HR0_1.out x5_2 p113 q113
                                      have hw113_4 := hx113_4
                                      have hw113_3 := hx113_3
                                      have hw113_2 := hx113_2
                                      have hw113_1 := hx113_1
                                      have hw113_0 := hx113_0
                                      obtain rfl : ad112 = ad113 := (by injection e113)
                                      replace hx113_0 := (HB.out.cell (World.block_lt_of_cell? w _ hx113_0)).trans hx113_0
                                      replace hx113_1 := (HB.out.cell (World.block_lt_of_cell? w _ hx113_1)).trans hx113_1
                                      replace hx113_2 := (HB.out.cell (World.block_lt_of_cell? w _ hx113_2)).trans hx113_2
                                      replace hx113_3 := (HB.out.cell (World.block_lt_of_cell? w _ hx113_3)).trans hx113_3
                                      replace hx113_4 := (HB.out.cell (World.block_lt_of_cell? w _ hx113_4)).trans hx113_4
                                      have HR113_0 := Aside0.mk hi113_0
                                      have HC113_0 := Aside0.mk hl113_0
                                      clear hi113_0 hl113_0
                                      replace p113 := eq_true p113
                                      replace q113 := eq_true q113
                                      have p114 : 0 ≤ (x6_4 : Int) := of_decide_eq_true (by first | (with_reducible assumption) | assumption)
                                      have q114 : x6_4 < (((rd_T28 l0_1 x5_2).f0).length : Int) := of_decide_eq_true (by first | (with_reducible assumption) | assumption)
                                      obtain ⟨ad114, A114_5, c114_5, e114, hx114_0, hx114_1, hx114_2, hx114_3, hx114_4, hx114_5, hl114_5, hi114_5⟩ := at_T30 HR113_0.out x6_4 p114 q114
                                      have hw114_5 := hx114_5
                                      have hw114_4 := hx114_4
                                      have hw114_3 := hx114_3
                                      have hw114_2 := hx114_2
                                      have hw114_1 := hx114_1
                                      have hw114_0 := hx114_0
                                      cases e114
                                      replace hx114_0 := (HB.out.cell (World.block_lt_of_cell? w _ hx114_0)).trans hx114_0
                                      replace hx114_1 := (HB.out.cell (World.block_lt_of_cell? w _ hx114_1)).trans hx114_1
                                      replace hx114_2 := (HB.out.cell (World.block_lt_of_cell? w _ hx114_2)).trans hx114_2
                                      replace hx114_3 := (HB.out.cell (World.block_lt_of_cell? w _ hx114_3)).trans hx114_3
                                      replace hx114_4 := (HB.out.cell (World.block_lt_of_cell? w _ hx114_4)).trans hx114_4
                                      replace hx114_5 := (HB.out.cell (World.block_lt_of_cell? w _ hx114_5)).trans hx114_5
                                      have HR114_5 := Aside0.mk hi114_5
                                      have HC114_5 := Aside0.mk hl114_5
                                      clear hi114_5 hl114_5
                                      replace p114 := eq_true p114
                                      replace q114 := eq_true q114
                                      have p115 : 0 ≤ (x5_2 : Int) := of_decide_eq_true (by first | (with_reducible assumption) | assumption)
                                      have q115 : x5_2 < (l1_1.length : Int) := of_decide_eq_true (by first | (with_reducible assumption) | assumption)
                                      obtain ⟨ad115, A115_0, c115_0, e115, hx115_0, hx115_1, hx115_2, hx115_3, hx115_4, hl115_0, hi115_0⟩ := at_T28 HR1_1.out x5_2 p115 q115
                                      have hw115_4 := hx115_4
                                      have hw115_3 := hx115_3
                                      have hw115_2 := hx115_2
                                      have hw115_1 := hx115_1
                                      have hw115_0 := hx115_0
                                      cases e115
                                      replace hx115_0 := (HB.out.cell (World.block_lt_of_cell? w _ hx115_0)).trans hx115_0
                                      replace hx115_1 := (HB.out.cell (World.block_lt_of_cell? w _ hx115_1)).trans hx115_1
                                      replace hx115_2 := (HB.out.cell (World.block_lt_of_cell? w _ hx115_2)).trans hx115_2
                                      replace hx115_3 := (HB.out.cell (World.block_lt_of_cell? w _ hx115_3)).trans hx115_3
                                      replace hx115_4 := (HB.out.cell (World.block_lt_of_cell? w _ hx115_4)).trans hx115_4
                                      have HR115_0 := Aside0.mk hi115_0
                                      have HC115_0 := Aside0.mk hl115_0
                                      clear hi115_0 hl115_0
                                      replace p115 := eq_true p115
                                      replace q115 := eq_true q115
                                      have p116 : 0 ≤ (x6_4 : Int) := of_decide_eq_true (by first | (with_reducible assumption) | assumption)
                                      have q116 : x6_4 < (((rd_T28 l1_1 x5_2).f0).length : Int) := of_decide_eq_true (by first | (with_reducible assumption) | assumption)
                                      obtain ⟨ad116, A116_5, c116_5, e116, hx116_0, hx116_1, hx116_2, hx116_3, hx116_4, hx116_5, hl116_5, hi116_5⟩ := at_T30 HR115_0.out x6_4 p116 q116
                                      have hw116_5 := hx116_5
                                      have hw116_4 := hx116_4
                                      have hw116_3 := hx116_3
                                      have hw116_2 := hx116_2
                                      have hw116_1 := hx116_1
                                      have hw116_0 := hx116_0
                                      cases e116
                                      replace hx116_0 := (HB.out.cell (World.block_lt_of_cell? w _ hx116_0)).trans hx116_0
                                      replace hx116_1 := (HB.out.cell (World.block_lt_of_cell? w _ hx116_1)).trans hx116_1
                                      replace hx116_2 := (HB.out.cell (World.block_lt_of_cell? w _ hx116_2)).trans hx116_2
                                      replace hx116_3 := (HB.out.cell (World.block_lt_of_cell? w _ hx116_3)).trans hx116_3
                                      replace hx116_4 := (HB.out.cell (World.block_lt_of_cell? w _ hx116_4)).trans hx116_4
                                      replace hx116_5 := (HB.out.cell (World.block_lt_of_cell? w _ hx116_5)).trans hx116_5
                                      have HR116_5 := Aside0.mk hi116_5
                                      have HC116_5 := Aside0.mk hl116_5
                                      clear hi116_5 hl116_5
                                      replace p116 := eq_true p116
                                      replace q116 := eq_true q116
                                      refine start_ (n := 20) (S := fun w' => w'.cell? ⟨gb106, 0, none⟩ = some (.int .i64 a0_0) ∧ w'.cell? ⟨gb106, 1, none⟩ = some (.slice (some ad112) l0_1.length c0_1) ∧ w'.cell? ⟨gb107, 0, none⟩ = some (.int .i64 a1_0) ∧ w'.cell? ⟨gb107, 1, none⟩ = some (.slice (some ad115) l1_1.length c1_1) ∧ w'.cell? (ad112.add ((x5_2).toNat * 5)) = some (.slice (some ad114) ((rd_T28 l0_1 x5_2).f0).length c113_0) ∧ w'.cell? ⟨(ad112.add ((x5_2).toNat * 5)).block, (ad112.add ((x5_2).toNat * 5)).off + 1, none⟩ = some (.int .i64 ((rd_T28 l0_1 x5_2).f1.f0)) ∧ w'.cell? ⟨(ad112.add ((x5_2).toNat * 5)).block, (ad112.add ((x5_2).toNat * 5)).off + 2, none⟩ = some (.int .i64 ((rd_T28 l0_1 x5_2).f1.f1)) ∧ w'.cell? ⟨(ad112.add ((x5_2).toNat * 5)).block, (ad112.add ((x5_2).toNat * 5)).off + 3, none⟩ = some (.int .i64 ((rd_T28 l0_1 x5_2).f1.f2)) ∧ w'.cell? ⟨(ad112.add ((x5_2).toNat * 5)).block, (ad112.add ((x5_2).toNat * 5)).off + 4, none⟩ = some (.int .i64 ((rd_T28 l0_1 x5_2).f1.f3)) ∧ w'.cell? (ad114.add ((x6_4).toNat * 6)) = some (.int .i64 ((rd_T30 ((rd_T28 l0_1 x5_2).f0) x6_4).f0)) ∧ w'.cell? ⟨(ad114.add ((x6_4).toNat * 6)).block, (ad114.add ((x6_4).toNat * 6)).off + 1, none⟩ = some (.int .i64 ((rd_T30 ((rd_T28 l0_1 x5_2).f0) x6_4).f1)) ∧ w'.cell? ⟨(ad114.add ((x6_4).toNat * 6)).block, (ad114.add ((x6_4).toNat * 6)).off + 2, none⟩ = some (.int .i64 ((rd_T30 ((rd_T28 l0_1 x5_2).f0) x6_4).f2)) ∧ w'.cell? ⟨(ad114.add ((x6_4).toNat * 6)).block, (ad114.add ((x6_4).toNat * 6)).off + 3, none⟩ = some (.int .i64 ((rd_T30 ((rd_T28 l0_1 x5_2).f0) x6_4).f3)) ∧ w'.cell? ⟨(ad114.add ((x6_4).toNat * 6)).block, (ad114.add ((x6_4).toNat * 6)).off + 4, none⟩ = some (.int .i64 ((rd_T30 ((rd_T28 l0_1 x5_2).f0) x6_4).f4)) ∧ w'.cell? ⟨(ad114.add ((x6_4).toNat * 6)).block, (ad114.add ((x6_4).toNat * 6)).off + 5, none⟩ = some (.slice A114_5 ((rd_T30 ((rd_T28 l0_1 x5_2).f0) x6_4).f5).length c114_5) ∧ w'.cell? (ad115.add ((x5_2).toNat * 5)) = some (.slice (some ad116) ((rd_T28 l1_1 x5_2).f0).length c115_0) ∧ w'.cell? ⟨(ad115.add ((x5_2).toNat * 5)).block, (ad115.add ((x5_2).toNat * 5)).off + 1, none⟩ = some (.int .i64 ((rd_T28 l1_1 x5_2).f1.f0)) ∧ w'.cell? ⟨(ad115.add ((x5_2).toNat * 5)).block, (ad115.add ((x5_2).toNat * 5)).off + 2, none⟩ = some (.int .i64 ((rd_T28 l1_1 x5_2).f1.f1)) ∧ w'.cell? ⟨(ad115.add ((x5_2).toNat * 5)).block, (ad115.add ((x5_2).toNat * 5)).off + 3, none⟩ = some (.int .i64 ((rd_T28 l1_1 x5_2).f1.f2)) ∧ w'.cell? ⟨(ad115.add ((x5_2).toNat * 5)).block, (ad115.add ((x5_2).toNat * 5)).off + 4, none⟩ = some (.int .i64 ((rd_T28 l1_1 x5_2).f1.f3)) ∧ w'.cell? (ad116.add ((x6_4).toNat * 6)) = some (.int .i64 ((rd_T30 ((rd_T28 l1_1 x5_2).f0) x6_4).f0)) ∧ w'.cell? ⟨(ad116.add ((x6_4).toNat * 6)).block, (ad116.add ((x6_4).toNat * 6)).off + 1, none⟩ = some (.int .i64 ((rd_T30 ((rd_T28 l1_1 x5_2).f0) x6_4).f1)) ∧ w'.cell? ⟨(ad116.add ((x6_4).toNat * 6)).block, (ad116.add ((x6_4).toNat * 6)).off + 2, none⟩ = some (.int .i64 ((rd_T30 ((rd_T28 l1_1 x5_2).f0) x6_4).f2)) ∧ w'.cell? ⟨(ad116.add ((x6_4).toNat * 6)).block, (ad116.add ((x6_4).toNat * 6)).off + 3, none⟩ = some (.int .i64 ((rd_T30 ((rd_T28 l1_1 x5_2).f0) x6_4).f3)) ∧ w'.cell? ⟨(ad116.add ((x6_4).toNat * 6)).block, (ad116.add ((x6_4).toNat * 6)).off + 4, none⟩ = some (.int .i64 ((rd_T30 ((rd_T28 l1_1 x5_2).f0) x6_4).f4)) ∧ w'.cell? ⟨(ad116.add ((x6_4).toNat * 6)).block, (ad116.add ((x6_4).toNat * 6)).off + 5, none⟩ = some (.slice A116_5 ((rd_T30 ((rd_T28 l1_1 x5_2).f0) x6_4).f5).length c116_5)) (ds := []) #[false, false, false, false, false, false, false, false, false, false, false, false, false, false, false, false, false, false, false, false] (by kernel_rfl) rfl rfl ⟨(blk_cell BK106.out 0).trans rfl, (blk_cell BK106.out 1).trans rfl, (blk_cell BK107.out 0).trans rfl, (blk_cell BK107.out 1).trans rfl, ((HB.out.cell (World.block_lt_of_cell? w _ hw113_0)).trans hw113_0), ((HB.out.cell (World.block_lt_of_cell? w _ hw113_1)).trans hw113_1), ((HB.out.cell (World.block_lt_of_cell? w _ hw113_2)).trans hw113_2), ((HB.out.cell (World.block_lt_of_cell? w _ hw113_3)).trans hw113_3), ((HB.out.cell (World.block_lt_of_cell? w _ hw113_4)).trans hw113_4), ((HB.out.cell (World.block_lt_of_cell? w _ hw114_0)).trans hw114_0), ((HB.out.cell (World.block_lt_of_cell? w _ hw114_1)).trans hw114_1), ((HB.out.cell (World.block_lt_of_cell? w _ hw114_2)).trans hw114_2), ((HB.out.cell (World.block_lt_of_cell? w _ hw114_3)).trans hw114_3), ((HB.out.cell (World.block_lt_of_cell? w _ hw114_4)).trans hw114_4), ((HB.out.cell (World.block_lt_of_cell? w _ hw114_5)).trans hw114_5), ((HB.out.cell (World.block_lt_of_cell? w _ hw115_0)).trans hw115_0), ((HB.out.cell (World.block_lt_of_cell? w _ hw115_1)).trans hw115_1), ((HB.out.cell (World.block_lt_of_cell? w _ hw115_2)).trans hw115_2), ((HB.out.cell (World.block_lt_of_cell? w _ hw115_3)).trans hw115_3), ((HB.out.cell (World.block_lt_of_cell? w _ hw115_4)).trans hw115_4), ((HB.out.cell (World.block_lt_of_cell? w _ hw116_0)).trans hw116_0), ((HB.out.cell (World.block_lt_of_cell? w _ hw116_1)).trans hw116_1), ((HB.out.cell (World.block_lt_of_cell? w _ hw116_2)).trans hw116_2), ((HB.out.cell (World.block_lt_of_cell? w _ hw116_3)).trans hw116_3), ((HB.out.cell (World.block_lt_of_cell? w _ hw116_4)).trans hw116_4), ((HB.out.cell (World.block_lt_of_cell? w _ hw116_5)).trans hw116_5)⟩ (fun hHeld => ?_); refine with_tabW swageref14_Same.tab11 swageref14_Same.bits11 (fun HT_ HW_ => ?_)
                                      generalize wr.drew = w34 at BK106 BK107 HB HR113_0 HR114_5 HR115_0 HR116_5 hx113_0 hx113_1 hx113_2 hx113_3 hx113_4 hx114_0 hx114_1 hx114_2 hx114_3 hx114_4 hx114_5 hx115_0 hx115_1 hx115_2 hx115_3 hx115_4 hx116_0 hx116_1 hx116_2 hx116_3 hx116_4 hx116_5 hHeld ⊢
                                      refine pure_ (i := 0) (N := some 70) (v := ?_) (a' := ?_) #[true, false, false, false, false, false, false, false, false, false, false, false, false, false, false, false, false, false, false, false] rfl rfl (any_of HT_.out (by kernel_rfl)) (fun _ _ _ h => h) (Or.inl ⟨by rfl, ?_⟩) ?_ ?_
                                      rotate_left
                                      · intro w'
                                        go_simp
                                        with_reducible rfl
                                      rotate_left
                                      · simp only [Act.put, List.setIfInBounds_toArray, List.set_cons_zero, List.set_cons_succ, i64_w, i32_w]
                                        rfl
                                      refine pure_ (i := 2) (N := some 72) (v := ?_) (a' := ?_) #[true, false, true, false, false, false, false, false, false, false, false, false, false, false, false, false, false, false, false, false] rfl rfl (any_of HT_.out (by kernel_rfl)) (fun _ _ _ h => h) (Or.inl ⟨by rfl, ?_⟩) ?_ ?_
                                      rotate_left
                                      · intro w'
                                        go_simp
                                        with_reducible rfl
                                      rotate_left
                                      · simp only [Act.put, List.setIfInBounds_toArray, List.set_cons_zero, List.set_cons_succ, i64_w, i32_w]
                                        rfl
                                      refine pure_ (i := 6) (N := some 76) (v := ?_) (a' := ?_) #[true, false, true, false, false, false, true, false, false, false, false, false, false, false, false, false, false, false, false, false] rfl rfl (any_of HT_.out (by kernel_rfl)) (fun _ _ _ h => h) (Or.inl ⟨by rfl, ?_⟩) ?_ ?_
                                      rotate_left
                                      · intro w'
                                        go_simp
                                        with_reducible rfl
                                      rotate_left
                                      · simp only [Act.put, List.setIfInBounds_toArray, List.set_cons_zero, List.set_cons_succ, i64_w, i32_w]
                                        rfl
                                      refine pure_ (i := 9) (N := some 79) (v := ?_) (a' := ?_) #[true, false, true, false, false, false, true, false, false, true, false, false, false, false, false, false, false, false, false, false] rfl rfl (any_of HT_.out (by kernel_rfl)) (fun _ _ _ h => h) (Or.inl ⟨by rfl, ?_⟩) ?_ ?_
                                      rotate_left
                                      · intro w'
                                        go_simp
                                        with_reducible rfl
                                      rotate_left
                                      · simp only [Act.put, List.setIfInBounds_toArray, List.set_cons_zero, List.set_cons_succ, i64_w, i32_w]
                                        rfl
                                      refine pure_ (i := 11) (N := some 81) (v := ?_) (a' := ?_) #[true, false, true, false, false, false, true, false, false, true, false, true, false, false, false, false, false, false, false, false] rfl rfl (any_of HT_.out (by kernel_rfl)) (fun _ _ _ h => h) (Or.inl ⟨by rfl, ?_⟩) ?_ ?_
                                      rotate_left
                                      · intro w'
                                        go_simp
                                        with_reducible rfl
                                      rotate_left
                                      · simp only [Act.put, List.setIfInBounds_toArray, List.set_cons_zero, List.set_cons_succ, i64_w, i32_w]
                                        rfl
                                      refine pure_ (i := 15) (N := some 85) (v := ?_) (a' := ?_) #[true, false, true, false, false, false, true, false, false, true, false, true, false, false, false, true, false, false, false, false] rfl rfl (any_of HT_.out (by kernel_rfl)) (fun _ _ _ h => h) (Or.inl ⟨by rfl, ?_⟩) ?_ ?_
                                      rotate_left
                                      · intro w'
                                        go_simp
                                        with_reducible rfl
                                      rotate_left
                                      · simp only [Act.put, List.setIfInBounds_toArray, List.set_cons_zero, List.set_cons_succ, i64_w, i32_w]
                                        rfl
                                      refine take_ (i := 1) (N := some 71) (v := ?_) (a' := ?_) #[true, true, true, false, false, false, true, false, false, true, false, true, false, false, false, true, false, false, false, false] rfl rfl (take_ofW HT_.out HW_.out (by kernel_rfl)) (fun _ _ _ h => h) (Or.inl ⟨by rfl, ?_⟩) hHeld ?_ ?_
                                      rotate_left
                                      · rintro w' ⟨s0, s1, s2, s3, s4, s5, s6, s7, s8, s9, s10, s11, s12, s13, s14, s15, s16, s17, s18, s19, s20, s21, s22, s23, s24, s25⟩
                                        go_simp
                                        with_reducible rfl
                                      rotate_left
                                      · simp only [Act.put, List.setIfInBounds_toArray, List.set_cons_zero, List.set_cons_succ, i64_w, i32_w]
                                        rfl
                                      refine pure_ (i := 3) (N := some 73) (v := ?_) (a' := ?_) #[true, true, true, true, false, false, true, false, false, true, false, true, false, false, false, true, false, false, false, false] rfl rfl (any_of HT_.out (by kernel_rfl)) (fun _ _ _ h => h) (Or.inl ⟨by rfl, ?_⟩) ?_ ?_
                                      rotate_left
                                      · intro w'
                                        go_simp
                                        with_reducible rfl
                                      rotate_left
                                      · simp only [Act.put, List.setIfInBounds_toArray, List.set_cons_zero, List.set_cons_succ, i64_w, i32_w]
                                        rfl
                                      refine pure_ (i := 4) (N := some 74) (v := ?_) (a' := ?_) #[true, true, true, true, true, false, true, false, false, true, false, true, false, false, false, true, false, false, false, false] rfl rfl (any_of HT_.out (by kernel_rfl)) (fun _ _ _ h => h) (Or.inl ⟨by rfl, ?_⟩) ?_ ?_
                                      rotate_left
                                      · intro w'
                                        go_simp
                                        with_reducible rfl
                                      rotate_left
                                      · simp only [Act.put, List.setIfInBounds_toArray, List.set_cons_zero, List.set_cons_succ, i64_w, i32_w]
                                        rfl
                                      refine take_ (i := 5) (N := some 75) (v := ?_) (a' := ?_) #[true, true, true, true, true, true, true, false, false, true, false, true, false, false, false, true, false, false, false, false] rfl rfl (take_ofW HT_.out HW_.out (by kernel_rfl)) (fun _ _ _ h => h) (Or.inl ⟨by rfl, ?_⟩) hHeld ?_ ?_
                                      rotate_left
                                      · rintro w' ⟨s0, s1, s2, s3, s4, s5, s6, s7, s8, s9, s10, s11, s12, s13, s14, s15, s16, s17, s18, s19, s20, s21, s22, s23, s24, s25⟩
                                        go_simp
                                        with_reducible rfl
                                      rotate_left
                                      · simp only [Act.put, List.setIfInBounds_toArray, List.set_cons_zero, List.set_cons_succ, i64_w, i32_w]
                                        rfl
                                      refine pure_ (i := 7) (N := some 77) (v := ?_) (a' := ?_) #[true, true, true, true, true, true, true, true, false, true, false, true, false, false, false, true, false, false, false, false] rfl rfl (any_of HT_.out (by kernel_rfl)) (fun _ _ _ h => h) (Or.inl ⟨by rfl, ?_⟩) ?_ ?_
                                      rotate_left
                                      · intro w'
                                        go_simp
                                        with_reducible rfl
                                      rotate_left
                                      · simp only [Act.put, List.setIfInBounds_toArray, List.set_cons_zero, List.set_cons_succ, i64_w, i32_w]
                                        rfl
                                      refine take_ (i := 8) (N := some 78) (v := ?_) (a' := ?_) #[true, true, true, true, true, true, true, true, true, true, false, true, false, false, false, true, false, false, false, false] rfl rfl (take_ofW HT_.out HW_.out (by kernel_rfl)) (fun _ _ _ h => h) (Or.inl ⟨by rfl, ?_⟩) hHeld ?_ ?_
                                      rotate_left
                                      · rintro w' ⟨s0, s1, s2, s3, s4, s5, s6, s7, s8, s9, s10, s11, s12, s13, s14, s15, s16, s17, s18, s19, s20, s21, s22, s23, s24, s25⟩
                                        go_simp
                                        with_reducible rfl
                                      rotate_left
                                      · simp only [Act.put, List.setIfInBounds_toArray, List.set_cons_zero, List.set_cons_succ, i64_w, i32_w]
                                        rfl
                                      refine take_ (i := 10) (N := some 80) (v := ?_) (a' := ?_) #[true, true, true, true, true, true, true, true, true, true, true, true, false, false, false, true, false, false, false, false] rfl rfl (take_ofW HT_.out HW_.out (by kernel_rfl)) (fun _ _ _ h => h) (Or.inl ⟨by rfl, ?_⟩) hHeld ?_ ?_
                                      rotate_left
                                      · rintro w' ⟨s0, s1, s2, s3, s4, s5, s6, s7, s8, s9, s10, s11, s12, s13, s14, s15, s16, s17, s18, s19, s20, s21, s22, s23, s24, s25⟩
                                        go_simp
                                        with_reducible rfl
                                      rotate_left
                                      · simp only [Act.put, List.setIfInBounds_toArray, List.set_cons_zero, List.set_cons_succ, i64_w, i32_w]
                                        rfl
                                      refine pure_ (i := 12) (N := some 82) (v := ?_) (a' := ?_) #[true, true, true, true, true, true, true, true, true, true, true, true, true, false, false, true, false, false, false, false] rfl rfl (any_of HT_.out (by kernel_rfl)) (fun _ _ _ h => h) (Or.inl ⟨by rfl, ?_⟩) ?_ ?_
                                      rotate_left
                                      · intro w'
                                        go_simp
                                        with_reducible rfl
                                      rotate_left
                                      · simp only [Act.put, List.setIfInBounds_toArray, List.set_cons_zero, List.set_cons_succ, i64_w, i32_w]
                                        rfl
                                      refine pure_ (i := 13) (N := some 83) (v := ?_) (a' := ?_) #[true, true, true, true, true, true, true, true, true, true, true, true, true, true, false, true, false, false, false, false] rfl rfl (any_of HT_.out (by kernel_rfl)) (fun _ _ _ h => h) (Or.inl ⟨by rfl, ?_⟩) ?_ ?_
                                      rotate_left
                                      · intro w'
                                        go_simp
                                        with_reducible rfl
                                      rotate_left
                                      · simp only [Act.put, List.setIfInBounds_toArray, List.set_cons_zero, List.set_cons_succ, i64_w, i32_w]
                                        rfl
                                      refine take_ (i := 14) (N := some 84) (v := ?_) (a' := ?_) #[true, true, true, true, true, true, true, true, true, true, true, true, true, true, true, true, false, false, false, false] rfl rfl (take_ofW HT_.out HW_.out (by kernel_rfl)) (fun _ _ _ h => h) (Or.inl ⟨by rfl, ?_⟩) hHeld ?_ ?_
                                      rotate_left
                                      · rintro w' ⟨s0, s1, s2, s3, s4, s5, s6, s7, s8, s9, s10, s11, s12, s13, s14, s15, s16, s17, s18, s19, s20, s21, s22, s23, s24, s25⟩
                                        go_simp
                                        with_reducible rfl
                                      rotate_left
                                      · simp only [Act.put, List.setIfInBounds_toArray, List.set_cons_zero, List.set_cons_succ, i64_w, i32_w]
                                        rfl
                                      refine pure_ (i := 16) (N := some 86) (v := ?_) (a' := ?_) #[true, true, true, true, true, true, true, true, true, true, true, true, true, true, true, true, true, false, false, false] rfl rfl (any_of HT_.out (by kernel_rfl)) (fun _ _ _ h => h) (Or.inl ⟨by rfl, ?_⟩) ?_ ?_
                                      rotate_left
                                      · intro w'
                                        go_simp
                                        with_reducible rfl
                                      rotate_left
                                      · simp only [Act.put, List.setIfInBounds_toArray, List.set_cons_zero, List.set_cons_succ, i64_w, i32_w]
                                        rfl
                                      refine take_ (i := 17) (N := some 87) (v := ?_) (a' := ?_) #[true, true, true, true, true, true, true, true, true, true, true, true, true, true, true, true, true, true, false, false] rfl rfl (take_ofW HT_.out HW_.out (by kernel_rfl)) (fun _ _ _ h => h) (Or.inl ⟨by rfl, ?_⟩) hHeld ?_ ?_
                                      rotate_left
                                      · rintro w' ⟨s0, s1, s2, s3, s4, s5, s6, s7, s8, s9, s10, s11, s12, s13, s14, s15, s16, s17, s18, s19, s20, s21, s22, s23, s24, s25⟩
                                        go_simp
                                        with_reducible rfl
                                      rotate_left
                                      · simp only [Act.put, List.setIfInBounds_toArray, List.set_cons_zero, List.set_cons_succ, i64_w, i32_w]
                                        rfl
                                      refine one_ (i := 18) (N := some 88) #[true, true, true, true, true, true, true, true, true, true, true, true, true, true, true, true, true, true, true, false] rfl rfl (one_of HT_.out (by kernel_rfl)) (by decide) (fun K hK => ?_)
                                      refine goes_ Try.func21 (by kernel_rfl) rfl #[.agg #[.int .i64 ((rd_T30 ((rd_T28 l0_1 x5_2).f0) x6_4).f0), .int .i64 ((rd_T30 ((rd_T28 l0_1 x5_2).f0) x6_4).f1), .int .i64 ((rd_T30 ((rd_T28 l0_1 x5_2).f0) x6_4).f2), .int .i64 ((rd_T30 ((rd_T28 l0_1 x5_2).f0) x6_4).f3), .int .i64 ((rd_T30 ((rd_T28 l0_1 x5_2).f0) x6_4).f4), .slice A114_5 ((rd_T30 ((rd_T28 l0_1 x5_2).f0) x6_4).f5).length c114_5], .agg #[.int .i64 ((rd_T30 ((rd_T28 l1_1 x5_2).f0) x6_4).f0), .int .i64 ((rd_T30 ((rd_T28 l1_1 x5_2).f0) x6_4).f1), .int .i64 ((rd_T30 ((rd_T28 l1_1 x5_2).f0) x6_4).f2), .int .i64 ((rd_T30 ((rd_T28 l1_1 x5_2).f0) x6_4).f3), .int .i64 ((rd_T30 ((rd_T28 l1_1 x5_2).f0) x6_4).f4), .slice A116_5 ((rd_T30 ((rd_T28 l1_1 x5_2).f0) x6_4).f5).length c116_5]] (by rfl) rfl rfl (by (try simp only [List.map_toArray, List.map_cons, List.map_nil]); first | done | rfl | (simp only [List.length_drop, List.length_take]; rfl)) ?_
                                      with_reducible refine (swageref14_SameOp.calls k4 ((rd_T30 ((rd_T28 l0_1 x5_2).f0) x6_4).f0) ((rd_T30 ((rd_T28 l0_1 x5_2).f0) x6_4).f1) ((rd_T30 ((rd_T28 l0_1 x5_2).f0) x6_4).f2) ((rd_T30 ((rd_T28 l0_1 x5_2).f0) x6_4).f3) ((rd_T30 ((rd_T28 l0_1 x5_2).f0) x6_4).f4) _ _ ((rd_T30 ((rd_T28 l0_1 x5_2).f0) x6_4).f5) ((rd_T30 ((rd_T28 l1_1 x5_2).f0) x6_4).f0) ((rd_T30 ((rd_T28 l1_1 x5_2).f0) x6_4).f1) ((rd_T30 ((rd_T28 l1_1 x5_2).f0) x6_4).f2) ((rd_T30 ((rd_T28 l1_1 x5_2).f0) x6_4).f3) ((rd_T30 ((rd_T28 l1_1 x5_2).f0) x6_4).f4) _ _ ((rd_T30 ((rd_T28 l1_1 x5_2).f0) x6_4).f5) true _ ?side1 ?side2 ?side3 ?side4 A30.out).mono ?_
                                      (case side1 => repeat (first | exact (Kd.C_below HR114_5.out HB.out) | (with_reducible refine Kd.C_alloc ?_ _) | (with_reducible refine Kd.C_drewN ?_ _) | (with_reducible refine Kd.C_drew ?_)))
                                      (case side2 => exact HC114_5.out)
                                      (case side3 => repeat (first | exact (Kd.C_below HR116_5.out HB.out) | (with_reducible refine Kd.C_alloc ?_ _) | (with_reducible refine Kd.C_drewN ?_ _) | (with_reducible refine Kd.C_drew ?_)))
                                      (case side4 => exact HC116_5.out)
                                      rintro e w35 ⟨rfl, hb⟩
                                      refine ⟨_, rfl, ?_⟩
                                      have n0_ := Aside0.mk (blk_below (g := gb106) (o := .cells #[.int .i64 a0_0, .slice (some ad112) l0_1.length c0_1] 36 (0, 0)) (by (with_reducible repeat (first | refine blk_drewN ?_ _ | refine blk_drew ?_ | refine blk_alloc ?_ _)); exact BK106.out) hb)
                                      have n1_ := Aside0.mk (blk_below (g := gb107) (o := .cells #[.int .i64 a1_0, .slice (some ad115) l1_1.length c1_1] 36 (0, 0)) (by (with_reducible repeat (first | refine blk_drewN ?_ _ | refine blk_drew ?_ | refine blk_alloc ?_ _)); exact BK107.out) hb)
                                      have n2_ := Aside0.mk (below_step (by repeat (first | (with_reducible first | exact HB.out | apply below_alloc | apply pw_below_drewN | apply below_drew1 | refine below_set ?_ GE106.out | refine below_set ?_ GE107.out) | exact HB.out)) hb)
                                      clear BK106
                                      clear BK107
                                      clear HB
                                      have BK106 := n0_
                                      have BK107 := n1_
                                      have HB := n2_
                                      clear n0_ n1_ n2_
                                      (try clear hb)
                                      (try clear hb2)
                                      (try clear hk)
                                      (try clear hi)
                                      refine hK.out _ _ ⟨(blk_cell BK106.out 0).trans rfl, (blk_cell BK106.out 1).trans rfl, (blk_cell BK107.out 0).trans rfl, (blk_cell BK107.out 1).trans rfl, ((HB.out.cell (World.block_lt_of_cell? w _ hw113_0)).trans hw113_0), ((HB.out.cell (World.block_lt_of_cell? w _ hw113_1)).trans hw113_1), ((HB.out.cell (World.block_lt_of_cell? w _ hw113_2)).trans hw113_2), ((HB.out.cell (World.block_lt_of_cell? w _ hw113_3)).trans hw113_3), ((HB.out.cell (World.block_lt_of_cell? w _ hw113_4)).trans hw113_4), ((HB.out.cell (World.block_lt_of_cell? w _ hw114_0)).trans hw114_0), ((HB.out.cell (World.block_lt_of_cell? w _ hw114_1)).trans hw114_1), ((HB.out.cell (World.block_lt_of_cell? w _ hw114_2)).trans hw114_2), ((HB.out.cell (World.block_lt_of_cell? w _ hw114_3)).trans hw114_3), ((HB.out.cell (World.block_lt_of_cell? w _ hw114_4)).trans hw114_4), ((HB.out.cell (World.block_lt_of_cell? w _ hw114_5)).trans hw114_5), ((HB.out.cell (World.block_lt_of_cell? w _ hw115_0)).trans hw115_0), ((HB.out.cell (World.block_lt_of_cell? w _ hw115_1)).trans hw115_1), ((HB.out.cell (World.block_lt_of_cell? w _ hw115_2)).trans hw115_2), ((HB.out.cell (World.block_lt_of_cell? w _ hw115_3)).trans hw115_3), ((HB.out.cell (World.block_lt_of_cell? w _ hw115_4)).trans hw115_4), ((HB.out.cell (World.block_lt_of_cell? w _ hw116_0)).trans hw116_0), ((HB.out.cell (World.block_lt_of_cell? w _ hw116_1)).trans hw116_1), ((HB.out.cell (World.block_lt_of_cell? w _ hw116_2)).trans hw116_2), ((HB.out.cell (World.block_lt_of_cell? w _ hw116_3)).trans hw116_3), ((HB.out.cell (World.block_lt_of_cell? w _ hw116_4)).trans hw116_4), ((HB.out.cell (World.block_lt_of_cell? w _ hw116_5)).trans hw116_5)⟩ (fun hHeld => ?_)
                                      clear hK K
                                      refine norm_ (a' := ?_) ?_ ?_
                                      rotate_left
                                      · show Act.put _ (some 88) _ = _
                                        simp only [Act.put, List.setIfInBounds_toArray, List.set_cons_zero, List.set_cons_succ, i64_w, i32_w]
                                        rfl
                                      refine pure_ (i := 19) (N := some 7) (v := ?_) (a' := ?_) #[true, true, true, true, true, true, true, true, true, true, true, true, true, true, true, true, true, true, true, true] rfl rfl (any_of HT_.out (by kernel_rfl)) (fun _ _ _ h => h) (Or.inl ⟨by rfl, ?_⟩) ?_ ?_
                                      rotate_left
                                      · intro w'
                                        go_simp
                                        with_reducible rfl
                                      rotate_left
                                      · simp only [Act.put, List.setIfInBounds_toArray, List.set_cons_zero, List.set_cons_succ, i64_w, i32_w]
                                        rfl
                                      refine done_ (done_of HT_.out (by kernel_rfl)) ?_
                                      try go_wp2
                                      go_roundg k4
                                      case measure => have := HJ2.out; have := HK2.out; have := HJ14.out; have := HK4.out; omega
                                      case rel => exact ⟨(wrap64 (x6_4 + 1)), (by first | rfl | (simp; done) | (simp [*]; done)), H', ⟨by have := HJ2.out; have := HK2.out; have := HJ14.out; have := HK4.out; omega⟩, ⟨by (with_reducible repeat (first | refine blk_drewN ?_ _ | refine blk_drew ?_ | refine blk_alloc ?_ _)); exact BK106.out⟩, ⟨by (with_reducible repeat (first | refine blk_drewN ?_ _ | refine blk_drew ?_ | refine blk_alloc ?_ _)); exact BK107.out⟩, ⟨by repeat (first | (with_reducible first | exact HB.out | apply below_alloc | apply pw_below_drewN | apply below_drew1 | refine below_set ?_ GE106.out | refine below_set ?_ GE107.out) | exact HB.out)⟩⟩
                                    · replace c31 := Bool.eq_false_iff.mpr c31
                                      subst c31
                                      have H1 : (some false) = some r := by rw [if_neg (show ¬ (false = true) by decide)] at H; exact H
                                      clear H
                                      have H := H1
                                      clear H1
                                      obtain rfl := Option.some.inj H
                                      have hnb36 := NB106_107.out
                                      have hnc36 := NB107_106.out
                                      have hcz37_0 : wr.cell? ⟨gb106, 0, none⟩ = some (.int .i64 a0_0) := (blk_cell BK106.out 0).trans rfl
                                      have hcz37_1 : wr.cell? ⟨gb106, 1, none⟩ = some (.slice A0_1 l0_1.length c0_1) := (blk_cell BK106.out 1).trans rfl
                                      have hfz37_0 := blk_frozen BK106.out 0
                                      have hfz37_1 := blk_frozen BK106.out 1
                                      have p112 : 0 ≤ (x5_2 : Int) := of_decide_eq_true (by first | (with_reducible assumption) | assumption)
                                      have q112 : x5_2 < (l0_1.length : Int) := of_decide_eq_true (by first | (with_reducible assumption) | assumption)
                                      obtain ⟨ad112, A112_0, c112_0, e112, hx112_0, hx112_1, hx112_2, hx112_3, hx112_4, hl112_0, hi112_0⟩ := at_T28 HR0_1.out x5_2 p112 q112
                                      cases e112
                                      replace hx112_0 := (HB.out.cell (World.block_lt_of_cell? w _ hx112_0)).trans hx112_0
                                      replace hx112_1 := (HB.out.cell (World.block_lt_of_cell? w _ hx112_1)).trans hx112_1
                                      replace hx112_2 := (HB.out.cell (World.block_lt_of_cell? w _ hx112_2)).trans hx112_2
                                      replace hx112_3 := (HB.out.cell (World.block_lt_of_cell? w _ hx112_3)).trans hx112_3
                                      replace hx112_4 := (HB.out.cell (World.block_lt_of_cell? w _ hx112_4)).trans hx112_4
                                      have HR112_0 := Aside0.mk hi112_0
                                      have HC112_0 := Aside0.mk hl112_0
                                      clear hi112_0 hl112_0
                                      replace p112 := eq_true p112
                                      replace q112 := eq_true q112
                                      try go_wp2
                                      have n0_ := Aside0.mk (blk_drew BK106.out)
                                      have n1_ := Aside0.mk (blk_drew BK107.out)
                                      have n2_ := Aside0.mk (below_drew1 HB.out)
                                      clear BK106
                                      clear BK107
                                      clear HB
                                      have BK106 := n0_
                                      have BK107 := n1_
                                      have HB := n2_
                                      clear n0_ n1_ n2_
                                      have p113 : 0 ≤ (x5_2 : Int) := of_decide_eq_true (by first | (with_reducible assumption) | assumption)
                                      have q113 : x5_2 < (l0_1.length : Int) := of_decide_eq_true (by first | (with_reducible assumption) | assumption)
                                      obtain ⟨ad113, A113_0, c113_0, e113, hx113_0, hx113_1, hx113_2, hx113_3, hx113_4, hl113_0, hi113_0⟩ := at_T28 HR0_1.out x5_2 p113 q113
                                      have hw113_4 := hx113_4
                                      have hw113_3 := hx113_3
                                      have hw113_2 := hx113_2
                                      have hw113_1 := hx113_1
                                      have hw113_0 := hx113_0
                                      obtain rfl : ad112 = ad113 := (by injection e113)
                                      replace hx113_0 := (HB.out.cell (World.block_lt_of_cell? w _ hx113_0)).trans hx113_0
                                      replace hx113_1 := (HB.out.cell (World.block_lt_of_cell? w _ hx113_1)).trans hx113_1
                                      replace hx113_2 := (HB.out.cell (World.block_lt_of_cell? w _ hx113_2)).trans hx113_2
                                      replace hx113_3 := (HB.out.cell (World.block_lt_of_cell? w _ hx113_3)).trans hx113_3
                                      replace hx113_4 := (HB.out.cell (World.block_lt_of_cell? w _ hx113_4)).trans hx113_4
                                      have HR113_0 := Aside0.mk hi113_0
                                      have HC113_0 := Aside0.mk hl113_0
                                      clear hi113_0 hl113_0
                                      replace p113 := eq_true p113
                                      replace q113 := eq_true q113
                                      have p114 : 0 ≤ (x6_4 : Int) := of_decide_eq_true (by first | (with_reducible assumption) | assumption)
                                      have q114 : x6_4 < (((rd_T28 l0_1 x5_2).f0).length : Int) := of_decide_eq_true (by first | (with_reducible assumption) | assumption)
                                      obtain ⟨ad114, A114_5, c114_5, e114, hx114_0, hx114_1, hx114_2, hx114_3, hx114_4, hx114_5, hl114_5, hi114_5⟩ := at_T30 HR113_0.out x6_4 p114 q114
                                      have hw114_5 := hx114_5
                                      have hw114_4 := hx114_4
                                      have hw114_3 := hx114_3
                                      have hw114_2 := hx114_2
                                      have hw114_1 := hx114_1
                                      have hw114_0 := hx114_0
                                      cases e114
                                      replace hx114_0 := (HB.out.cell (World.block_lt_of_cell? w _ hx114_0)).trans hx114_0
                                      replace hx114_1 := (HB.out.cell (World.block_lt_of_cell? w _ hx114_1)).trans hx114_1
                                      replace hx114_2 := (HB.out.cell (World.block_lt_of_cell? w _ hx114_2)).trans hx114_2
                                      replace hx114_3 := (HB.out.cell (World.block_lt_of_cell? w _ hx114_3)).trans hx114_3
                                      replace hx114_4 := (HB.out.cell (World.block_lt_of_cell? w _ hx114_4)).trans hx114_4
                                      replace hx114_5 := (HB.out.cell (World.block_lt_of_cell? w _ hx114_5)).trans hx114_5
                                      have HR114_5 := Aside0.mk hi114_5
                                      have HC114_5 := Aside0.mk hl114_5
                                      clear hi114_5 hl114_5
                                      replace p114 := eq_true p114
                                      replace q114 := eq_true q114
                                      have p115 : 0 ≤ (x5_2 : Int) := of_decide_eq_true (by first | (with_reducible assumption) | assumption)
                                      have q115 : x5_2 < (l1_1.length : Int) := of_decide_eq_true (by first | (with_reducible assumption) | assumption)
                                      obtain ⟨ad115, A115_0, c115_0, e115, hx115_0, hx115_1, hx115_2, hx115_3, hx115_4, hl115_0, hi115_0⟩ := at_T28 HR1_1.out x5_2 p115 q115
                                      have hw115_4 := hx115_4
                                      have hw115_3 := hx115_3
                                      have hw115_2 := hx115_2
                                      have hw115_1 := hx115_1
                                      have hw115_0 := hx115_0
                                      cases e115
                                      replace hx115_0 := (HB.out.cell (World.block_lt_of_cell? w _ hx115_0)).trans hx115_0
                                      replace hx115_1 := (HB.out.cell (World.block_lt_of_cell? w _ hx115_1)).trans hx115_1
                                      replace hx115_2 := (HB.out.cell (World.block_lt_of_cell? w _ hx115_2)).trans hx115_2
                                      replace hx115_3 := (HB.out.cell (World.block_lt_of_cell? w _ hx115_3)).trans hx115_3
                                      replace hx115_4 := (HB.out.cell (World.block_lt_of_cell? w _ hx115_4)).trans hx115_4
                                      have HR115_0 := Aside0.mk hi115_0
                                      have HC115_0 := Aside0.mk hl115_0
                                      clear hi115_0 hl115_0
                                      replace p115 := eq_true p115
                                      replace q115 := eq_true q115
                                      have p116 : 0 ≤ (x6_4 : Int) := of_decide_eq_true (by first | (with_reducible assumption) | assumption)
                                      have q116 : x6_4 < (((rd_T28 l1_1 x5_2).f0).length : Int) := of_decide_eq_true (by first | (with_reducible assumption) | assumption)
                                      obtain ⟨ad116, A116_5, c116_5, e116, hx116_0, hx116_1, hx116_2, hx116_3, hx116_4, hx116_5, hl116_5, hi116_5⟩ := at_T30 HR115_0.out x6_4 p116 q116
                                      have hw116_5 := hx116_5
                                      have hw116_4 := hx116_4
                                      have hw116_3 := hx116_3
                                      have hw116_2 := hx116_2
                                      have hw116_1 := hx116_1
                                      have hw116_0 := hx116_0
                                      cases e116
                                      replace hx116_0 := (HB.out.cell (World.block_lt_of_cell? w _ hx116_0)).trans hx116_0
                                      replace hx116_1 := (HB.out.cell (World.block_lt_of_cell? w _ hx116_1)).trans hx116_1
                                      replace hx116_2 := (HB.out.cell (World.block_lt_of_cell? w _ hx116_2)).trans hx116_2
                                      replace hx116_3 := (HB.out.cell (World.block_lt_of_cell? w _ hx116_3)).trans hx116_3
                                      replace hx116_4 := (HB.out.cell (World.block_lt_of_cell? w _ hx116_4)).trans hx116_4
                                      replace hx116_5 := (HB.out.cell (World.block_lt_of_cell? w _ hx116_5)).trans hx116_5
                                      have HR116_5 := Aside0.mk hi116_5
                                      have HC116_5 := Aside0.mk hl116_5
                                      clear hi116_5 hl116_5
                                      replace p116 := eq_true p116
                                      replace q116 := eq_true q116
                                      refine start_ (n := 20) (S := fun w' => w'.cell? ⟨gb106, 0, none⟩ = some (.int .i64 a0_0) ∧ w'.cell? ⟨gb106, 1, none⟩ = some (.slice (some ad112) l0_1.length c0_1) ∧ w'.cell? ⟨gb107, 0, none⟩ = some (.int .i64 a1_0) ∧ w'.cell? ⟨gb107, 1, none⟩ = some (.slice (some ad115) l1_1.length c1_1) ∧ w'.cell? (ad112.add ((x5_2).toNat * 5)) = some (.slice (some ad114) ((rd_T28 l0_1 x5_2).f0).length c113_0) ∧ w'.cell? ⟨(ad112.add ((x5_2).toNat * 5)).block, (ad112.add ((x5_2).toNat * 5)).off + 1, none⟩ = some (.int .i64 ((rd_T28 l0_1 x5_2).f1.f0)) ∧ w'.cell? ⟨(ad112.add ((x5_2).toNat * 5)).block, (ad112.add ((x5_2).toNat * 5)).off + 2, none⟩ = some (.int .i64 ((rd_T28 l0_1 x5_2).f1.f1)) ∧ w'.cell? ⟨(ad112.add ((x5_2).toNat * 5)).block, (ad112.add ((x5_2).toNat * 5)).off + 3, none⟩ = some (.int .i64 ((rd_T28 l0_1 x5_2).f1.f2)) ∧ w'.cell? ⟨(ad112.add ((x5_2).toNat * 5)).block, (ad112.add ((x5_2).toNat * 5)).off + 4, none⟩ = some (.int .i64 ((rd_T28 l0_1 x5_2).f1.f3)) ∧ w'.cell? (ad114.add ((x6_4).toNat * 6)) = some (.int .i64 ((rd_T30 ((rd_T28 l0_1 x5_2).f0) x6_4).f0)) ∧ w'.cell? ⟨(ad114.add ((x6_4).toNat * 6)).block, (ad114.add ((x6_4).toNat * 6)).off + 1, none⟩ = some (.int .i64 ((rd_T30 ((rd_T28 l0_1 x5_2).f0) x6_4).f1)) ∧ w'.cell? ⟨(ad114.add ((x6_4).toNat * 6)).block, (ad114.add ((x6_4).toNat * 6)).off + 2, none⟩ = some (.int .i64 ((rd_T30 ((rd_T28 l0_1 x5_2).f0) x6_4).f2)) ∧ w'.cell? ⟨(ad114.add ((x6_4).toNat * 6)).block, (ad114.add ((x6_4).toNat * 6)).off + 3, none⟩ = some (.int .i64 ((rd_T30 ((rd_T28 l0_1 x5_2).f0) x6_4).f3)) ∧ w'.cell? ⟨(ad114.add ((x6_4).toNat * 6)).block, (ad114.add ((x6_4).toNat * 6)).off + 4, none⟩ = some (.int .i64 ((rd_T30 ((rd_T28 l0_1 x5_2).f0) x6_4).f4)) ∧ w'.cell? ⟨(ad114.add ((x6_4).toNat * 6)).block, (ad114.add ((x6_4).toNat * 6)).off + 5, none⟩ = some (.slice A114_5 ((rd_T30 ((rd_T28 l0_1 x5_2).f0) x6_4).f5).length c114_5) ∧ w'.cell? (ad115.add ((x5_2).toNat * 5)) = some (.slice (some ad116) ((rd_T28 l1_1 x5_2).f0).length c115_0) ∧ w'.cell? ⟨(ad115.add ((x5_2).toNat * 5)).block, (ad115.add ((x5_2).toNat * 5)).off + 1, none⟩ = some (.int .i64 ((rd_T28 l1_1 x5_2).f1.f0)) ∧ w'.cell? ⟨(ad115.add ((x5_2).toNat * 5)).block, (ad115.add ((x5_2).toNat * 5)).off + 2, none⟩ = some (.int .i64 ((rd_T28 l1_1 x5_2).f1.f1)) ∧ w'.cell? ⟨(ad115.add ((x5_2).toNat * 5)).block, (ad115.add ((x5_2).toNat * 5)).off + 3, none⟩ = some (.int .i64 ((rd_T28 l1_1 x5_2).f1.f2)) ∧ w'.cell? ⟨(ad115.add ((x5_2).toNat * 5)).block, (ad115.add ((x5_2).toNat * 5)).off + 4, none⟩ = some (.int .i64 ((rd_T28 l1_1 x5_2).f1.f3)) ∧ w'.cell? (ad116.add ((x6_4).toNat * 6)) = some (.int .i64 ((rd_T30 ((rd_T28 l1_1 x5_2).f0) x6_4).f0)) ∧ w'.cell? ⟨(ad116.add ((x6_4).toNat * 6)).block, (ad116.add ((x6_4).toNat * 6)).off + 1, none⟩ = some (.int .i64 ((rd_T30 ((rd_T28 l1_1 x5_2).f0) x6_4).f1)) ∧ w'.cell? ⟨(ad116.add ((x6_4).toNat * 6)).block, (ad116.add ((x6_4).toNat * 6)).off + 2, none⟩ = some (.int .i64 ((rd_T30 ((rd_T28 l1_1 x5_2).f0) x6_4).f2)) ∧ w'.cell? ⟨(ad116.add ((x6_4).toNat * 6)).block, (ad116.add ((x6_4).toNat * 6)).off + 3, none⟩ = some (.int .i64 ((rd_T30 ((rd_T28 l1_1 x5_2).f0) x6_4).f3)) ∧ w'.cell? ⟨(ad116.add ((x6_4).toNat * 6)).block, (ad116.add ((x6_4).toNat * 6)).off + 4, none⟩ = some (.int .i64 ((rd_T30 ((rd_T28 l1_1 x5_2).f0) x6_4).f4)) ∧ w'.cell? ⟨(ad116.add ((x6_4).toNat * 6)).block, (ad116.add ((x6_4).toNat * 6)).off + 5, none⟩ = some (.slice A116_5 ((rd_T30 ((rd_T28 l1_1 x5_2).f0) x6_4).f5).length c116_5)) (ds := []) #[false, false, false, false, false, false, false, false, false, false, false, false, false, false, false, false, false, false, false, false] (by kernel_rfl) rfl rfl ⟨(blk_cell BK106.out 0).trans rfl, (blk_cell BK106.out 1).trans rfl, (blk_cell BK107.out 0).trans rfl, (blk_cell BK107.out 1).trans rfl, ((HB.out.cell (World.block_lt_of_cell? w _ hw113_0)).trans hw113_0), ((HB.out.cell (World.block_lt_of_cell? w _ hw113_1)).trans hw113_1), ((HB.out.cell (World.block_lt_of_cell? w _ hw113_2)).trans hw113_2), ((HB.out.cell (World.block_lt_of_cell? w _ hw113_3)).trans hw113_3), ((HB.out.cell (World.block_lt_of_cell? w _ hw113_4)).trans hw113_4), ((HB.out.cell (World.block_lt_of_cell? w _ hw114_0)).trans hw114_0), ((HB.out.cell (World.block_lt_of_cell? w _ hw114_1)).trans hw114_1), ((HB.out.cell (World.block_lt_of_cell? w _ hw114_2)).trans hw114_2), ((HB.out.cell (World.block_lt_of_cell? w _ hw114_3)).trans hw114_3), ((HB.out.cell (World.block_lt_of_cell? w _ hw114_4)).trans hw114_4), ((HB.out.cell (World.block_lt_of_cell? w _ hw114_5)).trans hw114_5), ((HB.out.cell (World.block_lt_of_cell? w _ hw115_0)).trans hw115_0), ((HB.out.cell (World.block_lt_of_cell? w _ hw115_1)).trans hw115_1), ((HB.out.cell (World.block_lt_of_cell? w _ hw115_2)).trans hw115_2), ((HB.out.cell (World.block_lt_of_cell? w _ hw115_3)).trans hw115_3), ((HB.out.cell (World.block_lt_of_cell? w _ hw115_4)).trans hw115_4), ((HB.out.cell (World.block_lt_of_cell? w _ hw116_0)).trans hw116_0), ((HB.out.cell (World.block_lt_of_cell? w _ hw116_1)).trans hw116_1), ((HB.out.cell (World.block_lt_of_cell? w _ hw116_2)).trans hw116_2), ((HB.out.cell (World.block_lt_of_cell? w _ hw116_3)).trans hw116_3), ((HB.out.cell (World.block_lt_of_cell? w _ hw116_4)).trans hw116_4), ((HB.out.cell (World.block_lt_of_cell? w _ hw116_5)).trans hw116_5)⟩ (fun hHeld => ?_); refine with_tabW swageref14_Same.tab11 swageref14_Same.bits11 (fun HT_ HW_ => ?_)
                                      generalize wr.drew = w38 at BK106 BK107 HB HR113_0 HR114_5 HR115_0 HR116_5 hx113_0 hx113_1 hx113_2 hx113_3 hx113_4 hx114_0 hx114_1 hx114_2 hx114_3 hx114_4 hx114_5 hx115_0 hx115_1 hx115_2 hx115_3 hx115_4 hx116_0 hx116_1 hx116_2 hx116_3 hx116_4 hx116_5 hHeld ⊢
                                      refine pure_ (i := 0) (N := some 70) (v := ?_) (a' := ?_) #[true, false, false, false, false, false, false, false, false, false, false, false, false, false, false, false, false, false, false, false] rfl rfl (any_of HT_.out (by kernel_rfl)) (fun _ _ _ h => h) (Or.inl ⟨by rfl, ?_⟩) ?_ ?_
                                      rotate_left
                                      · intro w'
                                        go_simp
                                        with_reducible rfl
                                      rotate_left
                                      · simp only [Act.put, List.setIfInBounds_toArray, List.set_cons_zero, List.set_cons_succ, i64_w, i32_w]
                                        rfl
                                      refine pure_ (i := 2) (N := some 72) (v := ?_) (a' := ?_) #[true, false, true, false, false, false, false, false, false, false, false, false, false, false, false, false, false, false, false, false] rfl rfl (any_of HT_.out (by kernel_rfl)) (fun _ _ _ h => h) (Or.inl ⟨by rfl, ?_⟩) ?_ ?_
                                      rotate_left
                                      · intro w'
                                        go_simp
                                        with_reducible rfl
                                      rotate_left
                                      · simp only [Act.put, List.setIfInBounds_toArray, List.set_cons_zero, List.set_cons_succ, i64_w, i32_w]
                                        rfl
                                      refine pure_ (i := 6) (N := some 76) (v := ?_) (a' := ?_) #[true, false, true, false, false, false, true, false, false, false, false, false, false, false, false, false, false, false, false, false] rfl rfl (any_of HT_.out (by kernel_rfl)) (fun _ _ _ h => h) (Or.inl ⟨by rfl, ?_⟩) ?_ ?_
                                      rotate_left
                                      · intro w'
                                        go_simp
                                        with_reducible rfl
                                      rotate_left
                                      · simp only [Act.put, List.setIfInBounds_toArray, List.set_cons_zero, List.set_cons_succ, i64_w, i32_w]
                                        rfl
                                      refine pure_ (i := 9) (N := some 79) (v := ?_) (a' := ?_) #[true, false, true, false, false, false, true, false, false, true, false, false, false, false, false, false, false, false, false, false] rfl rfl (any_of HT_.out (by kernel_rfl)) (fun _ _ _ h => h) (Or.inl ⟨by rfl, ?_⟩) ?_ ?_
                                      rotate_left
                                      · intro w'
                                        go_simp
                                        with_reducible rfl
                                      rotate_left
                                      · simp only [Act.put, List.setIfInBounds_toArray, List.set_cons_zero, List.set_cons_succ, i64_w, i32_w]
                                        rfl
                                      refine pure_ (i := 11) (N := some 81) (v := ?_) (a' := ?_) #[true, false, true, false, false, false, true, false, false, true, false, true, false, false, false, false, false, false, false, false] rfl rfl (any_of HT_.out (by kernel_rfl)) (fun _ _ _ h => h) (Or.inl ⟨by rfl, ?_⟩) ?_ ?_
                                      rotate_left
                                      · intro w'
                                        go_simp
                                        with_reducible rfl
                                      rotate_left
                                      · simp only [Act.put, List.setIfInBounds_toArray, List.set_cons_zero, List.set_cons_succ, i64_w, i32_w]
                                        rfl
                                      refine pure_ (i := 15) (N := some 85) (v := ?_) (a' := ?_) #[true, false, true, false, false, false, true, false, false, true, false, true, false, false, false, true, false, false, false, false] rfl rfl (any_of HT_.out (by kernel_rfl)) (fun _ _ _ h => h) (Or.inl ⟨by rfl, ?_⟩) ?_ ?_
                                      rotate_left
                                      · intro w'
                                        go_simp
                                        with_reducible rfl
                                      rotate_left
                                      · simp only [Act.put, List.setIfInBounds_toArray, List.set_cons_zero, List.set_cons_succ, i64_w, i32_w]
                                        rfl
                                      refine take_ (i := 1) (N := some 71) (v := ?_) (a' := ?_) #[true, true, true, false, false, false, true, false, false, true, false, true, false, false, false, true, false, false, false, false] rfl rfl (take_ofW HT_.out HW_.out (by kernel_rfl)) (fun _ _ _ h => h) (Or.inl ⟨by rfl, ?_⟩) hHeld ?_ ?_
                                      rotate_left
                                      · rintro w' ⟨s0, s1, s2, s3, s4, s5, s6, s7, s8, s9, s10, s11, s12, s13, s14, s15, s16, s17, s18, s19, s20, s21, s22, s23, s24, s25⟩
                                        go_simp
                                        with_reducible rfl
                                      rotate_left
                                      · simp only [Act.put, List.setIfInBounds_toArray, List.set_cons_zero, List.set_cons_succ, i64_w, i32_w]
                                        rfl
                                      refine pure_ (i := 3) (N := some 73) (v := ?_) (a' := ?_) #[true, true, true, true, false, false, true, false, false, true, false, true, false, false, false, true, false, false, false, false] rfl rfl (any_of HT_.out (by kernel_rfl)) (fun _ _ _ h => h) (Or.inl ⟨by rfl, ?_⟩) ?_ ?_
                                      rotate_left
                                      · intro w'
                                        go_simp
                                        with_reducible rfl
                                      rotate_left
                                      · simp only [Act.put, List.setIfInBounds_toArray, List.set_cons_zero, List.set_cons_succ, i64_w, i32_w]
                                        rfl
                                      refine pure_ (i := 4) (N := some 74) (v := ?_) (a' := ?_) #[true, true, true, true, true, false, true, false, false, true, false, true, false, false, false, true, false, false, false, false] rfl rfl (any_of HT_.out (by kernel_rfl)) (fun _ _ _ h => h) (Or.inl ⟨by rfl, ?_⟩) ?_ ?_
                                      rotate_left
                                      · intro w'
                                        go_simp
                                        with_reducible rfl
                                      rotate_left
                                      · simp only [Act.put, List.setIfInBounds_toArray, List.set_cons_zero, List.set_cons_succ, i64_w, i32_w]
                                        rfl
                                      refine take_ (i := 5) (N := some 75) (v := ?_) (a' := ?_) #[true, true, true, true, true, true, true, false, false, true, false, true, false, false, false, true, false, false, false, false] rfl rfl (take_ofW HT_.out HW_.out (by kernel_rfl)) (fun _ _ _ h => h) (Or.inl ⟨by rfl, ?_⟩) hHeld ?_ ?_
                                      rotate_left
                                      · rintro w' ⟨s0, s1, s2, s3, s4, s5, s6, s7, s8, s9, s10, s11, s12, s13, s14, s15, s16, s17, s18, s19, s20, s21, s22, s23, s24, s25⟩
                                        go_simp
                                        with_reducible rfl
                                      rotate_left
                                      · simp only [Act.put, List.setIfInBounds_toArray, List.set_cons_zero, List.set_cons_succ, i64_w, i32_w]
                                        rfl
                                      refine pure_ (i := 7) (N := some 77) (v := ?_) (a' := ?_) #[true, true, true, true, true, true, true, true, false, true, false, true, false, false, false, true, false, false, false, false] rfl rfl (any_of HT_.out (by kernel_rfl)) (fun _ _ _ h => h) (Or.inl ⟨by rfl, ?_⟩) ?_ ?_
                                      rotate_left
                                      · intro w'
                                        go_simp
                                        with_reducible rfl
                                      rotate_left
                                      · simp only [Act.put, List.setIfInBounds_toArray, List.set_cons_zero, List.set_cons_succ, i64_w, i32_w]
                                        rfl
                                      refine take_ (i := 8) (N := some 78) (v := ?_) (a' := ?_) #[true, true, true, true, true, true, true, true, true, true, false, true, false, false, false, true, false, false, false, false] rfl rfl (take_ofW HT_.out HW_.out (by kernel_rfl)) (fun _ _ _ h => h) (Or.inl ⟨by rfl, ?_⟩) hHeld ?_ ?_
                                      rotate_left
                                      · rintro w' ⟨s0, s1, s2, s3, s4, s5, s6, s7, s8, s9, s10, s11, s12, s13, s14, s15, s16, s17, s18, s19, s20, s21, s22, s23, s24, s25⟩
                                        go_simp
                                        with_reducible rfl
                                      rotate_left
                                      · simp only [Act.put, List.setIfInBounds_toArray, List.set_cons_zero, List.set_cons_succ, i64_w, i32_w]
                                        rfl
                                      refine take_ (i := 10) (N := some 80) (v := ?_) (a' := ?_) #[true, true, true, true, true, true, true, true, true, true, true, true, false, false, false, true, false, false, false, false] rfl rfl (take_ofW HT_.out HW_.out (by kernel_rfl)) (fun _ _ _ h => h) (Or.inl ⟨by rfl, ?_⟩) hHeld ?_ ?_
                                      rotate_left
                                      · rintro w' ⟨s0, s1, s2, s3, s4, s5, s6, s7, s8, s9, s10, s11, s12, s13, s14, s15, s16, s17, s18, s19, s20, s21, s22, s23, s24, s25⟩
                                        go_simp
                                        with_reducible rfl
                                      rotate_left
                                      · simp only [Act.put, List.setIfInBounds_toArray, List.set_cons_zero, List.set_cons_succ, i64_w, i32_w]
                                        rfl
                                      refine pure_ (i := 12) (N := some 82) (v := ?_) (a' := ?_) #[true, true, true, true, true, true, true, true, true, true, true, true, true, false, false, true, false, false, false, false] rfl rfl (any_of HT_.out (by kernel_rfl)) (fun _ _ _ h => h) (Or.inl ⟨by rfl, ?_⟩) ?_ ?_
                                      rotate_left
                                      · intro w'
                                        go_simp
                                        with_reducible rfl
                                      rotate_left
                                      · simp only [Act.put, List.setIfInBounds_toArray, List.set_cons_zero, List.set_cons_succ, i64_w, i32_w]
                                        rfl
                                      refine pure_ (i := 13) (N := some 83) (v := ?_) (a' := ?_) #[true, true, true, true, true, true, true, true, true, true, true, true, true, true, false, true, false, false, false, false] rfl rfl (any_of HT_.out (by kernel_rfl)) (fun _ _ _ h => h) (Or.inl ⟨by rfl, ?_⟩) ?_ ?_
                                      rotate_left
                                      · intro w'
                                        go_simp
                                        with_reducible rfl
                                      rotate_left
                                      · simp only [Act.put, List.setIfInBounds_toArray, List.set_cons_zero, List.set_cons_succ, i64_w, i32_w]
                                        rfl
                                      refine take_ (i := 14) (N := some 84) (v := ?_) (a' := ?_) #[true, true, true, true, true, true, true, true, true, true, true, true, true, true, true, true, false, false, false, false] rfl rfl (take_ofW HT_.out HW_.out (by kernel_rfl)) (fun _ _ _ h => h) (Or.inl ⟨by rfl, ?_⟩) hHeld ?_ ?_
                                      rotate_left
                                      · rintro w' ⟨s0, s1, s2, s3, s4, s5, s6, s7, s8, s9, s10, s11, s12, s13, s14, s15, s16, s17, s18, s19, s20, s21, s22, s23, s24, s25⟩
                                        go_simp
                                        with_reducible rfl
                                      rotate_left
                                      · simp only [Act.put, List.setIfInBounds_toArray, List.set_cons_zero, List.set_cons_succ, i64_w, i32_w]
                                        rfl
                                      refine pure_ (i := 16) (N := some 86) (v := ?_) (a' := ?_) #[true, true, true, true, true, true, true, true, true, true, true, true, true, true, true, true, true, false, false, false] rfl rfl (any_of HT_.out (by kernel_rfl)) (fun _ _ _ h => h) (Or.inl ⟨by rfl, ?_⟩) ?_ ?_
                                      rotate_left
                                      · intro w'
                                        go_simp
                                        with_reducible rfl
                                      rotate_left
                                      · simp only [Act.put, List.setIfInBounds_toArray, List.set_cons_zero, List.set_cons_succ, i64_w, i32_w]
                                        rfl
                                      refine take_ (i := 17) (N := some 87) (v := ?_) (a' := ?_) #[true, true, true, true, true, true, true, true, true, true, true, true, true, true, true, true, true, true, false, false] rfl rfl (take_ofW HT_.out HW_.out (by kernel_rfl)) (fun _ _ _ h => h) (Or.inl ⟨by rfl, ?_⟩) hHeld ?_ ?_
                                      rotate_left
                                      · rintro w' ⟨s0, s1, s2, s3, s4, s5, s6, s7, s8, s9, s10, s11, s12, s13, s14, s15, s16, s17, s18, s19, s20, s21, s22, s23, s24, s25⟩
                                        go_simp
                                        with_reducible rfl
                                      rotate_left
                                      · simp only [Act.put, List.setIfInBounds_toArray, List.set_cons_zero, List.set_cons_succ, i64_w, i32_w]
                                        rfl
                                      refine one_ (i := 18) (N := some 88) #[true, true, true, true, true, true, true, true, true, true, true, true, true, true, true, true, true, true, true, false] rfl rfl (one_of HT_.out (by kernel_rfl)) (by decide) (fun K hK => ?_)
                                      refine goes_ Try.func21 (by kernel_rfl) rfl #[.agg #[.int .i64 ((rd_T30 ((rd_T28 l0_1 x5_2).f0) x6_4).f0), .int .i64 ((rd_T30 ((rd_T28 l0_1 x5_2).f0) x6_4).f1), .int .i64 ((rd_T30 ((rd_T28 l0_1 x5_2).f0) x6_4).f2), .int .i64 ((rd_T30 ((rd_T28 l0_1 x5_2).f0) x6_4).f3), .int .i64 ((rd_T30 ((rd_T28 l0_1 x5_2).f0) x6_4).f4), .slice A114_5 ((rd_T30 ((rd_T28 l0_1 x5_2).f0) x6_4).f5).length c114_5], .agg #[.int .i64 ((rd_T30 ((rd_T28 l1_1 x5_2).f0) x6_4).f0), .int .i64 ((rd_T30 ((rd_T28 l1_1 x5_2).f0) x6_4).f1), .int .i64 ((rd_T30 ((rd_T28 l1_1 x5_2).f0) x6_4).f2), .int .i64 ((rd_T30 ((rd_T28 l1_1 x5_2).f0) x6_4).f3), .int .i64 ((rd_T30 ((rd_T28 l1_1 x5_2).f0) x6_4).f4), .slice A116_5 ((rd_T30 ((rd_T28 l1_1 x5_2).f0) x6_4).f5).length c116_5]] (by rfl) rfl rfl (by (try simp only [List.map_toArray, List.map_cons, List.map_nil]); first | done | rfl | (simp only [List.length_drop, List.length_take]; rfl)) ?_
                                      with_reducible refine (swageref14_SameOp.calls k4 ((rd_T30 ((rd_T28 l0_1 x5_2).f0) x6_4).f0) ((rd_T30 ((rd_T28 l0_1 x5_2).f0) x6_4).f1) ((rd_T30 ((rd_T28 l0_1 x5_2).f0) x6_4).f2) ((rd_T30 ((rd_T28 l0_1 x5_2).f0) x6_4).f3) ((rd_T30 ((rd_T28 l0_1 x5_2).f0) x6_4).f4) _ _ ((rd_T30 ((rd_T28 l0_1 x5_2).f0) x6_4).f5) ((rd_T30 ((rd_T28 l1_1 x5_2).f0) x6_4).f0) ((rd_T30 ((rd_T28 l1_1 x5_2).f0) x6_4).f1) ((rd_T30 ((rd_T28 l1_1 x5_2).f0) x6_4).f2) ((rd_T30 ((rd_T28 l1_1 x5_2).f0) x6_4).f3) ((rd_T30 ((rd_T28 l1_1 x5_2).f0) x6_4).f4) _ _ ((rd_T30 ((rd_T28 l1_1 x5_2).f0) x6_4).f5) false _ ?side1 ?side2 ?side3 ?side4 A30.out).mono ?_
                                      (case side1 => repeat (first | exact (Kd.C_below HR114_5.out HB.out) | (with_reducible refine Kd.C_alloc ?_ _) | (with_reducible refine Kd.C_drewN ?_ _) | (with_reducible refine Kd.C_drew ?_)))
                                      (case side2 => exact HC114_5.out)
                                      (case side3 => repeat (first | exact (Kd.C_below HR116_5.out HB.out) | (with_reducible refine Kd.C_alloc ?_ _) | (with_reducible refine Kd.C_drewN ?_ _) | (with_reducible refine Kd.C_drew ?_)))
                                      (case side4 => exact HC116_5.out)
                                      rintro e w39 ⟨rfl, hb⟩
                                      refine ⟨_, rfl, ?_⟩
                                      have n0_ := Aside0.mk (blk_below (g := gb106) (o := .cells #[.int .i64 a0_0, .slice (some ad112) l0_1.length c0_1] 36 (0, 0)) (by (with_reducible repeat (first | refine blk_drewN ?_ _ | refine blk_drew ?_ | refine blk_alloc ?_ _)); exact BK106.out) hb)
                                      have n1_ := Aside0.mk (blk_below (g := gb107) (o := .cells #[.int .i64 a1_0, .slice (some ad115) l1_1.length c1_1] 36 (0, 0)) (by (with_reducible repeat (first | refine blk_drewN ?_ _ | refine blk_drew ?_ | refine blk_alloc ?_ _)); exact BK107.out) hb)
                                      have n2_ := Aside0.mk (below_step (by repeat (first | (with_reducible first | exact HB.out | apply below_alloc | apply pw_below_drewN | apply below_drew1 | refine below_set ?_ GE106.out | refine below_set ?_ GE107.out) | exact HB.out)) hb)
                                      clear BK106
                                      clear BK107
                                      clear HB
                                      have BK106 := n0_
                                      have BK107 := n1_
                                      have HB := n2_
                                      clear n0_ n1_ n2_
                                      (try clear hb)
                                      (try clear hb2)
                                      (try clear hk)
                                      (try clear hi)
                                      refine hK.out _ _ ⟨(blk_cell BK106.out 0).trans rfl, (blk_cell BK106.out 1).trans rfl, (blk_cell BK107.out 0).trans rfl, (blk_cell BK107.out 1).trans rfl, ((HB.out.cell (World.block_lt_of_cell? w _ hw113_0)).trans hw113_0), ((HB.out.cell (World.block_lt_of_cell? w _ hw113_1)).trans hw113_1), ((HB.out.cell (World.block_lt_of_cell? w _ hw113_2)).trans hw113_2), ((HB.out.cell (World.block_lt_of_cell? w _ hw113_3)).trans hw113_3), ((HB.out.cell (World.block_lt_of_cell? w _ hw113_4)).trans hw113_4), ((HB.out.cell (World.block_lt_of_cell? w _ hw114_0)).trans hw114_0), ((HB.out.cell (World.block_lt_of_cell? w _ hw114_1)).trans hw114_1), ((HB.out.cell (World.block_lt_of_cell? w _ hw114_2)).trans hw114_2), ((HB.out.cell (World.block_lt_of_cell? w _ hw114_3)).trans hw114_3), ((HB.out.cell (World.block_lt_of_cell? w _ hw114_4)).trans hw114_4), ((HB.out.cell (World.block_lt_of_cell? w _ hw114_5)).trans hw114_5), ((HB.out.cell (World.block_lt_of_cell? w _ hw115_0)).trans hw115_0), ((HB.out.cell (World.block_lt_of_cell? w _ hw115_1)).trans hw115_1), ((HB.out.cell (World.block_lt_of_cell? w _ hw115_2)).trans hw115_2), ((HB.out.cell (World.block_lt_of_cell? w _ hw115_3)).trans hw115_3), ((HB.out.cell (World.block_lt_of_cell? w _ hw115_4)).trans hw115_4), ((HB.out.cell (World.block_lt_of_cell? w _ hw116_0)).trans hw116_0), ((HB.out.cell (World.block_lt_of_cell? w _ hw116_1)).trans hw116_1), ((HB.out.cell (World.block_lt_of_cell? w _ hw116_2)).trans hw116_2), ((HB.out.cell (World.block_lt_of_cell? w _ hw116_3)).trans hw116_3), ((HB.out.cell (World.block_lt_of_cell? w _ hw116_4)).trans hw116_4), ((HB.out.cell (World.block_lt_of_cell? w _ hw116_5)).trans hw116_5)⟩ (fun hHeld => ?_)
                                      clear hK K
                                      refine norm_ (a' := ?_) ?_ ?_
                                      rotate_left
                                      · show Act.put _ (some 88) _ = _
                                        simp only [Act.put, List.setIfInBounds_toArray, List.set_cons_zero, List.set_cons_succ, i64_w, i32_w]
                                        rfl
                                      refine pure_ (i := 19) (N := some 7) (v := ?_) (a' := ?_) #[true, true, true, true, true, true, true, true, true, true, true, true, true, true, true, true, true, true, true, true] rfl rfl (any_of HT_.out (by kernel_rfl)) (fun _ _ _ h => h) (Or.inl ⟨by rfl, ?_⟩) ?_ ?_
                                      rotate_left
                                      · intro w'
                                        go_simp
                                        with_reducible rfl
                                      rotate_left
                                      · simp only [Act.put, List.setIfInBounds_toArray, List.set_cons_zero, List.set_cons_succ, i64_w, i32_w]
                                        rfl
                                      refine done_ (done_of HT_.out (by kernel_rfl)) ?_
                                      try go_wp2
                                      go_ret
                                      exact ⟨by first | rfl | (simp [errW_none, errW_some] <;> rfl) | (simp [*, errW_none, errW_some] <;> rfl), by repeat (first | (with_reducible first | exact HB.out | apply below_alloc | apply pw_below_drewN | apply below_drew1 | refine below_set ?_ GE106.out | refine below_set ?_ GE107.out) | exact HB.out)⟩
                                  · rw [if_neg c29] at H
                                    exact absurd H (by simp)
                                · rw [if_neg c28] at H
                                  exact absurd H (by simp)
                              · rw [if_neg c27] at H
                                exact absurd H (by simp)
                            · rw [if_neg c26] at H
                              have c26b0 : decide (x6_4 < (((rd_T28 l0_1 x5_2).f0).length : Int)) = false := decide_eq_false c26
                              clear c26
                              have H' := Aside0.mk H
                              clear H
                              have hnb40 := NB106_107.out
                              have hnc40 := NB107_106.out
                              have hcz41_0 : wr.cell? ⟨gb106, 0, none⟩ = some (.int .i64 a0_0) := (blk_cell BK106.out 0).trans rfl
                              have hcz41_1 : wr.cell? ⟨gb106, 1, none⟩ = some (.slice A0_1 l0_1.length c0_1) := (blk_cell BK106.out 1).trans rfl
                              have hfz41_0 := blk_frozen BK106.out 0
                              have hfz41_1 := blk_frozen BK106.out 1
                              have p112 : 0 ≤ (x5_2 : Int) := of_decide_eq_true (by first | (with_reducible assumption) | assumption)
                              have q112 : x5_2 < (l0_1.length : Int) := of_decide_eq_true (by first | (with_reducible assumption) | assumption)
                              obtain ⟨ad112, A112_0, c112_0, e112, hx112_0, hx112_1, hx112_2, hx112_3, hx112_4, hl112_0, hi112_0⟩ := at_T28 HR0_1.out x5_2 p112 q112
                              cases e112
                              replace hx112_0 := (HB.out.cell (World.block_lt_of_cell? w _ hx112_0)).trans hx112_0
                              replace hx112_1 := (HB.out.cell (World.block_lt_of_cell? w _ hx112_1)).trans hx112_1
                              replace hx112_2 := (HB.out.cell (World.block_lt_of_cell? w _ hx112_2)).trans hx112_2
                              replace hx112_3 := (HB.out.cell (World.block_lt_of_cell? w _ hx112_3)).trans hx112_3
                              replace hx112_4 := (HB.out.cell (World.block_lt_of_cell? w _ hx112_4)).trans hx112_4
                              have HR112_0 := Aside0.mk hi112_0
                              have HC112_0 := Aside0.mk hl112_0
                              clear hi112_0 hl112_0
                              replace p112 := eq_true p112
                              replace q112 := eq_true q112
                              go_wp2
                              go_roundg k4
                              case measure => have := HJ2.out; have := HK2.out; have := HJ14.out; have := HK4.out; omega
                              case rel => exact ⟨(wrap64 (x5_2 + 1)), (by first | rfl | (simp; done) | (simp [*]; done)), H', ⟨by have := HJ2.out; have := HK2.out; have := HJ14.out; have := HK4.out; omega⟩, ⟨by (with_reducible repeat (first | refine blk_drewN ?_ _ | refine blk_drew ?_ | refine blk_alloc ?_ _)); exact BK106.out⟩, ⟨by (with_reducible repeat (first | refine blk_drewN ?_ _ | refine blk_drew ?_ | refine blk_alloc ?_ _)); exact BK107.out⟩, ⟨by repeat (first | (with_reducible first | exact HB.out | apply below_alloc | apply pw_below_drewN | apply below_drew1 | refine below_set ?_ GE106.out | refine below_set ?_ GE107.out) | exact HB.out)⟩⟩
                          · rw [if_neg c25] at H
                            exact absurd H (by simp)
                        · rw [if_neg c24] at H
                          exact absurd H (by simp)
            · rw [if_neg c14] at H
              have c14b0 : decide (x5_2 < (l0_1.length : Int)) = false := decide_eq_false c14
              clear c14
              obtain rfl := Option.some.inj H
              have hnb42 := NB106_107.out
              have hnc42 := NB107_106.out
              have hcz43_0 : wr.cell? ⟨gb106, 0, none⟩ = some (.int .i64 a0_0) := (blk_cell BK106.out 0).trans rfl
              have hcz43_1 : wr.cell? ⟨gb106, 1, none⟩ = some (.slice A0_1 l0_1.length c0_1) := (blk_cell BK106.out 1).trans rfl
              have hfz43_0 := blk_frozen BK106.out 0
              have hfz43_1 := blk_frozen BK106.out 1
              go_wp2
              go_ret
              exact ⟨by first | rfl | (simp [errW_none, errW_some] <;> rfl) | (simp [*, errW_none, errW_some] <;> rfl), by repeat (first | (with_reducible first | exact HB.out | apply below_alloc | apply pw_below_drewN | apply below_drew1 | refine below_set ?_ GE106.out | refine below_set ?_ GE107.out) | exact HB.out)⟩

end Go.Proofs.Ytmacdhkfgoahcaa.Q
