-- Written by a program of this work (wip/tools/mp.py), not by print.sh.
import Derived.Test.YtpjoajoacakpgaaQx0
import Derived.Test.YtpjoajoacakpgaaQx1
import Derived.Test.YtpjoajoacakpgaaQx2
import Derived.Test.YtpjoajoacakpgaaGivenQ
namespace Go.Proofs.Ytpjoajoacakpgaa.Q
open Go.RowKit Go.Proofs.YtpjoajoacakpgaaW.PrintWords Go.Proofs.YtpjoajoacakpgaaW.PrintLast Go.Proofs.YtpjoajoacakpgaaW.PrintMore
attribute [local go_sem] max2_int min2_int max_two min_two max_three min_three max_four min_four   -- for this text's walks alone
set_option linter.unusedVariables false
set_option linter.unusedSimpArgs false

attribute [local go_sem high] eqA30
/-! ### swagelaw09_TokenNumbers: function 8 -/
mutual
def swagelaw09_TokenNumbers.l0 : Nat → Int → Bool → ByteArray → Int → Option (Bool)
  | 0, _, _, _, _ => none
  | k + 1, x0, x3, x4, x5 => if x5 > 0 then ((some (([(wrap64 (48 + (Int.tmod x5 10))) % 256] : List Int) : List Int)).bind fun y247 => (if (strOfNums y247).size + x4.size ≤ 9223372036854775807 then (swagelaw09_TokenNumbers.l0 k x0 x3 ((strOfNums y247) ++ x4) (wrap64 (Int.tdiv x5 10))) else (none))) else (if x0 = 0 then (swagelaw09_TokenNumbers.j1 k x0 x3 (⟨#[48]⟩ : ByteArray)) else (swagelaw09_TokenNumbers.j1 k x0 x3 x4))
def swagelaw09_TokenNumbers.j1 : Nat → Int → Bool → ByteArray → Option (Bool)
  | 0, _, _, _ => none
  | k + 1, x0, x3, x4 => (token_Number.f x4).bind fun bt250 => ((token_Lex.f x4).bind fun bt252 => (if 1 + x4.size ≤ 9223372036854775807 then ((token_Number.f ((⟨#[48]⟩ : ByteArray) ++ x4)).bind fun bt257 => (if x4.size + 1 ≤ 9223372036854775807 then ((token_Lex.f (x4 ++ (⟨#[97]⟩ : ByteArray))).bind fun bt259 => (if x3 = true then (if bt250.2 = true then (if bt250.1 = x0 then (if bt257.2 = true then (some false) else (if bt252.2.2 = 0 then (if bt252.2.1 = (x4.size : Int) then (if (bt252.1.length : Int) = 1 then (if 0 < (bt252.1.length : Int) then (if (((rd_T30 bt252.1 0).f0) == 2 && ((((rd_T30 bt252.1 0).f1).toList) == x4.toList && (((rd_T30 bt252.1 0).f2) == 0))) = true then (if bt259.2.1 = 0 then (some (bt259.2.2 == 2)) else (some false)) else (some false)) else (none)) else (some false)) else (some false)) else (some false))) else (some false)) else (some false)) else (some false))) else (none))) else (none)))
end
def swagelaw09_TokenNumbers.f (k : Nat) (a0 : Int) : Option (Bool) := (swagelaw09_small.f k).bind fun t246 => (if a0 < 0 then (some t246) else (swagelaw09_TokenNumbers.l0 k a0 t246 (⟨#[]⟩ : ByteArray) a0))
theorem swagelaw09_TokenNumbers.mono_l : ∀ k, (∀ y0 y1 y2 y3, LeO (swagelaw09_TokenNumbers.l0 k y0 y1 y2 y3) (swagelaw09_TokenNumbers.l0 (k + 1) y0 y1 y2 y3)) ∧ (∀ y0 y1 y2, LeO (swagelaw09_TokenNumbers.j1 k y0 y1 y2) (swagelaw09_TokenNumbers.j1 (k + 1) y0 y1 y2))
  | 0 => ⟨fun _ _ _ _ r h => by simp [swagelaw09_TokenNumbers.l0] at h, fun _ _ _ r h => by simp [swagelaw09_TokenNumbers.j1] at h⟩
  | k + 1 => by
    obtain ⟨ih0, ih1⟩ := swagelaw09_TokenNumbers.mono_l k
    refine ⟨?_, ?_⟩
    · intro y0 y1 y2 y3
      unfold swagelaw09_TokenNumbers.l0
      repeat' first
      | (with_reducible exact ih0 _ _ _ _)
      | (with_reducible exact ih1 _ _ _)
      | (with_reducible exact swagelaw09_small.mono _)
      | (with_reducible exact LeO.refl _)
      | (with_reducible exact LeO.none _)
      | (with_reducible refine LeO.ite ?_ ?_)
      | (with_reducible refine LeO.bind ?_ (fun _ => ?_))
      | exact ih0 _ _ _ _
      | exact ih1 _ _ _
      | exact swagelaw09_small.mono _
      | exact LeO.none _
      | refine LeO.ite ?_ ?_
      | refine LeO.bind ?_ (fun _ => ?_)
    · intro y0 y1 y2
      unfold swagelaw09_TokenNumbers.j1
      repeat' first
      | (with_reducible exact ih0 _ _ _ _)
      | (with_reducible exact ih1 _ _ _)
      | (with_reducible exact swagelaw09_small.mono _)
      | (with_reducible exact LeO.refl _)
      | (with_reducible exact LeO.none _)
      | (with_reducible refine LeO.ite ?_ ?_)
      | (with_reducible refine LeO.bind ?_ (fun _ => ?_))
      | exact ih0 _ _ _ _
      | exact ih1 _ _ _
      | exact swagelaw09_small.mono _
      | exact LeO.none _
      | refine LeO.ite ?_ ?_
      | refine LeO.bind ?_ (fun _ => ?_)
theorem swagelaw09_TokenNumbers.mono : ∀ a0 k, LeO (swagelaw09_TokenNumbers.f k a0) (swagelaw09_TokenNumbers.f (k + 1) a0) := by
  intro a0 k
  obtain ⟨ih0, ih1⟩ := swagelaw09_TokenNumbers.mono_l k
  unfold swagelaw09_TokenNumbers.f
  repeat' first
      | (with_reducible exact ih0 _ _ _ _)
      | (with_reducible exact ih1 _ _ _)
      | (with_reducible exact swagelaw09_small.mono _)
      | (with_reducible exact LeO.refl _)
      | (with_reducible exact LeO.none _)
      | (with_reducible refine LeO.ite ?_ ?_)
      | (with_reducible refine LeO.bind ?_ (fun _ => ?_))
      | exact ih0 _ _ _ _
      | exact ih1 _ _ _
      | exact swagelaw09_small.mono _
      | exact LeO.none _
      | refine LeO.ite ?_ ?_
      | refine LeO.bind ?_ (fun _ => ?_)
set_option maxHeartbeats 8000000 in
set_option maxRecDepth 100000 in
theorem swagelaw09_TokenNumbers.calls (k : Nat) (a0 : Int) (r : Bool) (w : World) (h : swagelaw09_TokenNumbers.f k a0 = some r) :
    Calls Try.prog 8 #[.int .i64 a0] w fun e w' => e = .returned (.bool r) ∧ Below w.heap.size w w' := by
  have hu30 := Try.underlying30
  have HB := Aside0.mk (Below.refl w.heap.size w)
  have H : ((swagelaw09_small.f k).bind fun t246 => (if a0 < 0 then (some t246) else (swagelaw09_TokenNumbers.l0 k a0 t246 (⟨#[]⟩ : ByteArray) a0))) = some r := h
  clear h
  replace H := Option.bind_eq_some_iff.mp H
  obtain ⟨t246, A20, H⟩ := H
  replace H : (if a0 < 0 then (some t246) else (swagelaw09_TokenNumbers.l0 k a0 t246 (⟨#[]⟩ : ByteArray) a0)) = some r := H
  have A2 := Aside0.mk A20
  clear A20
  by_cases c3 : a0 < 0
  · rw [if_pos c3] at H
    have c3b0 : decide (a0 < 0) = true := decide_eq_true c3
    clear c3
    obtain rfl := Option.some.inj H
    go_enter Try.func8, Try.ntmps8
    go_wp2_with (first | ((with_reducible refine gate_callee (f := 9) rfl ?_); refine goesL_ (some 16) rfl rfl Try.func9 (by kernel_rfl) rfl #[] rfl (by (try simp only [List.map_toArray, List.map_cons, List.map_nil]); first | done | rfl | (simp only [List.length_drop, List.length_take]; rfl)) ?_; (with_reducible refine (swagelaw09_small.calls k  t246 _ A2.out).mono ?_); rintro e w4 ⟨rfl, hb⟩; refine ⟨_, rfl, ?_⟩; have n0_ := Aside0.mk (below_step (by repeat (first | (with_reducible first | exact HB.out | apply below_alloc | apply pw_below_drewN | apply below_drew1) | exact HB.out)) hb); clear HB; have HB := n0_; clear n0_; (try clear hb); (try clear hb2); (try clear hk); (try clear hi)))
    go_ret
    exact ⟨by first | rfl | (simp [errW_none, errW_some] <;> rfl) | (simp [*, errW_none, errW_some] <;> rfl), by repeat (first | (with_reducible first | exact HB.out | apply below_alloc | apply pw_below_drewN | apply below_drew1) | exact HB.out)⟩
  · rw [if_neg c3] at H
    have c3b0 : decide (a0 < 0) = false := decide_eq_false c3
    clear c3
    have H' := Aside0.mk H
    clear H
    go_enter Try.func8, Try.ntmps8
    go_wp2_with (first | ((with_reducible refine gate_callee (f := 9) rfl ?_); refine goesL_ (some 16) rfl rfl Try.func9 (by kernel_rfl) rfl #[] rfl (by (try simp only [List.map_toArray, List.map_cons, List.map_nil]); first | done | rfl | (simp only [List.length_drop, List.length_take]; rfl)) ?_; (with_reducible refine (swagelaw09_small.calls k  t246 _ A2.out).mono ?_); rintro e w5 ⟨rfl, hb⟩; refine ⟨_, rfl, ?_⟩; have n0_ := Aside0.mk (below_step (by repeat (first | (with_reducible first | exact HB.out | apply below_alloc | apply pw_below_drewN | apply below_drew1) | exact HB.out)) hb); clear HB; have HB := n0_; clear n0_; (try clear hb); (try clear hb2); (try clear hk); (try clear hi)))
    go_loopg [4, 5] k (fun kq v4 v5 w' => ∃ (x4_1 : ByteArray) (x5_1 : Int), v4 = .string x4_1 ∧ v5 = .int .i64 x5_1 ∧ Aside0 (swagelaw09_TokenNumbers.l0 kq a0 t246 x4_1 x5_1 = some r) ∧ Aside0 (kq ≤ k) ∧ Aside0 (Below w.heap.size w w'))
    case atStart => exact ⟨((⟨#[]⟩ : ByteArray)), (a0), (by first | rfl | (simp; done) | (simp [*]; done)), (by first | rfl | (simp; done) | (simp [*]; done)), H', ⟨Nat.le_refl _⟩, ⟨by repeat (first | (with_reducible first | exact HB.out | apply below_alloc | apply pw_below_drewN | apply below_drew1) | exact HB.out)⟩⟩
    case round =>
      clear H'
      try clear p2
      try clear c3
      try clear c3b0
      obtain ⟨x4_1, x5_1, rfl, rfl, HA, HK1, HB⟩ := hrel
      cases gk with
      | zero => exact absurd HA.out (by simp [swagelaw09_TokenNumbers.l0])
      | succ k1 =>
        have H := HA.out
        clear HA
        simp only [swagelaw09_TokenNumbers.l0] at H
        by_cases c6 : x5_1 > 0
        · rw [if_pos c6] at H
          have c6b0 : decide (0 < x5_1) = true := decide_eq_true c6
          clear c6
          obtain ⟨y247, hy247⟩ : ∃ y_ : List Int, y_ = (([(wrap64 (48 + (Int.tmod x5_1 10))) % 256] : List Int)) := ⟨_, rfl⟩
          replace H : (if (strOfNums y247).size + x4_1.size ≤ 9223372036854775807 then (swagelaw09_TokenNumbers.l0 k1 a0 t246 ((strOfNums y247) ++ x4_1) (wrap64 (Int.tdiv x5_1 10))) else (none)) = some r := by first | (rw [hy247]; with_reducible exact H) | (have H2_ := (Option.bind_some _ _).symm.trans H; rw [hy247]; with_reducible exact H2_) | (have H2_ := (Option.bind_some _ _).symm.trans H; with_reducible exact H2_) | with_reducible exact H | (rw [hy247]; exact H) | exact H
          have Ny247 := Aside0.mk hy247
          clear hy247
          by_cases c7 : (strOfNums y247).size + x4_1.size ≤ 9223372036854775807
          · rw [if_pos c7] at H
            have c7b0 := eq_true c7
            have c7b1 : decide ((strOfNums y247).size + x4_1.size ≤ 9223372036854775807) = true := decide_eq_true c7
            try have c7b2 : (9223372036854775807 < (strOfNums y247).size + x4_1.size) = False := eq_false (Nat.not_lt.2 c7)
            have H' := Aside0.mk H
            clear H
            go_wp2_with (first | ((with_reducible refine gate_dst (N := 29) rfl ?_); (try (refine gate_guard (by rfl) ?_; dsimp only)); refine Kd.R_lit (Kd.int .u8) _ 5 ?hg (N := 29) ?hd (xs := ([(wrap64 (48 + (Int.tmod x5_1 10))) % 256] : List Int)) (inner := [.int .u8 ((wrap64 (48 + (Int.tmod x5_1 10))) % 256)]) (ok := fun _ => True) (okp := fun _ => True) ?hr ?hp (fun _ hk => hk) trivial (Below.refl _ _) (Nat.le_refl _) (by simp) ?_; (case hd => rfl); (case hg => rfl); (case hr => first | (go_simp; done) | (go_simp; rfl)); (case hp => exact (Reps.one (show Kd.M (Kd.int .u8) _ _ _ ((wrap64 (48 + (Int.tmod x5_1 10))) % 256) [.int .u8 ((wrap64 (48 + (Int.tmod x5_1 10))) % 256)] from rfl) (Reps.none _ _))); intro v248 w8 ho9 hb hg_ hnew_; clear hg_ hnew_; (first | rw [← Ny247.out] at ho9 | (simp only [Int.reduceToNat] at ho9; rw [← Ny247.out] at ho9)); have n0_ := Aside0.mk (Kd.R_lower ho9 (below_size (by repeat (first | (with_reducible first | exact HB.out | apply below_alloc | apply pw_below_drewN | apply below_drew1) | exact HB.out)))); have n1_ := Aside0.mk (below_step (by repeat (first | (with_reducible first | exact HB.out | apply below_alloc | apply pw_below_drewN | apply below_drew1) | exact HB.out)) hb); clear HB; have HO249 := n0_; have HB := n1_; clear n0_ n1_; clear hb ho9; have hcv10 := own_string (P := Try.prog) Try.underlying37 Try.underlying5 Try.underlying9 (Kd.own_of_R HO249.out)))
            go_roundg k1
            case measure => have := HK1.out; omega
            case rel => exact ⟨((strOfNums y247) ++ x4_1), (wrap64 (Int.tdiv x5_1 10)), (by first | rfl | (simp; done) | (simp [*]; done)), (by first | rfl | (simp; done) | (simp [*]; done)), H', ⟨by have := HK1.out; omega⟩, ⟨by repeat (first | (with_reducible first | exact HB.out | apply below_alloc | apply pw_below_drewN | apply below_drew1) | exact HB.out)⟩⟩
          · rw [if_neg c7] at H
            exact absurd H (by simp)
        · rw [if_neg c6] at H
          have c6b0 : decide (0 < x5_1) = false := decide_eq_false c6
          clear c6
          have HC11 := Aside0.mk H
          clear H
          go_upto_if 34 with (fail)
          go_cut [4] (fun v4 wc => ∃ (kq : Nat) (x4_10 : ByteArray), v4 = .string x4_10 ∧ Aside0 (swagelaw09_TokenNumbers.j1 kq a0 t246 x4_10 = some r) ∧ Aside0 (kq ≤ k1) ∧ Aside0 (Below w.heap.size w wc))
          case first =>
            have H := HC11.out
            clear HC11
            by_cases c12 : a0 = 0
            · rw [if_pos c12] at H
              have c12b0 : (a0 == 0) = true := beq_iff_eq.mpr c12
              have c12b1 : (a0 != 0) = false := bne_eq_false_iff_eq.mpr c12
              clear c12
              (first | rw [c12b0] | (simp only [i64_w, i32_w]; rw [c12b0]) | skip)
              have H' := Aside0.mk H
              clear H
              go_wp2
              go_meet
              case rel => exact ⟨_, ((⟨#[48]⟩ : ByteArray)), (by first | rfl | (simp; done) | (simp [*]; done)), H', ⟨by have := HK1.out; first | omega | exact Nat.le_refl _⟩, ⟨by repeat (first | (with_reducible first | exact HB.out | apply below_alloc | apply pw_below_drewN | apply below_drew1) | exact HB.out)⟩⟩
            · rw [if_neg c12] at H
              have c12b0 : (a0 == 0) = false := beq_eq_false_iff_ne.mpr c12
              have c12b1 : (a0 != 0) = true := bne_iff_ne.mpr c12
              (first | rw [c12b0] | (simp only [i64_w, i32_w]; rw [c12b0]) | skip)
              have H' := Aside0.mk H
              clear H
              go_wp2
              go_meet
              case rel => exact ⟨_, (x4_1), (by first | rfl | (simp; done) | (simp [*]; done)), H', ⟨by have := HK1.out; first | omega | exact Nat.le_refl _⟩, ⟨by repeat (first | (with_reducible first | exact HB.out | apply below_alloc | apply pw_below_drewN | apply below_drew1) | exact HB.out)⟩⟩
          case rest =>
            clear HC11
            try clear c1
            try clear hcv1
            try clear p2
            try clear c3
            try clear c3b0
            try clear c6
            try clear c6b0
            try clear p6
            try clear c7
            try clear c7b0
            try clear c7b1
            try clear c7b2
            try clear c8
            try clear c9
            try clear hcv10
            try clear c12
            try clear c12b0
            try clear c12b1
            try clear p2
            obtain ⟨kq, x4_10, rfl, HA, HJ10, HB⟩ := hcut
            cases kq with
            | zero => exact absurd HA.out (by simp [swagelaw09_TokenNumbers.j1])
            | succ kj10 =>
              have H := HA.out
              clear HA
              simp only [swagelaw09_TokenNumbers.j1] at H
              replace H := Option.bind_eq_some_iff.mp H
              obtain ⟨⟨t250, t251⟩, A130, H⟩ := H
              replace H : ((token_Lex.f x4_10).bind fun bt252 => (if 1 + x4_10.size ≤ 9223372036854775807 then ((token_Number.f ((⟨#[48]⟩ : ByteArray) ++ x4_10)).bind fun bt257 => (if x4_10.size + 1 ≤ 9223372036854775807 then ((token_Lex.f (x4_10 ++ (⟨#[97]⟩ : ByteArray))).bind fun bt259 => (if t246 = true then (if t251 = true then (if t250 = a0 then (if bt257.2 = true then (some false) else (if bt252.2.2 = 0 then (if bt252.2.1 = (x4_10.size : Int) then (if (bt252.1.length : Int) = 1 then (if 0 < (bt252.1.length : Int) then (if (((rd_T30 bt252.1 0).f0) == 2 && ((((rd_T30 bt252.1 0).f1).toList) == x4_10.toList && (((rd_T30 bt252.1 0).f2) == 0))) = true then (if bt259.2.1 = 0 then (some (bt259.2.2 == 2)) else (some false)) else (some false)) else (none)) else (some false)) else (some false)) else (some false))) else (some false)) else (some false)) else (some false))) else (none))) else (none))) = some r := H
              have A13 := Aside0.mk A130
              clear A130
              replace H := Option.bind_eq_some_iff.mp H
              obtain ⟨⟨t252, t253, t254⟩, A140, H⟩ := H
              replace H : (if 1 + x4_10.size ≤ 9223372036854775807 then ((token_Number.f ((⟨#[48]⟩ : ByteArray) ++ x4_10)).bind fun bt257 => (if x4_10.size + 1 ≤ 9223372036854775807 then ((token_Lex.f (x4_10 ++ (⟨#[97]⟩ : ByteArray))).bind fun bt259 => (if t246 = true then (if t251 = true then (if t250 = a0 then (if bt257.2 = true then (some false) else (if t254 = 0 then (if t253 = (x4_10.size : Int) then (if (t252.length : Int) = 1 then (if 0 < (t252.length : Int) then (if (((rd_T30 t252 0).f0) == 2 && ((((rd_T30 t252 0).f1).toList) == x4_10.toList && (((rd_T30 t252 0).f2) == 0))) = true then (if bt259.2.1 = 0 then (some (bt259.2.2 == 2)) else (some false)) else (some false)) else (none)) else (some false)) else (some false)) else (some false))) else (some false)) else (some false)) else (some false))) else (none))) else (none)) = some r := H
              have A14 := Aside0.mk A140
              clear A140
              by_cases c15 : 1 + x4_10.size ≤ 9223372036854775807
              · rw [if_pos c15] at H
                have c15b0 := eq_true c15
                have c15b1 : decide (1 + x4_10.size ≤ 9223372036854775807) = true := decide_eq_true c15
                try have c15b2 : (9223372036854775807 < 1 + x4_10.size) = False := eq_false (Nat.not_lt.2 c15)
                replace H := Option.bind_eq_some_iff.mp H
                obtain ⟨⟨t257, t258⟩, A160, H⟩ := H
                replace H : (if x4_10.size + 1 ≤ 9223372036854775807 then ((token_Lex.f (x4_10 ++ (⟨#[97]⟩ : ByteArray))).bind fun bt259 => (if t246 = true then (if t251 = true then (if t250 = a0 then (if t258 = true then (some false) else (if t254 = 0 then (if t253 = (x4_10.size : Int) then (if (t252.length : Int) = 1 then (if 0 < (t252.length : Int) then (if (((rd_T30 t252 0).f0) == 2 && ((((rd_T30 t252 0).f1).toList) == x4_10.toList && (((rd_T30 t252 0).f2) == 0))) = true then (if bt259.2.1 = 0 then (some (bt259.2.2 == 2)) else (some false)) else (some false)) else (none)) else (some false)) else (some false)) else (some false))) else (some false)) else (some false)) else (some false))) else (none)) = some r := H
                have A16 := Aside0.mk A160
                clear A160
                by_cases c17 : x4_10.size + 1 ≤ 9223372036854775807
                · rw [if_pos c17] at H
                  have c17b0 := eq_true c17
                  have c17b1 : decide (x4_10.size + 1 ≤ 9223372036854775807) = true := decide_eq_true c17
                  try have c17b2 : (9223372036854775807 < x4_10.size + 1) = False := eq_false (Nat.not_lt.2 c17)
                  replace H := Option.bind_eq_some_iff.mp H
                  obtain ⟨⟨t259, t260, t261⟩, A180, H⟩ := H
                  replace H : (if t246 = true then (if t251 = true then (if t250 = a0 then (if t258 = true then (some false) else (if t254 = 0 then (if t253 = (x4_10.size : Int) then (if (t252.length : Int) = 1 then (if 0 < (t252.length : Int) then (if (((rd_T30 t252 0).f0) == 2 && ((((rd_T30 t252 0).f1).toList) == x4_10.toList && (((rd_T30 t252 0).f2) == 0))) = true then (if t260 = 0 then (some (t261 == 2)) else (some false)) else (some false)) else (none)) else (some false)) else (some false)) else (some false))) else (some false)) else (some false)) else (some false)) = some r := H
                  have A18 := Aside0.mk A180
                  clear A180
                  by_cases c19 : t246 = true
                  · subst c19
                    have H1 : (if t251 = true then (if t250 = a0 then (if t258 = true then (some false) else (if t254 = 0 then (if t253 = (x4_10.size : Int) then (if (t252.length : Int) = 1 then (if 0 < (t252.length : Int) then (if (((rd_T30 t252 0).f0) == 2 && ((((rd_T30 t252 0).f1).toList) == x4_10.toList && (((rd_T30 t252 0).f2) == 0))) = true then (if t260 = 0 then (some (t261 == 2)) else (some false)) else (some false)) else (none)) else (some false)) else (some false)) else (some false))) else (some false)) else (some false)) = some r := by rw [if_pos rfl] at H; exact H
                    clear H
                    have H := H1
                    clear H1
                    by_cases c20 : t251 = true
                    · subst c20
                      have H1 : (if t250 = a0 then (if t258 = true then (some false) else (if t254 = 0 then (if t253 = (x4_10.size : Int) then (if (t252.length : Int) = 1 then (if 0 < (t252.length : Int) then (if (((rd_T30 t252 0).f0) == 2 && ((((rd_T30 t252 0).f1).toList) == x4_10.toList && (((rd_T30 t252 0).f2) == 0))) = true then (if t260 = 0 then (some (t261 == 2)) else (some false)) else (some false)) else (none)) else (some false)) else (some false)) else (some false))) else (some false)) = some r := by rw [if_pos rfl] at H; exact H
                      clear H
                      have H := H1
                      clear H1
                      by_cases c21 : t250 = a0
                      · rw [if_pos c21] at H
                        have c21b0 : (t250 == a0) = true := beq_iff_eq.mpr c21
                        have c21b1 : (t250 != a0) = false := bne_eq_false_iff_eq.mpr c21
                        clear c21
                        by_cases c22 : t258 = true
                        · subst c22
                          have H1 : (some false) = some r := by rw [if_pos rfl] at H; exact H
                          clear H
                          have H := H1
                          clear H1
                          obtain rfl := Option.some.inj H
                          go_wp2_with (first | ((with_reducible refine gate_callee (f := 13) rfl ?_); refine goesL_ (some 37) rfl rfl Try.func13 (by kernel_rfl) rfl #[.string x4_10] rfl (by (try simp only [List.map_toArray, List.map_cons, List.map_nil]); first | done | rfl | (simp only [List.length_drop, List.length_take]; rfl)) ?_; (with_reducible refine (token_Number.calls x4_10 t250 true _ A13.out).mono ?_); rintro e w' ⟨rfl, ⟨nd, rfl⟩⟩; refine ⟨_, rfl, ?_⟩) | ((with_reducible refine gate_callee (f := 10) rfl ?_); refine goesL_ (some 42) rfl rfl Try.func10 (by kernel_rfl) rfl #[.string x4_10] rfl (by (try simp only [List.map_toArray, List.map_cons, List.map_nil]); first | done | rfl | (simp only [List.length_drop, List.length_take]; rfl)) ?_; (with_reducible refine (token_Lex.calls x4_10 t252 t253 t254 _ A14.out).mono ?_); rintro e w23 ⟨v255, rfl, ho0, hb⟩; refine ⟨_, rfl, ?_⟩; have n0_ := Aside0.mk (Kd.R_lower ho0 (below_size (by repeat (first | (with_reducible first | exact HB.out | apply below_alloc | apply pw_below_drewN | apply below_drew1) | exact HB.out)))); have n1_ := Aside0.mk (below_step (by repeat (first | (with_reducible first | exact HB.out | apply below_alloc | apply pw_below_drewN | apply below_drew1) | exact HB.out)) hb); clear HB; have HO256 := n0_; have HB := n1_; clear n0_ n1_; (try clear hb); (try clear hb2); (try clear hk); (try clear hi); (try clear ho0)) | ((with_reducible refine gate_callee (f := 13) rfl ?_); refine goesL_ (some 49) rfl rfl Try.func13 (by kernel_rfl) rfl #[.string ((⟨#[48]⟩ : ByteArray) ++ x4_10)] rfl (by (try simp only [List.map_toArray, List.map_cons, List.map_nil]); first | done | rfl | (simp only [List.length_drop, List.length_take]; rfl)) ?_; (with_reducible refine (token_Number.calls ((⟨#[48]⟩ : ByteArray) ++ x4_10) t257 true _ A16.out).mono ?_); rintro e w' ⟨rfl, ⟨nd, rfl⟩⟩; refine ⟨_, rfl, ?_⟩) | ((with_reducible refine gate_callee (f := 10) rfl ?_); refine goesL_ (some 55) rfl rfl Try.func10 (by kernel_rfl) rfl #[.string (x4_10 ++ (⟨#[97]⟩ : ByteArray))] rfl (by (try simp only [List.map_toArray, List.map_cons, List.map_nil]); first | done | rfl | (simp only [List.length_drop, List.length_take]; rfl)) ?_; (with_reducible refine (token_Lex.calls (x4_10 ++ (⟨#[97]⟩ : ByteArray)) t259 t260 t261 _ A18.out).mono ?_); rintro e w24 ⟨v262, rfl, ho0, hb⟩; refine ⟨_, rfl, ?_⟩; have n0_ := Aside0.mk (Kd.R_elder' (by (with_reducible repeat (first | apply Kd.R_alloc | apply Kd.R_drewN | apply Kd.R_drew)); exact HO256.out) (Kd.R_base ho0) hb); have n1_ := Aside0.mk (Kd.R_lower (Kd.R_new' ho0 (Kd.R_lt (by (with_reducible repeat (first | apply Kd.R_alloc | apply Kd.R_drewN | apply Kd.R_drew)); exact HO256.out))) (below_size (by repeat (first | (with_reducible first | exact HB.out | apply below_alloc | apply pw_below_drewN | apply below_drew1) | exact HB.out)))); have n2_ := Aside0.mk (below_step (by repeat (first | (with_reducible first | exact HB.out | apply below_alloc | apply pw_below_drewN | apply below_drew1) | exact HB.out)) hb); clear HO256; clear HB; have HO256 := n0_; have HO263 := n1_; have HB := n2_; clear n0_ n1_ n2_; (try clear hb); (try clear hb2); (try clear hk); (try clear hi); (try clear ho0)))
                          go_ret
                          exact ⟨by first | rfl | (simp [errW_none, errW_some] <;> rfl) | (simp [*, errW_none, errW_some] <;> rfl), by repeat (first | (with_reducible first | exact HB.out | apply below_alloc | apply pw_below_drewN | apply below_drew1) | exact HB.out)⟩
                        · replace c22 := Bool.eq_false_iff.mpr c22
                          subst c22
                          have H1 : (if t254 = 0 then (if t253 = (x4_10.size : Int) then (if (t252.length : Int) = 1 then (if 0 < (t252.length : Int) then (if (((rd_T30 t252 0).f0) == 2 && ((((rd_T30 t252 0).f1).toList) == x4_10.toList && (((rd_T30 t252 0).f2) == 0))) = true then (if t260 = 0 then (some (t261 == 2)) else (some false)) else (some false)) else (none)) else (some false)) else (some false)) else (some false)) = some r := by rw [if_neg (show ¬ (false = true) by decide)] at H; exact H
                          clear H
                          have H := H1
                          clear H1
                          by_cases c25 : t254 = 0
                          · rw [if_pos c25] at H
                            have c25b0 : (t254 == 0) = true := beq_iff_eq.mpr c25
                            have c25b1 : (t254 != 0) = false := bne_eq_false_iff_eq.mpr c25
                            clear c25
                            by_cases c26 : t253 = (x4_10.size : Int)
                            · rw [if_pos c26] at H
                              have c26b0 : (t253 == (x4_10.size : Int)) = true := beq_iff_eq.mpr c26
                              have c26b1 : (t253 != (x4_10.size : Int)) = false := bne_eq_false_iff_eq.mpr c26
                              clear c26
                              by_cases c27 : (t252.length : Int) = 1
                              · rw [if_pos c27] at H
                                have c27b0 : ((t252.length : Int) == 1) = true := beq_iff_eq.mpr c27
                                have c27b1 : ((t252.length : Int) != 1) = false := bne_eq_false_iff_eq.mpr c27
                                clear c27
                                by_cases c28 : 0 < (t252.length : Int)
                                · rw [if_pos c28] at H
                                  have c28b0 : decide (0 < (t252.length : Int)) = true := decide_eq_true c28
                                  have c28b1 : decide (0 < t252.length) = true := decide_eq_true (by omega)
                                  clear c28
                                  by_cases c29 : (((rd_T30 t252 0).f0) == 2 && ((((rd_T30 t252 0).f1).toList) == x4_10.toList && (((rd_T30 t252 0).f2) == 0))) = true
                                  · rw [if_pos c29] at H
                                    have c29b0 : (((rd_T30 t252 0).f0) == 2 && ((((rd_T30 t252 0).f1).toList) == x4_10.toList && (((rd_T30 t252 0).f2) == 0))) = true := c29
                                    (try (have c29b1 : decide (((rd_T30 t252 0).f0) = 2 && ((((rd_T30 t252 0).f1).toList) == x4_10.toList && (((rd_T30 t252 0).f2) == 0))) = true := by simpa using c29))
                                    (try (have c29b2 : (((rd_T30 t252 0).f0) == 2 && ((((rd_T30 t252 0).f1).toList) == x4_10.toList && (((rd_T30 t252 0).f2) == 0))) = true := by simpa using c29))
                                    clear c29
                                    by_cases c30 : t260 = 0
                                    · rw [if_pos c30] at H
                                      have c30b0 : (t260 == 0) = true := beq_iff_eq.mpr c30
                                      have c30b1 : (t260 != 0) = false := bne_eq_false_iff_eq.mpr c30
                                      clear c30
                                      obtain rfl := Option.some.inj H
                                      go_wp2_with (first | ((with_reducible refine gate_callee (f := 13) rfl ?_); refine goesL_ (some 37) rfl rfl Try.func13 (by kernel_rfl) rfl #[.string x4_10] rfl (by (try simp only [List.map_toArray, List.map_cons, List.map_nil]); first | done | rfl | (simp only [List.length_drop, List.length_take]; rfl)) ?_; (with_reducible refine (token_Number.calls x4_10 t250 true _ A13.out).mono ?_); rintro e w' ⟨rfl, ⟨nd, rfl⟩⟩; refine ⟨_, rfl, ?_⟩) | ((with_reducible refine gate_callee (f := 10) rfl ?_); refine goesL_ (some 42) rfl rfl Try.func10 (by kernel_rfl) rfl #[.string x4_10] rfl (by (try simp only [List.map_toArray, List.map_cons, List.map_nil]); first | done | rfl | (simp only [List.length_drop, List.length_take]; rfl)) ?_; (with_reducible refine (token_Lex.calls x4_10 t252 t253 t254 _ A14.out).mono ?_); rintro e w31 ⟨v255, rfl, ho0, hb⟩; refine ⟨_, rfl, ?_⟩; have n0_ := Aside0.mk (Kd.R_lower ho0 (below_size (by repeat (first | (with_reducible first | exact HB.out | apply below_alloc | apply pw_below_drewN | apply below_drew1) | exact HB.out)))); have n1_ := Aside0.mk (below_step (by repeat (first | (with_reducible first | exact HB.out | apply below_alloc | apply pw_below_drewN | apply below_drew1) | exact HB.out)) hb); clear HB; have HO256 := n0_; have HB := n1_; clear n0_ n1_; (try clear hb); (try clear hb2); (try clear hk); (try clear hi); (try clear ho0)) | ((with_reducible refine gate_callee (f := 13) rfl ?_); refine goesL_ (some 49) rfl rfl Try.func13 (by kernel_rfl) rfl #[.string ((⟨#[48]⟩ : ByteArray) ++ x4_10)] rfl (by (try simp only [List.map_toArray, List.map_cons, List.map_nil]); first | done | rfl | (simp only [List.length_drop, List.length_take]; rfl)) ?_; (with_reducible refine (token_Number.calls ((⟨#[48]⟩ : ByteArray) ++ x4_10) t257 false _ A16.out).mono ?_); rintro e w' ⟨rfl, ⟨nd, rfl⟩⟩; refine ⟨_, rfl, ?_⟩) | ((with_reducible refine gate_callee (f := 10) rfl ?_); refine goesL_ (some 55) rfl rfl Try.func10 (by kernel_rfl) rfl #[.string (x4_10 ++ (⟨#[97]⟩ : ByteArray))] rfl (by (try simp only [List.map_toArray, List.map_cons, List.map_nil]); first | done | rfl | (simp only [List.length_drop, List.length_take]; rfl)) ?_; (with_reducible refine (token_Lex.calls (x4_10 ++ (⟨#[97]⟩ : ByteArray)) t259 t260 t261 _ A18.out).mono ?_); rintro e w32 ⟨v262, rfl, ho0, hb⟩; refine ⟨_, rfl, ?_⟩; have n0_ := Aside0.mk (Kd.R_elder' (by (with_reducible repeat (first | apply Kd.R_alloc | apply Kd.R_drewN | apply Kd.R_drew)); exact HO256.out) (Kd.R_base ho0) hb); have n1_ := Aside0.mk (Kd.R_lower (Kd.R_new' ho0 (Kd.R_lt (by (with_reducible repeat (first | apply Kd.R_alloc | apply Kd.R_drewN | apply Kd.R_drew)); exact HO256.out))) (below_size (by repeat (first | (with_reducible first | exact HB.out | apply below_alloc | apply pw_below_drewN | apply below_drew1) | exact HB.out)))); have n2_ := Aside0.mk (below_step (by repeat (first | (with_reducible first | exact HB.out | apply below_alloc | apply pw_below_drewN | apply below_drew1) | exact HB.out)) hb); clear HO256; clear HB; have HO256 := n0_; have HO263 := n1_; have HB := n2_; clear n0_ n1_ n2_; (try clear hb); (try clear hb2); (try clear hk); (try clear hi); (try clear ho0); obtain ⟨Ao33, co33, eo33⟩ := Kd.R_slice HO256.out; subst eo33; have p264 : 0 ≤ (0 : Int) := (by omega); have q264 : 0 < (t252.length : Int) := of_decide_eq_true (by first | (with_reducible assumption) | assumption); obtain ⟨ad264, e264, hx264_0, hx264_1, hx264_2⟩ := at_T30 (Kd.R_reads' HO256.out).2.2 0 p264 q264; cases e264; have qi264 : (0 < t252.length) = True := eq_true (by omega); (try rw [show ((0 : Int)).toNat = 0 from rfl] at hx264_0); (try rw [show 0 * 3 = 0 from rfl] at hx264_0); (try rw [Addr.add_zero'] at hx264_0); (try rw [show ((0 : Int)).toNat = 0 from rfl] at hx264_1); (try rw [show 0 * 3 = 0 from rfl] at hx264_1); (try rw [Addr.add_zero'] at hx264_1); (try rw [show ((0 : Int)).toNat = 0 from rfl] at hx264_2); (try rw [show 0 * 3 = 0 from rfl] at hx264_2); (try rw [Addr.add_zero'] at hx264_2); replace p264 := eq_true p264; replace q264 := eq_true q264))
                                      go_ret
                                      exact ⟨by first | rfl | (simp [errW_none, errW_some] <;> rfl) | (simp [*, errW_none, errW_some] <;> rfl), by repeat (first | (with_reducible first | exact HB.out | apply below_alloc | apply pw_below_drewN | apply below_drew1) | exact HB.out)⟩
                                    · rw [if_neg c30] at H
                                      have c30b0 : (t260 == 0) = false := beq_eq_false_iff_ne.mpr c30
                                      have c30b1 : (t260 != 0) = true := bne_iff_ne.mpr c30
                                      obtain rfl := Option.some.inj H
                                      go_wp2_with (first | ((with_reducible refine gate_callee (f := 13) rfl ?_); refine goesL_ (some 37) rfl rfl Try.func13 (by kernel_rfl) rfl #[.string x4_10] rfl (by (try simp only [List.map_toArray, List.map_cons, List.map_nil]); first | done | rfl | (simp only [List.length_drop, List.length_take]; rfl)) ?_; (with_reducible refine (token_Number.calls x4_10 t250 true _ A13.out).mono ?_); rintro e w' ⟨rfl, ⟨nd, rfl⟩⟩; refine ⟨_, rfl, ?_⟩) | ((with_reducible refine gate_callee (f := 10) rfl ?_); refine goesL_ (some 42) rfl rfl Try.func10 (by kernel_rfl) rfl #[.string x4_10] rfl (by (try simp only [List.map_toArray, List.map_cons, List.map_nil]); first | done | rfl | (simp only [List.length_drop, List.length_take]; rfl)) ?_; (with_reducible refine (token_Lex.calls x4_10 t252 t253 t254 _ A14.out).mono ?_); rintro e w34 ⟨v255, rfl, ho0, hb⟩; refine ⟨_, rfl, ?_⟩; have n0_ := Aside0.mk (Kd.R_lower ho0 (below_size (by repeat (first | (with_reducible first | exact HB.out | apply below_alloc | apply pw_below_drewN | apply below_drew1) | exact HB.out)))); have n1_ := Aside0.mk (below_step (by repeat (first | (with_reducible first | exact HB.out | apply below_alloc | apply pw_below_drewN | apply below_drew1) | exact HB.out)) hb); clear HB; have HO256 := n0_; have HB := n1_; clear n0_ n1_; (try clear hb); (try clear hb2); (try clear hk); (try clear hi); (try clear ho0)) | ((with_reducible refine gate_callee (f := 13) rfl ?_); refine goesL_ (some 49) rfl rfl Try.func13 (by kernel_rfl) rfl #[.string ((⟨#[48]⟩ : ByteArray) ++ x4_10)] rfl (by (try simp only [List.map_toArray, List.map_cons, List.map_nil]); first | done | rfl | (simp only [List.length_drop, List.length_take]; rfl)) ?_; (with_reducible refine (token_Number.calls ((⟨#[48]⟩ : ByteArray) ++ x4_10) t257 false _ A16.out).mono ?_); rintro e w' ⟨rfl, ⟨nd, rfl⟩⟩; refine ⟨_, rfl, ?_⟩) | ((with_reducible refine gate_callee (f := 10) rfl ?_); refine goesL_ (some 55) rfl rfl Try.func10 (by kernel_rfl) rfl #[.string (x4_10 ++ (⟨#[97]⟩ : ByteArray))] rfl (by (try simp only [List.map_toArray, List.map_cons, List.map_nil]); first | done | rfl | (simp only [List.length_drop, List.length_take]; rfl)) ?_; (with_reducible refine (token_Lex.calls (x4_10 ++ (⟨#[97]⟩ : ByteArray)) t259 t260 t261 _ A18.out).mono ?_); rintro e w35 ⟨v262, rfl, ho0, hb⟩; refine ⟨_, rfl, ?_⟩; have n0_ := Aside0.mk (Kd.R_elder' (by (with_reducible repeat (first | apply Kd.R_alloc | apply Kd.R_drewN | apply Kd.R_drew)); exact HO256.out) (Kd.R_base ho0) hb); have n1_ := Aside0.mk (Kd.R_lower (Kd.R_new' ho0 (Kd.R_lt (by (with_reducible repeat (first | apply Kd.R_alloc | apply Kd.R_drewN | apply Kd.R_drew)); exact HO256.out))) (below_size (by repeat (first | (with_reducible first | exact HB.out | apply below_alloc | apply pw_below_drewN | apply below_drew1) | exact HB.out)))); have n2_ := Aside0.mk (below_step (by repeat (first | (with_reducible first | exact HB.out | apply below_alloc | apply pw_below_drewN | apply below_drew1) | exact HB.out)) hb); clear HO256; clear HB; have HO256 := n0_; have HO263 := n1_; have HB := n2_; clear n0_ n1_ n2_; (try clear hb); (try clear hb2); (try clear hk); (try clear hi); (try clear ho0); obtain ⟨Ao36, co36, eo36⟩ := Kd.R_slice HO256.out; subst eo36; have p264 : 0 ≤ (0 : Int) := (by omega); have q264 : 0 < (t252.length : Int) := of_decide_eq_true (by first | (with_reducible assumption) | assumption); obtain ⟨ad264, e264, hx264_0, hx264_1, hx264_2⟩ := at_T30 (Kd.R_reads' HO256.out).2.2 0 p264 q264; cases e264; have qi264 : (0 < t252.length) = True := eq_true (by omega); (try rw [show ((0 : Int)).toNat = 0 from rfl] at hx264_0); (try rw [show 0 * 3 = 0 from rfl] at hx264_0); (try rw [Addr.add_zero'] at hx264_0); (try rw [show ((0 : Int)).toNat = 0 from rfl] at hx264_1); (try rw [show 0 * 3 = 0 from rfl] at hx264_1); (try rw [Addr.add_zero'] at hx264_1); (try rw [show ((0 : Int)).toNat = 0 from rfl] at hx264_2); (try rw [show 0 * 3 = 0 from rfl] at hx264_2); (try rw [Addr.add_zero'] at hx264_2); replace p264 := eq_true p264; replace q264 := eq_true q264))
                                      go_ret
                                      exact ⟨by first | rfl | (simp [errW_none, errW_some] <;> rfl) | (simp [*, errW_none, errW_some] <;> rfl), by repeat (first | (with_reducible first | exact HB.out | apply below_alloc | apply pw_below_drewN | apply below_drew1) | exact HB.out)⟩
                                  · rw [if_neg c29] at H
                                    have c29b0 : (((rd_T30 t252 0).f0) == 2 && ((((rd_T30 t252 0).f1).toList) == x4_10.toList && (((rd_T30 t252 0).f2) == 0))) = false := by simpa using c29
                                    (try (have c29b1 : decide (((rd_T30 t252 0).f0) = 2 && ((((rd_T30 t252 0).f1).toList) == x4_10.toList && (((rd_T30 t252 0).f2) == 0))) = false := by simpa using c29))
                                    (try (have c29b2 : (((rd_T30 t252 0).f0) == 2 && ((((rd_T30 t252 0).f1).toList) == x4_10.toList && (((rd_T30 t252 0).f2) == 0))) = false := by simpa using c29))
                                    (try (have c29b3 : ¬ (((rd_T30 t252 0).f0) = 2 && ((((rd_T30 t252 0).f1).toList) == x4_10.toList && (((rd_T30 t252 0).f2) == 0))) := by simpa using c29))
                                    clear c29
                                    obtain rfl := Option.some.inj H
                                    go_wp2_with (first | ((with_reducible refine gate_callee (f := 13) rfl ?_); refine goesL_ (some 37) rfl rfl Try.func13 (by kernel_rfl) rfl #[.string x4_10] rfl (by (try simp only [List.map_toArray, List.map_cons, List.map_nil]); first | done | rfl | (simp only [List.length_drop, List.length_take]; rfl)) ?_; (with_reducible refine (token_Number.calls x4_10 t250 true _ A13.out).mono ?_); rintro e w' ⟨rfl, ⟨nd, rfl⟩⟩; refine ⟨_, rfl, ?_⟩) | ((with_reducible refine gate_callee (f := 10) rfl ?_); refine goesL_ (some 42) rfl rfl Try.func10 (by kernel_rfl) rfl #[.string x4_10] rfl (by (try simp only [List.map_toArray, List.map_cons, List.map_nil]); first | done | rfl | (simp only [List.length_drop, List.length_take]; rfl)) ?_; (with_reducible refine (token_Lex.calls x4_10 t252 t253 t254 _ A14.out).mono ?_); rintro e w37 ⟨v255, rfl, ho0, hb⟩; refine ⟨_, rfl, ?_⟩; have n0_ := Aside0.mk (Kd.R_lower ho0 (below_size (by repeat (first | (with_reducible first | exact HB.out | apply below_alloc | apply pw_below_drewN | apply below_drew1) | exact HB.out)))); have n1_ := Aside0.mk (below_step (by repeat (first | (with_reducible first | exact HB.out | apply below_alloc | apply pw_below_drewN | apply below_drew1) | exact HB.out)) hb); clear HB; have HO256 := n0_; have HB := n1_; clear n0_ n1_; (try clear hb); (try clear hb2); (try clear hk); (try clear hi); (try clear ho0)) | ((with_reducible refine gate_callee (f := 13) rfl ?_); refine goesL_ (some 49) rfl rfl Try.func13 (by kernel_rfl) rfl #[.string ((⟨#[48]⟩ : ByteArray) ++ x4_10)] rfl (by (try simp only [List.map_toArray, List.map_cons, List.map_nil]); first | done | rfl | (simp only [List.length_drop, List.length_take]; rfl)) ?_; (with_reducible refine (token_Number.calls ((⟨#[48]⟩ : ByteArray) ++ x4_10) t257 false _ A16.out).mono ?_); rintro e w' ⟨rfl, ⟨nd, rfl⟩⟩; refine ⟨_, rfl, ?_⟩) | ((with_reducible refine gate_callee (f := 10) rfl ?_); refine goesL_ (some 55) rfl rfl Try.func10 (by kernel_rfl) rfl #[.string (x4_10 ++ (⟨#[97]⟩ : ByteArray))] rfl (by (try simp only [List.map_toArray, List.map_cons, List.map_nil]); first | done | rfl | (simp only [List.length_drop, List.length_take]; rfl)) ?_; (with_reducible refine (token_Lex.calls (x4_10 ++ (⟨#[97]⟩ : ByteArray)) t259 t260 t261 _ A18.out).mono ?_); rintro e w38 ⟨v262, rfl, ho0, hb⟩; refine ⟨_, rfl, ?_⟩; have n0_ := Aside0.mk (Kd.R_elder' (by (with_reducible repeat (first | apply Kd.R_alloc | apply Kd.R_drewN | apply Kd.R_drew)); exact HO256.out) (Kd.R_base ho0) hb); have n1_ := Aside0.mk (Kd.R_lower (Kd.R_new' ho0 (Kd.R_lt (by (with_reducible repeat (first | apply Kd.R_alloc | apply Kd.R_drewN | apply Kd.R_drew)); exact HO256.out))) (below_size (by repeat (first | (with_reducible first | exact HB.out | apply below_alloc | apply pw_below_drewN | apply below_drew1) | exact HB.out)))); have n2_ := Aside0.mk (below_step (by repeat (first | (with_reducible first | exact HB.out | apply below_alloc | apply pw_below_drewN | apply below_drew1) | exact HB.out)) hb); clear HO256; clear HB; have HO256 := n0_; have HO263 := n1_; have HB := n2_; clear n0_ n1_ n2_; (try clear hb); (try clear hb2); (try clear hk); (try clear hi); (try clear ho0); obtain ⟨Ao39, co39, eo39⟩ := Kd.R_slice HO256.out; subst eo39; have p264 : 0 ≤ (0 : Int) := (by omega); have q264 : 0 < (t252.length : Int) := of_decide_eq_true (by first | (with_reducible assumption) | assumption); obtain ⟨ad264, e264, hx264_0, hx264_1, hx264_2⟩ := at_T30 (Kd.R_reads' HO256.out).2.2 0 p264 q264; cases e264; have qi264 : (0 < t252.length) = True := eq_true (by omega); (try rw [show ((0 : Int)).toNat = 0 from rfl] at hx264_0); (try rw [show 0 * 3 = 0 from rfl] at hx264_0); (try rw [Addr.add_zero'] at hx264_0); (try rw [show ((0 : Int)).toNat = 0 from rfl] at hx264_1); (try rw [show 0 * 3 = 0 from rfl] at hx264_1); (try rw [Addr.add_zero'] at hx264_1); (try rw [show ((0 : Int)).toNat = 0 from rfl] at hx264_2); (try rw [show 0 * 3 = 0 from rfl] at hx264_2); (try rw [Addr.add_zero'] at hx264_2); replace p264 := eq_true p264; replace q264 := eq_true q264))
                                    go_ret
                                    exact ⟨by first | rfl | (simp [errW_none, errW_some] <;> rfl) | (simp [*, errW_none, errW_some] <;> rfl), by repeat (first | (with_reducible first | exact HB.out | apply below_alloc | apply pw_below_drewN | apply below_drew1) | exact HB.out)⟩
                                · rw [if_neg c28] at H
                                  exact absurd H (by simp)
                              · rw [if_neg c27] at H
                                have c27b0 : ((t252.length : Int) == 1) = false := beq_eq_false_iff_ne.mpr c27
                                have c27b1 : ((t252.length : Int) != 1) = true := bne_iff_ne.mpr c27
                                obtain rfl := Option.some.inj H
                                go_wp2_with (first | ((with_reducible refine gate_callee (f := 13) rfl ?_); refine goesL_ (some 37) rfl rfl Try.func13 (by kernel_rfl) rfl #[.string x4_10] rfl (by (try simp only [List.map_toArray, List.map_cons, List.map_nil]); first | done | rfl | (simp only [List.length_drop, List.length_take]; rfl)) ?_; (with_reducible refine (token_Number.calls x4_10 t250 true _ A13.out).mono ?_); rintro e w' ⟨rfl, ⟨nd, rfl⟩⟩; refine ⟨_, rfl, ?_⟩) | ((with_reducible refine gate_callee (f := 10) rfl ?_); refine goesL_ (some 42) rfl rfl Try.func10 (by kernel_rfl) rfl #[.string x4_10] rfl (by (try simp only [List.map_toArray, List.map_cons, List.map_nil]); first | done | rfl | (simp only [List.length_drop, List.length_take]; rfl)) ?_; (with_reducible refine (token_Lex.calls x4_10 t252 t253 t254 _ A14.out).mono ?_); rintro e w40 ⟨v255, rfl, ho0, hb⟩; refine ⟨_, rfl, ?_⟩; have n0_ := Aside0.mk (Kd.R_lower ho0 (below_size (by repeat (first | (with_reducible first | exact HB.out | apply below_alloc | apply pw_below_drewN | apply below_drew1) | exact HB.out)))); have n1_ := Aside0.mk (below_step (by repeat (first | (with_reducible first | exact HB.out | apply below_alloc | apply pw_below_drewN | apply below_drew1) | exact HB.out)) hb); clear HB; have HO256 := n0_; have HB := n1_; clear n0_ n1_; (try clear hb); (try clear hb2); (try clear hk); (try clear hi); (try clear ho0)) | ((with_reducible refine gate_callee (f := 13) rfl ?_); refine goesL_ (some 49) rfl rfl Try.func13 (by kernel_rfl) rfl #[.string ((⟨#[48]⟩ : ByteArray) ++ x4_10)] rfl (by (try simp only [List.map_toArray, List.map_cons, List.map_nil]); first | done | rfl | (simp only [List.length_drop, List.length_take]; rfl)) ?_; (with_reducible refine (token_Number.calls ((⟨#[48]⟩ : ByteArray) ++ x4_10) t257 false _ A16.out).mono ?_); rintro e w' ⟨rfl, ⟨nd, rfl⟩⟩; refine ⟨_, rfl, ?_⟩) | ((with_reducible refine gate_callee (f := 10) rfl ?_); refine goesL_ (some 55) rfl rfl Try.func10 (by kernel_rfl) rfl #[.string (x4_10 ++ (⟨#[97]⟩ : ByteArray))] rfl (by (try simp only [List.map_toArray, List.map_cons, List.map_nil]); first | done | rfl | (simp only [List.length_drop, List.length_take]; rfl)) ?_; (with_reducible refine (token_Lex.calls (x4_10 ++ (⟨#[97]⟩ : ByteArray)) t259 t260 t261 _ A18.out).mono ?_); rintro e w41 ⟨v262, rfl, ho0, hb⟩; refine ⟨_, rfl, ?_⟩; have n0_ := Aside0.mk (Kd.R_elder' (by (with_reducible repeat (first | apply Kd.R_alloc | apply Kd.R_drewN | apply Kd.R_drew)); exact HO256.out) (Kd.R_base ho0) hb); have n1_ := Aside0.mk (Kd.R_lower (Kd.R_new' ho0 (Kd.R_lt (by (with_reducible repeat (first | apply Kd.R_alloc | apply Kd.R_drewN | apply Kd.R_drew)); exact HO256.out))) (below_size (by repeat (first | (with_reducible first | exact HB.out | apply below_alloc | apply pw_below_drewN | apply below_drew1) | exact HB.out)))); have n2_ := Aside0.mk (below_step (by repeat (first | (with_reducible first | exact HB.out | apply below_alloc | apply pw_below_drewN | apply below_drew1) | exact HB.out)) hb); clear HO256; clear HB; have HO256 := n0_; have HO263 := n1_; have HB := n2_; clear n0_ n1_ n2_; (try clear hb); (try clear hb2); (try clear hk); (try clear hi); (try clear ho0); obtain ⟨Ao42, co42, eo42⟩ := Kd.R_slice HO256.out; subst eo42))
                                go_ret
                                exact ⟨by first | rfl | (simp [errW_none, errW_some] <;> rfl) | (simp [*, errW_none, errW_some] <;> rfl), by repeat (first | (with_reducible first | exact HB.out | apply below_alloc | apply pw_below_drewN | apply below_drew1) | exact HB.out)⟩
                            · rw [if_neg c26] at H
                              have c26b0 : (t253 == (x4_10.size : Int)) = false := beq_eq_false_iff_ne.mpr c26
                              have c26b1 : (t253 != (x4_10.size : Int)) = true := bne_iff_ne.mpr c26
                              obtain rfl := Option.some.inj H
                              go_wp2_with (first | ((with_reducible refine gate_callee (f := 13) rfl ?_); refine goesL_ (some 37) rfl rfl Try.func13 (by kernel_rfl) rfl #[.string x4_10] rfl (by (try simp only [List.map_toArray, List.map_cons, List.map_nil]); first | done | rfl | (simp only [List.length_drop, List.length_take]; rfl)) ?_; (with_reducible refine (token_Number.calls x4_10 t250 true _ A13.out).mono ?_); rintro e w' ⟨rfl, ⟨nd, rfl⟩⟩; refine ⟨_, rfl, ?_⟩) | ((with_reducible refine gate_callee (f := 10) rfl ?_); refine goesL_ (some 42) rfl rfl Try.func10 (by kernel_rfl) rfl #[.string x4_10] rfl (by (try simp only [List.map_toArray, List.map_cons, List.map_nil]); first | done | rfl | (simp only [List.length_drop, List.length_take]; rfl)) ?_; (with_reducible refine (token_Lex.calls x4_10 t252 t253 t254 _ A14.out).mono ?_); rintro e w43 ⟨v255, rfl, ho0, hb⟩; refine ⟨_, rfl, ?_⟩; have n0_ := Aside0.mk (Kd.R_lower ho0 (below_size (by repeat (first | (with_reducible first | exact HB.out | apply below_alloc | apply pw_below_drewN | apply below_drew1) | exact HB.out)))); have n1_ := Aside0.mk (below_step (by repeat (first | (with_reducible first | exact HB.out | apply below_alloc | apply pw_below_drewN | apply below_drew1) | exact HB.out)) hb); clear HB; have HO256 := n0_; have HB := n1_; clear n0_ n1_; (try clear hb); (try clear hb2); (try clear hk); (try clear hi); (try clear ho0)) | ((with_reducible refine gate_callee (f := 13) rfl ?_); refine goesL_ (some 49) rfl rfl Try.func13 (by kernel_rfl) rfl #[.string ((⟨#[48]⟩ : ByteArray) ++ x4_10)] rfl (by (try simp only [List.map_toArray, List.map_cons, List.map_nil]); first | done | rfl | (simp only [List.length_drop, List.length_take]; rfl)) ?_; (with_reducible refine (token_Number.calls ((⟨#[48]⟩ : ByteArray) ++ x4_10) t257 false _ A16.out).mono ?_); rintro e w' ⟨rfl, ⟨nd, rfl⟩⟩; refine ⟨_, rfl, ?_⟩) | ((with_reducible refine gate_callee (f := 10) rfl ?_); refine goesL_ (some 55) rfl rfl Try.func10 (by kernel_rfl) rfl #[.string (x4_10 ++ (⟨#[97]⟩ : ByteArray))] rfl (by (try simp only [List.map_toArray, List.map_cons, List.map_nil]); first | done | rfl | (simp only [List.length_drop, List.length_take]; rfl)) ?_; (with_reducible refine (token_Lex.calls (x4_10 ++ (⟨#[97]⟩ : ByteArray)) t259 t260 t261 _ A18.out).mono ?_); rintro e w44 ⟨v262, rfl, ho0, hb⟩; refine ⟨_, rfl, ?_⟩; have n0_ := Aside0.mk (Kd.R_elder' (by (with_reducible repeat (first | apply Kd.R_alloc | apply Kd.R_drewN | apply Kd.R_drew)); exact HO256.out) (Kd.R_base ho0) hb); have n1_ := Aside0.mk (Kd.R_lower (Kd.R_new' ho0 (Kd.R_lt (by (with_reducible repeat (first | apply Kd.R_alloc | apply Kd.R_drewN | apply Kd.R_drew)); exact HO256.out))) (below_size (by repeat (first | (with_reducible first | exact HB.out | apply below_alloc | apply pw_below_drewN | apply below_drew1) | exact HB.out)))); have n2_ := Aside0.mk (below_step (by repeat (first | (with_reducible first | exact HB.out | apply below_alloc | apply pw_below_drewN | apply below_drew1) | exact HB.out)) hb); clear HO256; clear HB; have HO256 := n0_; have HO263 := n1_; have HB := n2_; clear n0_ n1_ n2_; (try clear hb); (try clear hb2); (try clear hk); (try clear hi); (try clear ho0)))
                              go_ret
                              exact ⟨by first | rfl | (simp [errW_none, errW_some] <;> rfl) | (simp [*, errW_none, errW_some] <;> rfl), by repeat (first | (with_reducible first | exact HB.out | apply below_alloc | apply pw_below_drewN | apply below_drew1) | exact HB.out)⟩
                          · rw [if_neg c25] at H
                            have c25b0 : (t254 == 0) = false := beq_eq_false_iff_ne.mpr c25
                            have c25b1 : (t254 != 0) = true := bne_iff_ne.mpr c25
                            obtain rfl := Option.some.inj H
                            go_wp2_with (first | ((with_reducible refine gate_callee (f := 13) rfl ?_); refine goesL_ (some 37) rfl rfl Try.func13 (by kernel_rfl) rfl #[.string x4_10] rfl (by (try simp only [List.map_toArray, List.map_cons, List.map_nil]); first | done | rfl | (simp only [List.length_drop, List.length_take]; rfl)) ?_; (with_reducible refine (token_Number.calls x4_10 t250 true _ A13.out).mono ?_); rintro e w' ⟨rfl, ⟨nd, rfl⟩⟩; refine ⟨_, rfl, ?_⟩) | ((with_reducible refine gate_callee (f := 10) rfl ?_); refine goesL_ (some 42) rfl rfl Try.func10 (by kernel_rfl) rfl #[.string x4_10] rfl (by (try simp only [List.map_toArray, List.map_cons, List.map_nil]); first | done | rfl | (simp only [List.length_drop, List.length_take]; rfl)) ?_; (with_reducible refine (token_Lex.calls x4_10 t252 t253 t254 _ A14.out).mono ?_); rintro e w45 ⟨v255, rfl, ho0, hb⟩; refine ⟨_, rfl, ?_⟩; have n0_ := Aside0.mk (Kd.R_lower ho0 (below_size (by repeat (first | (with_reducible first | exact HB.out | apply below_alloc | apply pw_below_drewN | apply below_drew1) | exact HB.out)))); have n1_ := Aside0.mk (below_step (by repeat (first | (with_reducible first | exact HB.out | apply below_alloc | apply pw_below_drewN | apply below_drew1) | exact HB.out)) hb); clear HB; have HO256 := n0_; have HB := n1_; clear n0_ n1_; (try clear hb); (try clear hb2); (try clear hk); (try clear hi); (try clear ho0)) | ((with_reducible refine gate_callee (f := 13) rfl ?_); refine goesL_ (some 49) rfl rfl Try.func13 (by kernel_rfl) rfl #[.string ((⟨#[48]⟩ : ByteArray) ++ x4_10)] rfl (by (try simp only [List.map_toArray, List.map_cons, List.map_nil]); first | done | rfl | (simp only [List.length_drop, List.length_take]; rfl)) ?_; (with_reducible refine (token_Number.calls ((⟨#[48]⟩ : ByteArray) ++ x4_10) t257 false _ A16.out).mono ?_); rintro e w' ⟨rfl, ⟨nd, rfl⟩⟩; refine ⟨_, rfl, ?_⟩) | ((with_reducible refine gate_callee (f := 10) rfl ?_); refine goesL_ (some 55) rfl rfl Try.func10 (by kernel_rfl) rfl #[.string (x4_10 ++ (⟨#[97]⟩ : ByteArray))] rfl (by (try simp only [List.map_toArray, List.map_cons, List.map_nil]); first | done | rfl | (simp only [List.length_drop, List.length_take]; rfl)) ?_; (with_reducible refine (token_Lex.calls (x4_10 ++ (⟨#[97]⟩ : ByteArray)) t259 t260 t261 _ A18.out).mono ?_); rintro e w46 ⟨v262, rfl, ho0, hb⟩; refine ⟨_, rfl, ?_⟩; have n0_ := Aside0.mk (Kd.R_elder' (by (with_reducible repeat (first | apply Kd.R_alloc | apply Kd.R_drewN | apply Kd.R_drew)); exact HO256.out) (Kd.R_base ho0) hb); have n1_ := Aside0.mk (Kd.R_lower (Kd.R_new' ho0 (Kd.R_lt (by (with_reducible repeat (first | apply Kd.R_alloc | apply Kd.R_drewN | apply Kd.R_drew)); exact HO256.out))) (below_size (by repeat (first | (with_reducible first | exact HB.out | apply below_alloc | apply pw_below_drewN | apply below_drew1) | exact HB.out)))); have n2_ := Aside0.mk (below_step (by repeat (first | (with_reducible first | exact HB.out | apply below_alloc | apply pw_below_drewN | apply below_drew1) | exact HB.out)) hb); clear HO256; clear HB; have HO256 := n0_; have HO263 := n1_; have HB := n2_; clear n0_ n1_ n2_; (try clear hb); (try clear hb2); (try clear hk); (try clear hi); (try clear ho0)))
                            go_ret
                            exact ⟨by first | rfl | (simp [errW_none, errW_some] <;> rfl) | (simp [*, errW_none, errW_some] <;> rfl), by repeat (first | (with_reducible first | exact HB.out | apply below_alloc | apply pw_below_drewN | apply below_drew1) | exact HB.out)⟩
                      · rw [if_neg c21] at H
                        have c21b0 : (t250 == a0) = false := beq_eq_false_iff_ne.mpr c21
                        have c21b1 : (t250 != a0) = true := bne_iff_ne.mpr c21
                        obtain rfl := Option.some.inj H
                        go_wp2_with (first | ((with_reducible refine gate_callee (f := 13) rfl ?_); refine goesL_ (some 37) rfl rfl Try.func13 (by kernel_rfl) rfl #[.string x4_10] rfl (by (try simp only [List.map_toArray, List.map_cons, List.map_nil]); first | done | rfl | (simp only [List.length_drop, List.length_take]; rfl)) ?_; (with_reducible refine (token_Number.calls x4_10 t250 true _ A13.out).mono ?_); rintro e w' ⟨rfl, ⟨nd, rfl⟩⟩; refine ⟨_, rfl, ?_⟩) | ((with_reducible refine gate_callee (f := 10) rfl ?_); refine goesL_ (some 42) rfl rfl Try.func10 (by kernel_rfl) rfl #[.string x4_10] rfl (by (try simp only [List.map_toArray, List.map_cons, List.map_nil]); first | done | rfl | (simp only [List.length_drop, List.length_take]; rfl)) ?_; (with_reducible refine (token_Lex.calls x4_10 t252 t253 t254 _ A14.out).mono ?_); rintro e w47 ⟨v255, rfl, ho0, hb⟩; refine ⟨_, rfl, ?_⟩; have n0_ := Aside0.mk (Kd.R_lower ho0 (below_size (by repeat (first | (with_reducible first | exact HB.out | apply below_alloc | apply pw_below_drewN | apply below_drew1) | exact HB.out)))); have n1_ := Aside0.mk (below_step (by repeat (first | (with_reducible first | exact HB.out | apply below_alloc | apply pw_below_drewN | apply below_drew1) | exact HB.out)) hb); clear HB; have HO256 := n0_; have HB := n1_; clear n0_ n1_; (try clear hb); (try clear hb2); (try clear hk); (try clear hi); (try clear ho0)) | ((with_reducible refine gate_callee (f := 13) rfl ?_); refine goesL_ (some 49) rfl rfl Try.func13 (by kernel_rfl) rfl #[.string ((⟨#[48]⟩ : ByteArray) ++ x4_10)] rfl (by (try simp only [List.map_toArray, List.map_cons, List.map_nil]); first | done | rfl | (simp only [List.length_drop, List.length_take]; rfl)) ?_; (with_reducible refine (token_Number.calls ((⟨#[48]⟩ : ByteArray) ++ x4_10) t257 t258 _ A16.out).mono ?_); rintro e w' ⟨rfl, ⟨nd, rfl⟩⟩; refine ⟨_, rfl, ?_⟩) | ((with_reducible refine gate_callee (f := 10) rfl ?_); refine goesL_ (some 55) rfl rfl Try.func10 (by kernel_rfl) rfl #[.string (x4_10 ++ (⟨#[97]⟩ : ByteArray))] rfl (by (try simp only [List.map_toArray, List.map_cons, List.map_nil]); first | done | rfl | (simp only [List.length_drop, List.length_take]; rfl)) ?_; (with_reducible refine (token_Lex.calls (x4_10 ++ (⟨#[97]⟩ : ByteArray)) t259 t260 t261 _ A18.out).mono ?_); rintro e w48 ⟨v262, rfl, ho0, hb⟩; refine ⟨_, rfl, ?_⟩; have n0_ := Aside0.mk (Kd.R_elder' (by (with_reducible repeat (first | apply Kd.R_alloc | apply Kd.R_drewN | apply Kd.R_drew)); exact HO256.out) (Kd.R_base ho0) hb); have n1_ := Aside0.mk (Kd.R_lower (Kd.R_new' ho0 (Kd.R_lt (by (with_reducible repeat (first | apply Kd.R_alloc | apply Kd.R_drewN | apply Kd.R_drew)); exact HO256.out))) (below_size (by repeat (first | (with_reducible first | exact HB.out | apply below_alloc | apply pw_below_drewN | apply below_drew1) | exact HB.out)))); have n2_ := Aside0.mk (below_step (by repeat (first | (with_reducible first | exact HB.out | apply below_alloc | apply pw_below_drewN | apply below_drew1) | exact HB.out)) hb); clear HO256; clear HB; have HO256 := n0_; have HO263 := n1_; have HB := n2_; clear n0_ n1_ n2_; (try clear hb); (try clear hb2); (try clear hk); (try clear hi); (try clear ho0)))
                        go_ret
                        exact ⟨by first | rfl | (simp [errW_none, errW_some] <;> rfl) | (simp [*, errW_none, errW_some] <;> rfl), by repeat (first | (with_reducible first | exact HB.out | apply below_alloc | apply pw_below_drewN | apply below_drew1) | exact HB.out)⟩
                    · replace c20 := Bool.eq_false_iff.mpr c20
                      subst c20
                      have H1 : (some false) = some r := by rw [if_neg (show ¬ (false = true) by decide)] at H; exact H
                      clear H
                      have H := H1
                      clear H1
                      obtain rfl := Option.some.inj H
                      go_wp2_with (first | ((with_reducible refine gate_callee (f := 13) rfl ?_); refine goesL_ (some 37) rfl rfl Try.func13 (by kernel_rfl) rfl #[.string x4_10] rfl (by (try simp only [List.map_toArray, List.map_cons, List.map_nil]); first | done | rfl | (simp only [List.length_drop, List.length_take]; rfl)) ?_; (with_reducible refine (token_Number.calls x4_10 t250 false _ A13.out).mono ?_); rintro e w' ⟨rfl, ⟨nd, rfl⟩⟩; refine ⟨_, rfl, ?_⟩) | ((with_reducible refine gate_callee (f := 10) rfl ?_); refine goesL_ (some 42) rfl rfl Try.func10 (by kernel_rfl) rfl #[.string x4_10] rfl (by (try simp only [List.map_toArray, List.map_cons, List.map_nil]); first | done | rfl | (simp only [List.length_drop, List.length_take]; rfl)) ?_; (with_reducible refine (token_Lex.calls x4_10 t252 t253 t254 _ A14.out).mono ?_); rintro e w49 ⟨v255, rfl, ho0, hb⟩; refine ⟨_, rfl, ?_⟩; have n0_ := Aside0.mk (Kd.R_lower ho0 (below_size (by repeat (first | (with_reducible first | exact HB.out | apply below_alloc | apply pw_below_drewN | apply below_drew1) | exact HB.out)))); have n1_ := Aside0.mk (below_step (by repeat (first | (with_reducible first | exact HB.out | apply below_alloc | apply pw_below_drewN | apply below_drew1) | exact HB.out)) hb); clear HB; have HO256 := n0_; have HB := n1_; clear n0_ n1_; (try clear hb); (try clear hb2); (try clear hk); (try clear hi); (try clear ho0)) | ((with_reducible refine gate_callee (f := 13) rfl ?_); refine goesL_ (some 49) rfl rfl Try.func13 (by kernel_rfl) rfl #[.string ((⟨#[48]⟩ : ByteArray) ++ x4_10)] rfl (by (try simp only [List.map_toArray, List.map_cons, List.map_nil]); first | done | rfl | (simp only [List.length_drop, List.length_take]; rfl)) ?_; (with_reducible refine (token_Number.calls ((⟨#[48]⟩ : ByteArray) ++ x4_10) t257 t258 _ A16.out).mono ?_); rintro e w' ⟨rfl, ⟨nd, rfl⟩⟩; refine ⟨_, rfl, ?_⟩) | ((with_reducible refine gate_callee (f := 10) rfl ?_); refine goesL_ (some 55) rfl rfl Try.func10 (by kernel_rfl) rfl #[.string (x4_10 ++ (⟨#[97]⟩ : ByteArray))] rfl (by (try simp only [List.map_toArray, List.map_cons, List.map_nil]); first | done | rfl | (simp only [List.length_drop, List.length_take]; rfl)) ?_; (with_reducible refine (token_Lex.calls (x4_10 ++ (⟨#[97]⟩ : ByteArray)) t259 t260 t261 _ A18.out).mono ?_); rintro e w50 ⟨v262, rfl, ho0, hb⟩; refine ⟨_, rfl, ?_⟩; have n0_ := Aside0.mk (Kd.R_elder' (by (with_reducible repeat (first | apply Kd.R_alloc | apply Kd.R_drewN | apply Kd.R_drew)); exact HO256.out) (Kd.R_base ho0) hb); have n1_ := Aside0.mk (Kd.R_lower (Kd.R_new' ho0 (Kd.R_lt (by (with_reducible repeat (first | apply Kd.R_alloc | apply Kd.R_drewN | apply Kd.R_drew)); exact HO256.out))) (below_size (by repeat (first | (with_reducible first | exact HB.out | apply below_alloc | apply pw_below_drewN | apply below_drew1) | exact HB.out)))); have n2_ := Aside0.mk (below_step (by repeat (first | (with_reducible first | exact HB.out | apply below_alloc | apply pw_below_drewN | apply below_drew1) | exact HB.out)) hb); clear HO256; clear HB; have HO256 := n0_; have HO263 := n1_; have HB := n2_; clear n0_ n1_ n2_; (try clear hb); (try clear hb2); (try clear hk); (try clear hi); (try clear ho0)))
                      go_ret
                      exact ⟨by first | rfl | (simp [errW_none, errW_some] <;> rfl) | (simp [*, errW_none, errW_some] <;> rfl), by repeat (first | (with_reducible first | exact HB.out | apply below_alloc | apply pw_below_drewN | apply below_drew1) | exact HB.out)⟩
                  · replace c19 := Bool.eq_false_iff.mpr c19
                    subst c19
                    have H1 : (some false) = some r := by rw [if_neg (show ¬ (false = true) by decide)] at H; exact H
                    clear H
                    have H := H1
                    clear H1
                    obtain rfl := Option.some.inj H
                    go_wp2_with (first | ((with_reducible refine gate_callee (f := 13) rfl ?_); refine goesL_ (some 37) rfl rfl Try.func13 (by kernel_rfl) rfl #[.string x4_10] rfl (by (try simp only [List.map_toArray, List.map_cons, List.map_nil]); first | done | rfl | (simp only [List.length_drop, List.length_take]; rfl)) ?_; (with_reducible refine (token_Number.calls x4_10 t250 t251 _ A13.out).mono ?_); rintro e w' ⟨rfl, ⟨nd, rfl⟩⟩; refine ⟨_, rfl, ?_⟩) | ((with_reducible refine gate_callee (f := 10) rfl ?_); refine goesL_ (some 42) rfl rfl Try.func10 (by kernel_rfl) rfl #[.string x4_10] rfl (by (try simp only [List.map_toArray, List.map_cons, List.map_nil]); first | done | rfl | (simp only [List.length_drop, List.length_take]; rfl)) ?_; (with_reducible refine (token_Lex.calls x4_10 t252 t253 t254 _ A14.out).mono ?_); rintro e w51 ⟨v255, rfl, ho0, hb⟩; refine ⟨_, rfl, ?_⟩; have n0_ := Aside0.mk (Kd.R_lower ho0 (below_size (by repeat (first | (with_reducible first | exact HB.out | apply below_alloc | apply pw_below_drewN | apply below_drew1) | exact HB.out)))); have n1_ := Aside0.mk (below_step (by repeat (first | (with_reducible first | exact HB.out | apply below_alloc | apply pw_below_drewN | apply below_drew1) | exact HB.out)) hb); clear HB; have HO256 := n0_; have HB := n1_; clear n0_ n1_; (try clear hb); (try clear hb2); (try clear hk); (try clear hi); (try clear ho0)) | ((with_reducible refine gate_callee (f := 13) rfl ?_); refine goesL_ (some 49) rfl rfl Try.func13 (by kernel_rfl) rfl #[.string ((⟨#[48]⟩ : ByteArray) ++ x4_10)] rfl (by (try simp only [List.map_toArray, List.map_cons, List.map_nil]); first | done | rfl | (simp only [List.length_drop, List.length_take]; rfl)) ?_; (with_reducible refine (token_Number.calls ((⟨#[48]⟩ : ByteArray) ++ x4_10) t257 t258 _ A16.out).mono ?_); rintro e w' ⟨rfl, ⟨nd, rfl⟩⟩; refine ⟨_, rfl, ?_⟩) | ((with_reducible refine gate_callee (f := 10) rfl ?_); refine goesL_ (some 55) rfl rfl Try.func10 (by kernel_rfl) rfl #[.string (x4_10 ++ (⟨#[97]⟩ : ByteArray))] rfl (by (try simp only [List.map_toArray, List.map_cons, List.map_nil]); first | done | rfl | (simp only [List.length_drop, List.length_take]; rfl)) ?_; (with_reducible refine (token_Lex.calls (x4_10 ++ (⟨#[97]⟩ : ByteArray)) t259 t260 t261 _ A18.out).mono ?_); rintro e w52 ⟨v262, rfl, ho0, hb⟩; refine ⟨_, rfl, ?_⟩; have n0_ := Aside0.mk (Kd.R_elder' (by (with_reducible repeat (first | apply Kd.R_alloc | apply Kd.R_drewN | apply Kd.R_drew)); exact HO256.out) (Kd.R_base ho0) hb); have n1_ := Aside0.mk (Kd.R_lower (Kd.R_new' ho0 (Kd.R_lt (by (with_reducible repeat (first | apply Kd.R_alloc | apply Kd.R_drewN | apply Kd.R_drew)); exact HO256.out))) (below_size (by repeat (first | (with_reducible first | exact HB.out | apply below_alloc | apply pw_below_drewN | apply below_drew1) | exact HB.out)))); have n2_ := Aside0.mk (below_step (by repeat (first | (with_reducible first | exact HB.out | apply below_alloc | apply pw_below_drewN | apply below_drew1) | exact HB.out)) hb); clear HO256; clear HB; have HO256 := n0_; have HO263 := n1_; have HB := n2_; clear n0_ n1_ n2_; (try clear hb); (try clear hb2); (try clear hk); (try clear hi); (try clear ho0)))
                    go_ret
                    exact ⟨by first | rfl | (simp [errW_none, errW_some] <;> rfl) | (simp [*, errW_none, errW_some] <;> rfl), by repeat (first | (with_reducible first | exact HB.out | apply below_alloc | apply pw_below_drewN | apply below_drew1) | exact HB.out)⟩
                · rw [if_neg c17] at H
                  exact absurd H (by simp)
              · rw [if_neg c15] at H
                exact absurd H (by simp)

/-- THE ONE PURE STATEMENT of swagelaw09_TokenNumbers: yours. -/
def swagelaw09_TokenNumbers.Pure : Prop := ∀ (a0 : Int), (Lit.int .i64 a0).wf = true → ∃ k, swagelaw09_TokenNumbers.f k a0 = some true
theorem swagelaw09_TokenNumbers.walk (P : swagelaw09_TokenNumbers.Pure) (a0 : Int) (w : World) (w0 : (Lit.int .i64 a0).wf = true) :
    Calls Try.prog 8 #[.int .i64 a0] w fun e w' => e = .returned (.bool true) ∧ Below w.heap.size w w' := by
  obtain ⟨k, h⟩ := P a0 w0
  refine (swagelaw09_TokenNumbers.calls k a0 true w h).mono ?_
  rintro e w' ⟨rfl, hd⟩
  exact ⟨rfl, hd⟩

end Go.Proofs.Ytpjoajoacakpgaa.Q
