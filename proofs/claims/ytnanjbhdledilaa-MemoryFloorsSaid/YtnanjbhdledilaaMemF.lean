/- The walk of MemoryFloors. -/
import Derived.Test.YtnanjbhdledilaaMemE
set_option linter.unusedVariables false
set_option linter.unusedSimpArgs false
namespace Go.Proofs.Ytnanjbhdledilaa.Mem
open Go Go.RowKit Go.Proofs.YtnanjbhdledilaaW.PrintWords Go.Proofs.YtnanjbhdledilaaW.PrintLast Go.Proofs.YtnanjbhdledilaaW.PrintMore
set_option maxHeartbeats 16000000 in
set_option maxRecDepth 100000 in
theorem floors_any (A : Option Addr) (cap : Nat) (zs : List Int) (v : Int) (w : World) (hz : Ints w A zs) : Calls Try.prog 5 #[.slice A zs.length cap, .int .i64 v] w fun e w' => e = .returned (.bool true) ∧ Below w.heap.size w w' := by
  have hsm := small_any w
  replace hz := Aside0.mk hz
  have hnew : ∀ w1, Below w.heap.size w w1 → Calls Try.prog 8 #[.int .i64 50] w1 fun e w' => ∃ g B, e = .returned (.tuple #[.pointer (some ⟨g, 0, none⟩), .int .i64 0]) ∧ St w w' g B (Mem.new 50) := fun w1 hb => new_St 50 (by decide) (by decide) hb
  by_cases h3 : 100 < zs.length
  · have d3 : decide ((100 : Int) < (zs.length : Int)) = true := decide_eq_true (by omega)
    clear h3
    go_enter Try.func5, Try.ntmps5
    go_wp2_with (first | (go_at_call 7; with_reducible refine hsm.mono ?_; rintro e w1 ⟨rfl, hb⟩) | (go_at_call 8; with_reducible refine (hnew _ hb).mono ?_; rintro e w2 ⟨g, B, rfl, h1⟩; have HI := Aside0.mk h1; clear h1))
    go_ret
    exact ⟨rfl, HI.out.be⟩
  have d3 : decide ((100 : Int) < (zs.length : Int)) = false := decide_eq_false (by omega)
  have HN := Aside0.mk (show zs.length ≤ 100 from by omega)
  have hal : ∀ g B W, St w W g B (Mem.new 50) → Calls Try.prog 14 #[.pointer (some ⟨g, 0, none⟩), .int .i64 9] W fun e w' => e = .returned (.tuple #[.int .i64 1, .int .i64 0]) ∧ ∃ M, St w w' g B M ∧ M.h = 10 ∧ M.n = 50 ∧ M.f = 50 := fun g B W h => (h.alloc 9).mono fun e w' ⟨h1, h2⟩ => ⟨h1, _, h2, rfl, rfl, rfl⟩
  clear h3
  go_enter Try.func5, Try.ntmps5
  go_wp2_with (first | (go_at_call 7; with_reducible refine hsm.mono ?_; rintro e w1 ⟨rfl, hb⟩) | (go_at_call 8; with_reducible refine (hnew _ hb).mono ?_; rintro e w2 ⟨g, B, rfl, h1⟩; have HI := Aside0.mk h1; clear h1) | (go_at_call 14; with_reducible refine (hal _ _ _ HI.out).mono ?_; rintro e w3 ⟨rfl, M0, h1, h2, h3, h4⟩; clear HI; have HI := Aside0.mk h1; have HM := Aside0.mk (show M0.h = 10 ∧ M0.n = 50 ∧ ∀ i, M0.f ≤ i → i < 50 → M0.c i = v from ⟨h2, h3, fun i a b => absurd a (by omega)⟩); clear h1 h2 h3 h4))
  clear hsm hnew hal d3 hb
  go_loopw [8] (fun v8 wr => ∃ (k : Nat) (M : Mem), k ≤ zs.length ∧ v8 = .int .i64 k ∧ Aside0 (St w wr g B M) ∧ Aside0 (M.h = 10 ∧ M.n = 50 ∧ ∀ i, M.f ≤ i → i < 50 → M.c i = v)) (fun v8 _ => zs.length - (intOf v8).toNat)
  case atStart => exact ⟨0, M0, Nat.zero_le _, rfl, HI, HM⟩
  case round =>
    clear HI HM
    obtain ⟨k, M, hk, rfl, HI, HM⟩ := hrel
    by_cases hlt : k < zs.length
    · obtain ⟨x, rfl, hx⟩ := hz.out.at HI.out.be k hlt
      have lk1 : (k : Int) < (zs.length : Int) := by omega
      have lk0 : (0 : Int) ≤ (k : Int) := by omega
      have hk100 : k ≤ 4611686018427387904 := by have := HN.out; omega
      have hstep := Aside0.mk (wone hk100)
      clear hk100
      obtain ⟨s, hs⟩ : ∃ s, zs[k] = s := ⟨_, rfl⟩
      rw [hs] at hx
      have HX : Aside0 (∀ W, Below w.heap.size w W → W.cell? (x.add k) = some (.int .i64 s)) := Aside0.mk (fun W hb => by
        obtain ⟨x', hx0, hx'⟩ := hz.out.at hb k hlt
        cases hx0
        rw [hs] at hx'
        exact hx')
      obtain ⟨o1, o2, o3, o4⟩ := HI.out.ok
      obtain ⟨m1, m2, m3⟩ := HM.out
      have hF : ∀ W, St w W g B M → Calls Try.prog 12 #[.pointer (some ⟨g, 0, none⟩)] W fun e w' => e = .returned (.int .i64 M.f) ∧ St w w' g B M := fun W h => h.floor
      have hS : ∀ W, St w W g B M → Calls Try.prog 17 #[.pointer (some ⟨g, 0, none⟩), .int .i64 s] W fun e w' => e = .returned (.int .i64 (M.setFloorE s)) ∧ St w w' g B (M.setFloor s) := fun W h => h.setFloor s
      by_cases hs1 : s < 10
      · have d1 : decide (10 ≤ s) = false := decide_eq_false (by omega)
        have e1 : M.setFloorE s = 8 := by unfold Mem.setFloorE; rw [if_pos (by omega)]
        have e2 : M.setFloor s = M := by unfold Mem.setFloor; rw [if_pos (by omega)]
        rw [e1, e2] at hS
        have HP : Aside0 (M.h = 10 ∧ M.n = 50 ∧ M.f ≤ 50 ∧ 10 ≤ M.f ∧ ∀ i, M.f ≤ i → i < 50 → (i < M.f → M.c i = 0) ∧ (M.f ≤ i → M.c i = v)) := Aside0.mk ⟨m1, m2, by omega, by omega, fun i h1 h2 => ⟨fun h => absurd h1 (by omega), fun _ => m3 i h1 h2⟩⟩
        have hlt' := Aside0.mk hlt
        clear hlt hk o1 o2 o3 o4 hs m1 m2 m3 e1 e2 hs1
        go_wp2_with (first | (go_at_call 12; with_reducible refine (hF _ HI.out).mono ?_; rintro e w1 ⟨rfl, h1⟩; clear HI; have HI := Aside0.mk h1; clear h1; have hx2 := HX.out _ HI.out.be) | (go_at_call 17; with_reducible refine (hS _ HI.out).mono ?_; rintro e w1 ⟨rfl, h1⟩; clear HI; have HI := Aside0.mk h1; clear h1; have hx2 := HX.out _ HI.out.be))
        clear hF hS hx
        go_loopw [12] (fun v12 wr => ∃ (j : Nat) (M' : Mem), v12 = .int .i64 j ∧ Aside0 (St w wr g B M') ∧ Aside0 (M.f ≤ j ∧ j ≤ 50 ∧ M'.h = 10 ∧ M'.n = 50 ∧ M'.f = M.f ∧ (∀ i, M.f ≤ i → i < j → M'.c i = v) ∧ ∀ i, j ≤ i → i < 50 → (i < M.f → M'.c i = 0) ∧ (M.f ≤ i → M'.c i = v))) (fun v12 _ => 50 - (intOf v12).toNat)
        case atStart => exact ⟨M.f, M, rfl, HI, Aside0.mk ⟨Nat.le_refl _, HP.out.2.2.1, HP.out.1, HP.out.2.1, rfl, fun i h1 h2 => absurd h1 (by omega), HP.out.2.2.2.2⟩⟩
        case round =>
          clear HI
          obtain ⟨j, M', rfl, HI, HJ⟩ := hrel
          have hx := HX.out _ HI.out.be
          obtain ⟨j1, j2, j3, j4, j5, j6, j7⟩ := HJ.out
          by_cases hj : j < 50
          · have d5 : decide ((j : Int) < 50) = true := decide_eq_true (by omega)
            have d6 : decide (j < 50) = true := decide_eq_true hj
            have ht : M'.there j = true := decide_eq_true (.inr ⟨by omega, by rw [j4]; omega⟩)
            have e1 : M'.load j = (M'.c j, 0) := by
              unfold Mem.load; rw [if_pos ht, Int.toNat_natCast]
            have e2 : M'.storeE j = 0 := by unfold Mem.storeE; rw [if_pos ht]
            have e3 : M'.store j v = M'.put j v := by unfold Mem.store; rw [if_pos ht, Int.toNat_natCast]
            have HSt : ∀ W, St w W g B M' → Calls Try.prog 16 #[.pointer (some ⟨g, 0, none⟩), .int .i64 j, .int .i64 v] W fun e w' => e = .returned (.int .i64 0) ∧ St w w' g B (M'.put j v) := fun W h => by
              have := h.store j v
              rw [e2, e3] at this; exact this
            have hj62 : j ≤ 4611686018427387904 := by omega
            have hst2 := Aside0.mk (wone hj62)
            have HJ2 : Aside0 (M.f ≤ j + 1 ∧ j + 1 ≤ 50 ∧ (M'.put j v).h = 10 ∧ (M'.put j v).n = 50 ∧ (M'.put j v).f = M.f ∧ (∀ i, M.f ≤ i → i < j + 1 → (M'.put j v).c i = v) ∧ ∀ i, j + 1 ≤ i → i < 50 → (i < M.f → (M'.put j v).c i = 0) ∧ (M.f ≤ i → (M'.put j v).c i = v)) := Aside0.mk ⟨by omega, hj, j3, j4, j5, fun i h1 h2 => by
              show (if i = j then v else M'.c i) = v
              by_cases e : i = j
              · rw [if_pos e]
              · rw [if_neg e]; exact j6 i h1 (by omega), fun i h1 h2 => by
              show (i < M.f → (if i = j then v else M'.c i) = 0) ∧ (M.f ≤ i → (if i = j then v else M'.c i) = v)
              rw [if_neg (by omega)]; exact j7 i (by omega) h2⟩
            have hj' := Aside0.mk hj
            obtain ⟨q1, q2⟩ := j7 j (Nat.le_refl _) hj
            by_cases hw : j < M.f
            · have HLd : ∀ W, St w W g B M' → Calls Try.prog 15 #[.pointer (some ⟨g, 0, none⟩), .int .i64 j] W fun e w' => e = .returned (.tuple #[.int .i64 0, .int .i64 0]) ∧ St w w' g B M' := fun W h => by
                have := h.load j
                rw [e1, q1 hw] at this; exact this
              have d7 : decide ((j : Int) < (M.f : Int)) = true := decide_eq_true (by omega)
              have d8 : decide (j < M.f) = true := decide_eq_true hw
              have d9 : decide ((M.f : Int) ≤ (j : Int)) = false := decide_eq_false (by omega)
              have d10 : decide (M.f ≤ j) = false := decide_eq_false (by omega)
              clear j1 j2 j3 j4 j5 j6 j7 ht e1 e2 e3 hj62 hj HJ q1 q2 hw
              go_wp2_with (first | (go_at_call 15; with_reducible refine (HLd _ HI.out).mono ?_; rintro e w1 ⟨rfl, h1⟩; clear HI; have HI := Aside0.mk h1; clear h1) | (go_at_call 16; with_reducible refine (HSt _ HI.out).mono ?_; rintro e w1 ⟨rfl, h1⟩; clear HI; have HI := Aside0.mk h1; clear h1))
              go_roundw
              case rel => exact ⟨j + 1, _, by first | exact congrArg _ hst2.out | go_num, HI, HJ2⟩
              case measure => exact meas hj'.out hst2.out
            · have HLd : ∀ W, St w W g B M' → Calls Try.prog 15 #[.pointer (some ⟨g, 0, none⟩), .int .i64 j] W fun e w' => e = .returned (.tuple #[.int .i64 v, .int .i64 0]) ∧ St w w' g B M' := fun W h => by
                have := h.load j
                rw [e1, q2 (by omega)] at this; exact this
              have d7 : decide ((j : Int) < (M.f : Int)) = false := decide_eq_false (by omega)
              have d8 : decide (j < M.f) = false := decide_eq_false hw
              have d9 : decide ((M.f : Int) ≤ (j : Int)) = true := decide_eq_true (by omega)
              have d10 : decide (M.f ≤ j) = true := decide_eq_true (by omega)
              clear j1 j2 j3 j4 j5 j6 j7 ht e1 e2 e3 hj62 hj HJ q1 q2 hw
              go_wp2_with (first | (go_at_call 15; with_reducible refine (HLd _ HI.out).mono ?_; rintro e w1 ⟨rfl, h1⟩; clear HI; have HI := Aside0.mk h1; clear h1) | (go_at_call 16; with_reducible refine (HSt _ HI.out).mono ?_; rintro e w1 ⟨rfl, h1⟩; clear HI; have HI := Aside0.mk h1; clear h1))
              go_roundw
              case rel => exact ⟨j + 1, _, by first | exact congrArg _ hst2.out | go_num, HI, HJ2⟩
              case measure => exact meas hj'.out hst2.out
          · obtain rfl : j = 50 := by omega
            have HR : Aside0 (M'.h = 10 ∧ M'.n = 50 ∧ ∀ i, M'.f ≤ i → i < 50 → M'.c i = v) := Aside0.mk ⟨j3, j4, fun i h1 h2 => j6 i (by omega) h2⟩
            have b1 : -4611686018427387904 ≤ (M.f : Int) - 1 := by omega
            have b2 : (M.f : Int) - 1 ≤ 4611686018427387904 := by omega
            by_cases h10 : 10 < M.f
            · have d7 : decide ((10 : Int) < (M.f : Int)) = true := decide_eq_true (by omega)
              have d8 : decide (10 < M.f) = true := decide_eq_true h10
              have e1 : M'.load ((M.f : Int) - 1) = (0, 7) := by
                unfold Mem.load Mem.there
                rw [if_neg (by rw [j3, j4, j5]; simp; omega)]
              have HLd : ∀ W, St w W g B M' → Calls Try.prog 15 #[.pointer (some ⟨g, 0, none⟩), .int .i64 ((M.f : Int) - 1)] W fun e w' => e = .returned (.tuple #[.int .i64 0, .int .i64 7]) ∧ St w w' g B M' := fun W h => by
                have := h.load ((M.f : Int) - 1)
                rw [e1] at this; exact this
              have hw := wid b1 b2
              clear j1 j2 j3 j4 j5 j6 j7 hj HJ h10 b1 b2 e1
              go_wp2_with (first | (go_at_call 15; with_reducible refine (HLd _ HI.out).mono ?_; rintro e w1 ⟨rfl, h1⟩; clear HI; have HI := Aside0.mk h1; clear h1))
              clear hw
              go_roundw
              case rel => exact ⟨k + 1, M', hlt'.out, by first | exact congrArg _ hstep.out | go_num, HI, HR⟩
              case measure => exact meas hlt'.out hstep.out
            · have d7 : decide ((10 : Int) < (M.f : Int)) = false := decide_eq_false (by omega)
              have d8 : decide (10 < M.f) = false := decide_eq_false h10
              have HLd : ∀ W, St w W g B M' → Calls Try.prog 15 #[.pointer (some ⟨g, 0, none⟩), .int .i64 ((M.f : Int) - 1)] W fun e w' => e = .returned (.tuple #[.int .i64 (M'.load ((M.f : Int) - 1)).1, .int .i64 (M'.load ((M.f : Int) - 1)).2]) ∧ St w w' g B M' := fun W h => h.load _
              have hw := wid b1 b2
              clear j1 j2 j3 j4 j5 j6 j7 hj HJ h10 b1 b2
              go_wp2_with (first | (go_at_call 15; with_reducible refine (HLd _ HI.out).mono ?_; rintro e w1 ⟨rfl, h1⟩; clear HI; have HI := Aside0.mk h1; clear h1))
              clear hw
              go_roundw
              case rel => exact ⟨k + 1, M', hlt'.out, by first | exact congrArg _ hstep.out | go_num, HI, HR⟩
              case measure => exact meas hlt'.out hstep.out
      by_cases hs2 : 50 < s
      · have d1 : decide (10 ≤ s) = true := decide_eq_true (by omega)
        have d2 : decide (s ≤ 50) = false := decide_eq_false (by omega)
        have e1 : M.setFloorE s = 8 := by unfold Mem.setFloorE; rw [if_pos (by omega)]
        have e2 : M.setFloor s = M := by unfold Mem.setFloor; rw [if_pos (by omega)]
        rw [e1, e2] at hS
        have HP : Aside0 (M.h = 10 ∧ M.n = 50 ∧ M.f ≤ 50 ∧ 10 ≤ M.f ∧ ∀ i, M.f ≤ i → i < 50 → (i < M.f → M.c i = 0) ∧ (M.f ≤ i → M.c i = v)) := Aside0.mk ⟨m1, m2, by omega, by omega, fun i h1 h2 => ⟨fun h => absurd h1 (by omega), fun _ => m3 i h1 h2⟩⟩
        have hlt' := Aside0.mk hlt
        clear hlt hk o1 o2 o3 o4 hs m1 m2 m3 e1 e2 hs1 hs2
        go_wp2_with (first | (go_at_call 12; with_reducible refine (hF _ HI.out).mono ?_; rintro e w1 ⟨rfl, h1⟩; clear HI; have HI := Aside0.mk h1; clear h1; have hx2 := HX.out _ HI.out.be) | (go_at_call 17; with_reducible refine (hS _ HI.out).mono ?_; rintro e w1 ⟨rfl, h1⟩; clear HI; have HI := Aside0.mk h1; clear h1; have hx2 := HX.out _ HI.out.be))
        clear hF hS hx
        go_loopw [12] (fun v12 wr => ∃ (j : Nat) (M' : Mem), v12 = .int .i64 j ∧ Aside0 (St w wr g B M') ∧ Aside0 (M.f ≤ j ∧ j ≤ 50 ∧ M'.h = 10 ∧ M'.n = 50 ∧ M'.f = M.f ∧ (∀ i, M.f ≤ i → i < j → M'.c i = v) ∧ ∀ i, j ≤ i → i < 50 → (i < M.f → M'.c i = 0) ∧ (M.f ≤ i → M'.c i = v))) (fun v12 _ => 50 - (intOf v12).toNat)
        case atStart => exact ⟨M.f, M, rfl, HI, Aside0.mk ⟨Nat.le_refl _, HP.out.2.2.1, HP.out.1, HP.out.2.1, rfl, fun i h1 h2 => absurd h1 (by omega), HP.out.2.2.2.2⟩⟩
        case round =>
          clear HI
          obtain ⟨j, M', rfl, HI, HJ⟩ := hrel
          have hx := HX.out _ HI.out.be
          obtain ⟨j1, j2, j3, j4, j5, j6, j7⟩ := HJ.out
          by_cases hj : j < 50
          · have d5 : decide ((j : Int) < 50) = true := decide_eq_true (by omega)
            have d6 : decide (j < 50) = true := decide_eq_true hj
            have ht : M'.there j = true := decide_eq_true (.inr ⟨by omega, by rw [j4]; omega⟩)
            have e1 : M'.load j = (M'.c j, 0) := by
              unfold Mem.load; rw [if_pos ht, Int.toNat_natCast]
            have e2 : M'.storeE j = 0 := by unfold Mem.storeE; rw [if_pos ht]
            have e3 : M'.store j v = M'.put j v := by unfold Mem.store; rw [if_pos ht, Int.toNat_natCast]
            have HSt : ∀ W, St w W g B M' → Calls Try.prog 16 #[.pointer (some ⟨g, 0, none⟩), .int .i64 j, .int .i64 v] W fun e w' => e = .returned (.int .i64 0) ∧ St w w' g B (M'.put j v) := fun W h => by
              have := h.store j v
              rw [e2, e3] at this; exact this
            have hj62 : j ≤ 4611686018427387904 := by omega
            have hst2 := Aside0.mk (wone hj62)
            have HJ2 : Aside0 (M.f ≤ j + 1 ∧ j + 1 ≤ 50 ∧ (M'.put j v).h = 10 ∧ (M'.put j v).n = 50 ∧ (M'.put j v).f = M.f ∧ (∀ i, M.f ≤ i → i < j + 1 → (M'.put j v).c i = v) ∧ ∀ i, j + 1 ≤ i → i < 50 → (i < M.f → (M'.put j v).c i = 0) ∧ (M.f ≤ i → (M'.put j v).c i = v)) := Aside0.mk ⟨by omega, hj, j3, j4, j5, fun i h1 h2 => by
              show (if i = j then v else M'.c i) = v
              by_cases e : i = j
              · rw [if_pos e]
              · rw [if_neg e]; exact j6 i h1 (by omega), fun i h1 h2 => by
              show (i < M.f → (if i = j then v else M'.c i) = 0) ∧ (M.f ≤ i → (if i = j then v else M'.c i) = v)
              rw [if_neg (by omega)]; exact j7 i (by omega) h2⟩
            have hj' := Aside0.mk hj
            obtain ⟨q1, q2⟩ := j7 j (Nat.le_refl _) hj
            by_cases hw : j < M.f
            · have HLd : ∀ W, St w W g B M' → Calls Try.prog 15 #[.pointer (some ⟨g, 0, none⟩), .int .i64 j] W fun e w' => e = .returned (.tuple #[.int .i64 0, .int .i64 0]) ∧ St w w' g B M' := fun W h => by
                have := h.load j
                rw [e1, q1 hw] at this; exact this
              have d7 : decide ((j : Int) < (M.f : Int)) = true := decide_eq_true (by omega)
              have d8 : decide (j < M.f) = true := decide_eq_true hw
              have d9 : decide ((M.f : Int) ≤ (j : Int)) = false := decide_eq_false (by omega)
              have d10 : decide (M.f ≤ j) = false := decide_eq_false (by omega)
              clear j1 j2 j3 j4 j5 j6 j7 ht e1 e2 e3 hj62 hj HJ q1 q2 hw
              go_wp2_with (first | (go_at_call 15; with_reducible refine (HLd _ HI.out).mono ?_; rintro e w1 ⟨rfl, h1⟩; clear HI; have HI := Aside0.mk h1; clear h1) | (go_at_call 16; with_reducible refine (HSt _ HI.out).mono ?_; rintro e w1 ⟨rfl, h1⟩; clear HI; have HI := Aside0.mk h1; clear h1))
              go_roundw
              case rel => exact ⟨j + 1, _, by first | exact congrArg _ hst2.out | go_num, HI, HJ2⟩
              case measure => exact meas hj'.out hst2.out
            · have HLd : ∀ W, St w W g B M' → Calls Try.prog 15 #[.pointer (some ⟨g, 0, none⟩), .int .i64 j] W fun e w' => e = .returned (.tuple #[.int .i64 v, .int .i64 0]) ∧ St w w' g B M' := fun W h => by
                have := h.load j
                rw [e1, q2 (by omega)] at this; exact this
              have d7 : decide ((j : Int) < (M.f : Int)) = false := decide_eq_false (by omega)
              have d8 : decide (j < M.f) = false := decide_eq_false hw
              have d9 : decide ((M.f : Int) ≤ (j : Int)) = true := decide_eq_true (by omega)
              have d10 : decide (M.f ≤ j) = true := decide_eq_true (by omega)
              clear j1 j2 j3 j4 j5 j6 j7 ht e1 e2 e3 hj62 hj HJ q1 q2 hw
              go_wp2_with (first | (go_at_call 15; with_reducible refine (HLd _ HI.out).mono ?_; rintro e w1 ⟨rfl, h1⟩; clear HI; have HI := Aside0.mk h1; clear h1) | (go_at_call 16; with_reducible refine (HSt _ HI.out).mono ?_; rintro e w1 ⟨rfl, h1⟩; clear HI; have HI := Aside0.mk h1; clear h1))
              go_roundw
              case rel => exact ⟨j + 1, _, by first | exact congrArg _ hst2.out | go_num, HI, HJ2⟩
              case measure => exact meas hj'.out hst2.out
          · obtain rfl : j = 50 := by omega
            have HR : Aside0 (M'.h = 10 ∧ M'.n = 50 ∧ ∀ i, M'.f ≤ i → i < 50 → M'.c i = v) := Aside0.mk ⟨j3, j4, fun i h1 h2 => j6 i (by omega) h2⟩
            have b1 : -4611686018427387904 ≤ (M.f : Int) - 1 := by omega
            have b2 : (M.f : Int) - 1 ≤ 4611686018427387904 := by omega
            by_cases h10 : 10 < M.f
            · have d7 : decide ((10 : Int) < (M.f : Int)) = true := decide_eq_true (by omega)
              have d8 : decide (10 < M.f) = true := decide_eq_true h10
              have e1 : M'.load ((M.f : Int) - 1) = (0, 7) := by
                unfold Mem.load Mem.there
                rw [if_neg (by rw [j3, j4, j5]; simp; omega)]
              have HLd : ∀ W, St w W g B M' → Calls Try.prog 15 #[.pointer (some ⟨g, 0, none⟩), .int .i64 ((M.f : Int) - 1)] W fun e w' => e = .returned (.tuple #[.int .i64 0, .int .i64 7]) ∧ St w w' g B M' := fun W h => by
                have := h.load ((M.f : Int) - 1)
                rw [e1] at this; exact this
              have hw := wid b1 b2
              clear j1 j2 j3 j4 j5 j6 j7 hj HJ h10 b1 b2 e1
              go_wp2_with (first | (go_at_call 15; with_reducible refine (HLd _ HI.out).mono ?_; rintro e w1 ⟨rfl, h1⟩; clear HI; have HI := Aside0.mk h1; clear h1))
              clear hw
              go_roundw
              case rel => exact ⟨k + 1, M', hlt'.out, by first | exact congrArg _ hstep.out | go_num, HI, HR⟩
              case measure => exact meas hlt'.out hstep.out
            · have d7 : decide ((10 : Int) < (M.f : Int)) = false := decide_eq_false (by omega)
              have d8 : decide (10 < M.f) = false := decide_eq_false h10
              have HLd : ∀ W, St w W g B M' → Calls Try.prog 15 #[.pointer (some ⟨g, 0, none⟩), .int .i64 ((M.f : Int) - 1)] W fun e w' => e = .returned (.tuple #[.int .i64 (M'.load ((M.f : Int) - 1)).1, .int .i64 (M'.load ((M.f : Int) - 1)).2]) ∧ St w w' g B M' := fun W h => h.load _
              have hw := wid b1 b2
              clear j1 j2 j3 j4 j5 j6 j7 hj HJ h10 b1 b2
              go_wp2_with (first | (go_at_call 15; with_reducible refine (HLd _ HI.out).mono ?_; rintro e w1 ⟨rfl, h1⟩; clear HI; have HI := Aside0.mk h1; clear h1))
              clear hw
              go_roundw
              case rel => exact ⟨k + 1, M', hlt'.out, by first | exact congrArg _ hstep.out | go_num, HI, HR⟩
              case measure => exact meas hlt'.out hstep.out
      have d1 : decide (10 ≤ s) = true := decide_eq_true (by omega)
      have d2 : decide (s ≤ 50) = true := decide_eq_true (by omega)
      have e1 : M.setFloorE s = 0 := by unfold Mem.setFloorE; rw [if_neg (by omega)]
      rw [e1] at hS
      obtain ⟨M1, hM1⟩ : ∃ M1, M.setFloor s = M1 := ⟨_, rfl⟩
      have e2 : M1 = { M.zero s.toNat M.f with f := s.toNat } := by rw [← hM1]; unfold Mem.setFloor; rw [if_neg (by omega)]
      rw [hM1] at hS
      have HP : Aside0 (M1.h = 10 ∧ M1.n = 50 ∧ M1.f ≤ 50 ∧ 10 ≤ M1.f ∧ ∀ i, M1.f ≤ i → i < 50 → (i < M.f → M1.c i = 0) ∧ (M.f ≤ i → M1.c i = v)) := by
        rw [e2]
        refine Aside0.mk ⟨m1, m2, by show s.toNat ≤ 50; omega, by show 10 ≤ s.toNat; omega, fun i h1 h2 => ⟨fun h => ?_, fun h => ?_⟩⟩
        · show (if s.toNat ≤ i ∧ i < M.f then (0 : Int) else M.c i) = 0
          rw [if_pos ⟨h1, h⟩]
        · show (if s.toNat ≤ i ∧ i < M.f then (0 : Int) else M.c i) = v
          rw [if_neg (by omega)]; exact m3 i h h2
      have hF1 : ∀ W, St w W g B M1 → Calls Try.prog 12 #[.pointer (some ⟨g, 0, none⟩)] W fun e w' => e = .returned (.int .i64 M1.f) ∧ St w w' g B M1 := fun W h => h.floor
      have hlt' := Aside0.mk hlt
      clear hlt hk o1 o2 o3 o4 hs m1 m2 m3 e1 e2 hM1 hs1 hs2
      go_wp2_with (first | (go_at_call 12; with_reducible refine (hF _ HI.out).mono ?_; rintro e w1 ⟨rfl, h1⟩; clear HI; have HI := Aside0.mk h1; clear h1; have hx2 := HX.out _ HI.out.be) | (go_at_call 17; with_reducible refine (hS _ HI.out).mono ?_; rintro e w1 ⟨rfl, h1⟩; clear HI; have HI := Aside0.mk h1; clear h1; have hx2 := HX.out _ HI.out.be) | (go_at_call 12; with_reducible refine (hF1 _ HI.out).mono ?_; rintro e w1 ⟨rfl, h1⟩; clear HI; have HI := Aside0.mk h1; clear h1; have hx2 := HX.out _ HI.out.be))
      clear hF hS hF1 hx
      go_loopw [12] (fun v12 wr => ∃ (j : Nat) (M' : Mem), v12 = .int .i64 j ∧ Aside0 (St w wr g B M') ∧ Aside0 (M1.f ≤ j ∧ j ≤ 50 ∧ M'.h = 10 ∧ M'.n = 50 ∧ M'.f = M1.f ∧ (∀ i, M1.f ≤ i → i < j → M'.c i = v) ∧ ∀ i, j ≤ i → i < 50 → (i < M.f → M'.c i = 0) ∧ (M.f ≤ i → M'.c i = v))) (fun v12 _ => 50 - (intOf v12).toNat)
      case atStart => exact ⟨M1.f, M1, rfl, HI, Aside0.mk ⟨Nat.le_refl _, HP.out.2.2.1, HP.out.1, HP.out.2.1, rfl, fun i h1 h2 => absurd h1 (by omega), HP.out.2.2.2.2⟩⟩
      case round =>
        clear HI
        obtain ⟨j, M', rfl, HI, HJ⟩ := hrel
        have hx := HX.out _ HI.out.be
        obtain ⟨j1, j2, j3, j4, j5, j6, j7⟩ := HJ.out
        by_cases hj : j < 50
        · have d5 : decide ((j : Int) < 50) = true := decide_eq_true (by omega)
          have d6 : decide (j < 50) = true := decide_eq_true hj
          have ht : M'.there j = true := decide_eq_true (.inr ⟨by omega, by rw [j4]; omega⟩)
          have e1 : M'.load j = (M'.c j, 0) := by
            unfold Mem.load; rw [if_pos ht, Int.toNat_natCast]
          have e2 : M'.storeE j = 0 := by unfold Mem.storeE; rw [if_pos ht]
          have e3 : M'.store j v = M'.put j v := by unfold Mem.store; rw [if_pos ht, Int.toNat_natCast]
          have HSt : ∀ W, St w W g B M' → Calls Try.prog 16 #[.pointer (some ⟨g, 0, none⟩), .int .i64 j, .int .i64 v] W fun e w' => e = .returned (.int .i64 0) ∧ St w w' g B (M'.put j v) := fun W h => by
            have := h.store j v
            rw [e2, e3] at this; exact this
          have hj62 : j ≤ 4611686018427387904 := by omega
          have hst2 := Aside0.mk (wone hj62)
          have HJ2 : Aside0 (M1.f ≤ j + 1 ∧ j + 1 ≤ 50 ∧ (M'.put j v).h = 10 ∧ (M'.put j v).n = 50 ∧ (M'.put j v).f = M1.f ∧ (∀ i, M1.f ≤ i → i < j + 1 → (M'.put j v).c i = v) ∧ ∀ i, j + 1 ≤ i → i < 50 → (i < M.f → (M'.put j v).c i = 0) ∧ (M.f ≤ i → (M'.put j v).c i = v)) := Aside0.mk ⟨by omega, hj, j3, j4, j5, fun i h1 h2 => by
            show (if i = j then v else M'.c i) = v
            by_cases e : i = j
            · rw [if_pos e]
            · rw [if_neg e]; exact j6 i h1 (by omega), fun i h1 h2 => by
            show (i < M.f → (if i = j then v else M'.c i) = 0) ∧ (M.f ≤ i → (if i = j then v else M'.c i) = v)
            rw [if_neg (by omega)]; exact j7 i (by omega) h2⟩
          have hj' := Aside0.mk hj
          obtain ⟨q1, q2⟩ := j7 j (Nat.le_refl _) hj
          by_cases hw : j < M.f
          · have HLd : ∀ W, St w W g B M' → Calls Try.prog 15 #[.pointer (some ⟨g, 0, none⟩), .int .i64 j] W fun e w' => e = .returned (.tuple #[.int .i64 0, .int .i64 0]) ∧ St w w' g B M' := fun W h => by
              have := h.load j
              rw [e1, q1 hw] at this; exact this
            have d7 : decide ((j : Int) < (M.f : Int)) = true := decide_eq_true (by omega)
            have d8 : decide (j < M.f) = true := decide_eq_true hw
            have d9 : decide ((M.f : Int) ≤ (j : Int)) = false := decide_eq_false (by omega)
            have d10 : decide (M.f ≤ j) = false := decide_eq_false (by omega)
            clear j1 j2 j3 j4 j5 j6 j7 ht e1 e2 e3 hj62 hj HJ q1 q2 hw
            go_wp2_with (first | (go_at_call 15; with_reducible refine (HLd _ HI.out).mono ?_; rintro e w1 ⟨rfl, h1⟩; clear HI; have HI := Aside0.mk h1; clear h1) | (go_at_call 16; with_reducible refine (HSt _ HI.out).mono ?_; rintro e w1 ⟨rfl, h1⟩; clear HI; have HI := Aside0.mk h1; clear h1))
            go_roundw
            case rel => exact ⟨j + 1, _, by first | exact congrArg _ hst2.out | go_num, HI, HJ2⟩
            case measure => exact meas hj'.out hst2.out
          · have HLd : ∀ W, St w W g B M' → Calls Try.prog 15 #[.pointer (some ⟨g, 0, none⟩), .int .i64 j] W fun e w' => e = .returned (.tuple #[.int .i64 v, .int .i64 0]) ∧ St w w' g B M' := fun W h => by
              have := h.load j
              rw [e1, q2 (by omega)] at this; exact this
            have d7 : decide ((j : Int) < (M.f : Int)) = false := decide_eq_false (by omega)
            have d8 : decide (j < M.f) = false := decide_eq_false hw
            have d9 : decide ((M.f : Int) ≤ (j : Int)) = true := decide_eq_true (by omega)
            have d10 : decide (M.f ≤ j) = true := decide_eq_true (by omega)
            clear j1 j2 j3 j4 j5 j6 j7 ht e1 e2 e3 hj62 hj HJ q1 q2 hw
            go_wp2_with (first | (go_at_call 15; with_reducible refine (HLd _ HI.out).mono ?_; rintro e w1 ⟨rfl, h1⟩; clear HI; have HI := Aside0.mk h1; clear h1) | (go_at_call 16; with_reducible refine (HSt _ HI.out).mono ?_; rintro e w1 ⟨rfl, h1⟩; clear HI; have HI := Aside0.mk h1; clear h1))
            go_roundw
            case rel => exact ⟨j + 1, _, by first | exact congrArg _ hst2.out | go_num, HI, HJ2⟩
            case measure => exact meas hj'.out hst2.out
        · obtain rfl : j = 50 := by omega
          have HR : Aside0 (M'.h = 10 ∧ M'.n = 50 ∧ ∀ i, M'.f ≤ i → i < 50 → M'.c i = v) := Aside0.mk ⟨j3, j4, fun i h1 h2 => j6 i (by omega) h2⟩
          have b1 : -4611686018427387904 ≤ (M1.f : Int) - 1 := by omega
          have b2 : (M1.f : Int) - 1 ≤ 4611686018427387904 := by omega
          by_cases h10 : 10 < M1.f
          · have d7 : decide ((10 : Int) < (M1.f : Int)) = true := decide_eq_true (by omega)
            have d8 : decide (10 < M1.f) = true := decide_eq_true h10
            have e1 : M'.load ((M1.f : Int) - 1) = (0, 7) := by
              unfold Mem.load Mem.there
              rw [if_neg (by rw [j3, j4, j5]; simp; omega)]
            have HLd : ∀ W, St w W g B M' → Calls Try.prog 15 #[.pointer (some ⟨g, 0, none⟩), .int .i64 ((M1.f : Int) - 1)] W fun e w' => e = .returned (.tuple #[.int .i64 0, .int .i64 7]) ∧ St w w' g B M' := fun W h => by
              have := h.load ((M1.f : Int) - 1)
              rw [e1] at this; exact this
            have hw := wid b1 b2
            clear j1 j2 j3 j4 j5 j6 j7 hj HJ h10 b1 b2 e1
            go_wp2_with (first | (go_at_call 15; with_reducible refine (HLd _ HI.out).mono ?_; rintro e w1 ⟨rfl, h1⟩; clear HI; have HI := Aside0.mk h1; clear h1))
            clear hw
            go_roundw
            case rel => exact ⟨k + 1, M', hlt'.out, by first | exact congrArg _ hstep.out | go_num, HI, HR⟩
            case measure => exact meas hlt'.out hstep.out
          · have d7 : decide ((10 : Int) < (M1.f : Int)) = false := decide_eq_false (by omega)
            have d8 : decide (10 < M1.f) = false := decide_eq_false h10
            have HLd : ∀ W, St w W g B M' → Calls Try.prog 15 #[.pointer (some ⟨g, 0, none⟩), .int .i64 ((M1.f : Int) - 1)] W fun e w' => e = .returned (.tuple #[.int .i64 (M'.load ((M1.f : Int) - 1)).1, .int .i64 (M'.load ((M1.f : Int) - 1)).2]) ∧ St w w' g B M' := fun W h => h.load _
            have hw := wid b1 b2
            clear j1 j2 j3 j4 j5 j6 j7 hj HJ h10 b1 b2
            go_wp2_with (first | (go_at_call 15; with_reducible refine (HLd _ HI.out).mono ?_; rintro e w1 ⟨rfl, h1⟩; clear HI; have HI := Aside0.mk h1; clear h1))
            clear hw
            go_roundw
            case rel => exact ⟨k + 1, M', hlt'.out, by first | exact congrArg _ hstep.out | go_num, HI, HR⟩
            case measure => exact meas hlt'.out hstep.out
    · obtain rfl : k = zs.length := by omega
      have HH : ∀ W, St w W g B M → Calls Try.prog 11 #[.pointer (some ⟨g, 0, none⟩)] W fun e w' => e = .returned (.int .i64 10) ∧ St w w' g B M := fun W h => by
        have := h.heap
        rw [HM.out.1] at this; exact this
      clear hlt HN
      go_wp2_with (first | (go_at_call 11; with_reducible refine (HH _ HI.out).mono ?_; rintro e w1 ⟨rfl, h1⟩; clear HI; have HI := Aside0.mk h1; clear h1))
      go_ret
      exact ⟨rfl, HI.out.be⟩
end Go.Proofs.Ytnanjbhdledilaa.Mem
