/- The walk of MemoryAllocs. -/
import Derived.Test.YtnanjbhdledilaaMemD
import Derived.LoopTactic
set_option linter.unusedVariables false
set_option linter.unusedSimpArgs false
namespace Go.Proofs.Ytnanjbhdledilaa.Mem
open Go Go.RowKit Go.Proofs.YtnanjbhdledilaaW.PrintWords Go.Proofs.YtnanjbhdledilaaW.PrintLast Go.Proofs.YtnanjbhdledilaaW.PrintMore
/-- The ints of a slice that came in. -/
def Ints (w : World) (A : Option Addr) (zs : List Int) : Prop := ∀ j, (h : j < zs.length) → ∃ x, A = some x ∧ x.block < w.heap.size ∧ w.cell? (x.add j) = some (.int .i64 zs[j])
theorem Ints.at {w wr : World} {A : Option Addr} {zs : List Int} (h : Ints w A zs) (hb : Below w.heap.size w wr) (j : Nat) (hj : j < zs.length) : ∃ x, A = some x ∧ wr.cell? (x.add j) = some (.int .i64 zs[j]) := by
  obtain ⟨x, e, hx, hc⟩ := h j hj
  refine ⟨x, e, (hb.cell ?_).trans hc⟩
  rw [add_block]; exact hx
theorem alloc_h {M : Mem} {s : Int} : (M.alloc s).n = M.n ∧ (M.alloc s).f = M.f := by
  unfold Mem.alloc; split
  · exact ⟨rfl, rfl⟩
  · split <;> exact ⟨rfl, rfl⟩
theorem wid {x : Int} (h0 : -4611686018427387904 ≤ x) (h1 : x ≤ 4611686018427387904) : wrap64 x = x := by unfold wrap64; omega
theorem wone {k : Nat} (h1 : k ≤ 4611686018427387904) : wrap64 ((k : Int) + 1) = ((k + 1 : Nat) : Int) := by unfold wrap64; omega
theorem meas {L k : Nat} {x : Int} (h : k < L) (e : x = ((k + 1 : Nat) : Int)) : L - (intOf (.int .i64 x)).toNat < L - (intOf (.int .i64 (k : Int))).toNat := by
  subst e; simp only [intOf, Int.toNat_natCast]; omega
set_option maxHeartbeats 8000000 in
set_option maxRecDepth 100000 in
theorem allocs_any (n : Int) (A : Option Addr) (cap : Nat) (zs : List Int) (w : World) (hz : Ints w A zs) : Calls Try.prog 4 #[.int .i64 n, .slice A zs.length cap] w fun e w' => e = .returned (.bool true) ∧ Below w.heap.size w w' := by
  have hsm := small_any w
  replace hz := Aside0.mk hz
  by_cases h1 : n < 1
  · have d1 : decide (n < 1) = true := decide_eq_true h1
    clear h1
    go_enter Try.func4, Try.ntmps4
    go_wp2_with (first | (go_at_call 7; with_reducible refine hsm.mono ?_; rintro e w1 ⟨rfl, hb⟩))
    go_ret
    exact ⟨rfl, hb⟩
  have d1 : decide (n < 1) = false := decide_eq_false h1
  by_cases h2 : 4096 < n
  · have d2 : decide (4096 < n) = true := decide_eq_true h2
    clear h1 h2
    go_enter Try.func4, Try.ntmps4
    go_wp2_with (first | (go_at_call 7; with_reducible refine hsm.mono ?_; rintro e w1 ⟨rfl, hb⟩))
    go_ret
    exact ⟨rfl, hb⟩
  have d2 : decide (4096 < n) = false := decide_eq_false h2
  by_cases h3 : 100 < zs.length
  · have d3 : decide ((100 : Int) < (zs.length : Int)) = true := decide_eq_true (by omega)
    clear h1 h2 h3
    go_enter Try.func4, Try.ntmps4
    go_wp2_with (first | (go_at_call 7; with_reducible refine hsm.mono ?_; rintro e w1 ⟨rfl, hb⟩))
    go_ret
    exact ⟨rfl, hb⟩
  have d3 : decide ((100 : Int) < (zs.length : Int)) = false := decide_eq_false (by omega)
  have hnew : ∀ w1, Below w.heap.size w w1 → Calls Try.prog 8 #[.int .i64 n] w1 fun e w' => ∃ g B, e = .returned (.tuple #[.pointer (some ⟨g, 0, none⟩), .int .i64 0]) ∧ St w w' g B (Mem.new n.toNat) := fun w1 hb => new_St n (by omega) (by omega) hb
  have HN := Aside0.mk (show 1 ≤ n ∧ n ≤ 4096 ∧ zs.length ≤ 100 from by omega)
  clear h1 h2 h3
  go_enter Try.func4, Try.ntmps4
  go_wp2_with (first | (go_at_call 7; with_reducible refine hsm.mono ?_; rintro e w1 ⟨rfl, hb⟩) | (go_at_call 8; with_reducible refine (hnew _ hb).mono ?_; rintro e w2 ⟨g, B, rfl, h1⟩; have HI := Aside0.mk h1; clear h1))
  clear hsm hnew d1 d2 d3 hb
  go_loopw [8, 9] (fun v8 v9 wr => ∃ (k : Nat) (M : Mem), k ≤ zs.length ∧ v9 = .int .i64 k ∧ v8 = .int .i64 M.h ∧ Aside0 (St w wr g B M) ∧ (M.n : Int) = n ∧ M.f = M.n) (fun _ v9 _ => zs.length - (intOf v9).toNat)
  case atStart => exact ⟨0, Mem.new n.toNat, Nat.zero_le _, rfl, rfl, HI, by have := HN.out; show ((n.toNat : Nat) : Int) = n; omega, rfl⟩
  case round =>
    clear HI
    obtain ⟨k, M, hk, rfl, rfl, HI, hMn, hMf⟩ := hrel
    by_cases hlt : k < zs.length
    · obtain ⟨x, rfl, hx⟩ := hz.out.at HI.out.be k hlt
      have lk1 : (k : Int) < (zs.length : Int) := by omega
      have lk0 : (0 : Int) ≤ (k : Int) := by omega
      have hk100 : k ≤ 4611686018427387904 := by have := HN.out.2.2; omega
      have hstep := Aside0.mk (wone hk100)
      clear hk100
      obtain ⟨s, hs⟩ : ∃ s, zs[k] = s := ⟨_, rfl⟩
      rw [hs] at hx
      have HX : Aside0 (∀ W, Below w.heap.size w W → W.cell? (x.add k) = some (.int .i64 s)) := Aside0.mk (fun W hb => by
        obtain ⟨x', hx0, hx'⟩ := hz.out.at hb k hlt
        cases hx0
        rw [hs] at hx'
        exact hx')
      have hok := HI.out.ok
      obtain ⟨o1, o2, o3, o4⟩ := hok
      have hn4 := HN.out.2.1
      have hA : ∀ W, St w W g B M → Calls Try.prog 14 #[.pointer (some ⟨g, 0, none⟩), .int .i64 s] W fun e w' => e = .returned (.tuple #[.int .i64 (M.allocR s).1, .int .i64 (M.allocR s).2]) ∧ St w w' g B (M.alloc s) := fun W h => h.alloc s
      by_cases h1 : s < 0
      · have e1 : M.allocR s = (0, 1) := by unfold Mem.allocR; rw [if_pos h1]
        have e2 : M.alloc s = M := by unfold Mem.alloc; rw [if_pos h1]
        rw [e1, e2] at hA
        have d1 : decide (s < 0) = true := decide_eq_true h1
        replace hMn := Aside0.mk hMn
        replace hMf := Aside0.mk hMf
        have hlt' := Aside0.mk hlt
        replace HN := Aside0.mk HN
        clear h1 e1 e2 o1 o2 o3 o4 hn4 hs hlt hk
        go_wp2_with (first | (go_at_call 14; with_reducible refine (hA _ HI.out).mono ?_; rintro e w1 ⟨rfl, h1⟩; clear HI; have HI := Aside0.mk h1; clear h1; have hx2 := HX.out _ HI.out.be))
        go_roundw
        case rel => exact ⟨k + 1, M, hlt'.out, by first | exact congrArg _ hstep.out | go_num, rfl, HI, hMn.out, hMf.out⟩
        case measure => exact meas hlt'.out hstep.out
      by_cases h2 : (M.f : Int) - M.h < s
      · have e1 : M.allocR s = (0, 9) := by unfold Mem.allocR; rw [if_neg h1, if_pos h2]
        have e2 : M.alloc s = M := by unfold Mem.alloc; rw [if_neg h1, if_pos h2]
        rw [e1, e2] at hA
        have d1 : decide (s < 0) = false := decide_eq_false h1
        have d2 : decide (s ≤ n - (M.h : Int)) = false := decide_eq_false (by omega)
        have b1 : -4611686018427387904 ≤ n - (M.h : Int) := by omega
        have b2 : n - (M.h : Int) ≤ 4611686018427387904 := by omega
        have hw := wid b1 b2
        clear b1 b2
        replace hMn := Aside0.mk hMn
        replace hMf := Aside0.mk hMf
        have hlt' := Aside0.mk hlt
        replace HN := Aside0.mk HN
        clear h1 h2 e1 e2 o1 o2 o3 o4 hn4 hs hlt hk
        go_wp2_with (first | (go_at_call 14; with_reducible refine (hA _ HI.out).mono ?_; rintro e w1 ⟨rfl, h1⟩; clear HI; have HI := Aside0.mk h1; clear h1; have hx2 := HX.out _ HI.out.be))
        clear hw
        go_roundw
        case rel => exact ⟨k + 1, M, hlt'.out, by first | exact congrArg _ hstep.out | go_num, rfl, HI, hMn.out, hMf.out⟩
        case measure => exact meas hlt'.out hstep.out
      obtain ⟨s', rfl⟩ : ∃ s' : Nat, s = s' := ⟨s.toNat, by omega⟩
      have e1 : M.allocR s' = ((M.h : Int), 0) := by unfold Mem.allocR; rw [if_neg h1, if_neg h2]
      have e2 : M.alloc s' = { M.zero M.h (M.h + s') with h := M.h + s' } := by unfold Mem.alloc; rw [if_neg h1, if_neg h2, Int.toNat_natCast]
      rw [e1, e2] at hA
      have d2 : decide (n - (M.h : Int) < (s' : Int)) = false := decide_eq_false (by omega)
      have hbd : M.h + s' ≤ M.f := by omega
      have b1 : -4611686018427387904 ≤ n - (M.h : Int) := by omega
      have b2 : n - (M.h : Int) ≤ 4611686018427387904 := by omega
      have b3 : -4611686018427387904 ≤ (M.h : Int) + (s' : Int) := by omega
      have b4 : (M.h : Int) + (s' : Int) ≤ 4611686018427387904 := by omega
      have hw := wid b1 b2
      have hw2 := wid b3 b4
      clear b1 b2 b3 b4
      replace hbd := Aside0.mk (show M.h + s' ≤ M.f ∧ 1 ≤ M.h from ⟨hbd, o1⟩)
      replace hMn := Aside0.mk hMn
      replace hMf := Aside0.mk hMf
      have hlt' := Aside0.mk hlt
      replace HN := Aside0.mk HN
      clear h1 h2 e1 e2 o1 o2 o3 o4 hn4 hs hlt hk
      go_wp2_with (first | (go_at_call 14; with_reducible refine (hA _ HI.out).mono ?_; rintro e w1 ⟨rfl, h1⟩; clear HI; have HI := Aside0.mk h1; clear h1; have hx2 := HX.out _ HI.out.be))
      clear hA hx hx2 hw
      go_loopw [12] (fun v12 wr => ∃ (j : Nat) (M' : Mem), v12 = .int .i64 j ∧ Aside0 (St w wr g B M') ∧ Aside0 (M.h ≤ j ∧ j ≤ M.h + s' ∧ M'.h = M.h + s' ∧ M'.n = M.n ∧ M'.f = M.f ∧ ∀ i, j ≤ i → i < M.h + s' → M'.c i = 0)) (fun v12 _ => M.h + s' - (intOf v12).toNat)
      case atStart => exact ⟨M.h, _, rfl, HI, Aside0.mk ⟨Nat.le_refl _, Nat.le_add_right _ _, rfl, rfl, rfl, fun i h1 h2 => by show (if _ then (0 : Int) else _) = 0; rw [if_pos ⟨h1, h2⟩]⟩⟩
      case round =>
        clear HI
        obtain ⟨j, M', rfl, HI, HJ⟩ := hrel
        have hx := HX.out _ HI.out.be
        obtain ⟨j1, j2, j3, j4, j5, j6⟩ := HJ.out
        by_cases hj : j < M.h + s'
        · have d5 : decide ((j : Int) < (M.h : Int) + (s' : Int)) = true := by
            clear hw2
            exact decide_eq_true (by omega)
          have d6 : decide (j < M.h + s') = true := decide_eq_true hj
          have ht : M'.there j = true := by
            clear hw2
            have := hbd.out
            exact decide_eq_true (.inl ⟨by omega, by rw [j3]; omega⟩)
          have e1 : M'.load j = (0, 0) := by
            unfold Mem.load; rw [if_pos ht, Int.toNat_natCast, j6 j (Nat.le_refl _) hj]
          have e2 : M'.storeE j = 0 := by unfold Mem.storeE; rw [if_pos ht]
          have e3 : M'.store j 9 = M'.put j 9 := by unfold Mem.store; rw [if_pos ht, Int.toNat_natCast]
          have HLd : ∀ W, St w W g B M' → Calls Try.prog 15 #[.pointer (some ⟨g, 0, none⟩), .int .i64 j] W fun e w' => e = .returned (.tuple #[.int .i64 0, .int .i64 0]) ∧ St w w' g B M' := fun W h => by
            have := h.load j
            rw [e1] at this; exact this
          have HSt : ∀ W, St w W g B M' → Calls Try.prog 16 #[.pointer (some ⟨g, 0, none⟩), .int .i64 j, .int .i64 9] W fun e w' => e = .returned (.int .i64 0) ∧ St w w' g B (M'.put j 9) := fun W h => by
            have := h.store j 9
            rw [e2, e3] at this; exact this
          have hj62 : j ≤ 4611686018427387904 := by
            clear hw2
            have := HI.out.ok.nm; have := HI.out.ok.hf; have := HI.out.ok.fn; rw [j3] at *; omega
          have hst2 := Aside0.mk (wone hj62)
          have HJ2 : Aside0 (M.h ≤ j + 1 ∧ j + 1 ≤ M.h + s' ∧ (M'.put j 9).h = M.h + s' ∧ (M'.put j 9).n = M.n ∧ (M'.put j 9).f = M.f ∧ ∀ i, j + 1 ≤ i → i < M.h + s' → (M'.put j 9).c i = 0) := Aside0.mk ⟨Nat.le_succ_of_le j1, hj, j3, j4, j5, fun i h1 h2 => by
            show (if i = j then (9 : Int) else M'.c i) = 0
            rw [if_neg (by clear hw2; omega)]; exact j6 i (by clear hw2; omega) h2⟩
          have hj' := Aside0.mk hj
          clear j1 j2 j3 j4 j5 j6 ht e1 e2 e3 hj62 hj HJ
          go_wp2_with (first | (go_at_call 15; with_reducible refine (HLd _ HI.out).mono ?_; rintro e w1 ⟨rfl, h1⟩; clear HI; have HI := Aside0.mk h1; clear h1; have hx2 := HX.out _ HI.out.be) | (go_at_call 16; with_reducible refine (HSt _ HI.out).mono ?_; rintro e w1 ⟨rfl, h1⟩; clear HI; have HI := Aside0.mk h1; clear h1; have hx2 := HX.out _ HI.out.be))
          go_roundw
          case rel => exact ⟨j + 1, _, by first | exact congrArg _ hst2.out | go_num, HI, HJ2⟩
          case measure => exact meas hj'.out hst2.out
        · have d5 : decide ((j : Int) < (M.h : Int) + (s' : Int)) = false := by
            clear hw2
            exact decide_eq_false (by omega)
          have d6 : decide (j < M.h + s') = false := decide_eq_false hj
          have e8 : ((M.h : Int) + (s' : Int)) = (M'.h : Int) := by clear hw2; omega
          have hn1 : (M'.n : Int) = n := by rw [j4]; exact hMn.out
          have hf1 : M'.f = M'.n := by rw [j4, j5]; exact hMf.out
          replace e8 := Aside0.mk e8
          replace hn1 := Aside0.mk hn1
          replace hf1 := Aside0.mk hf1
          clear j1 j2 j3 j4 j5 j6 hj HJ
          go_wp2
          go_roundw
          case rel => exact ⟨k + 1, M', hlt'.out, by first | exact congrArg _ hstep.out | go_num, congrArg _ (hw2.trans e8.out), HI, hn1.out, hf1.out⟩
          case measure => exact meas hlt'.out hstep.out
    · obtain rfl : k = zs.length := by omega
      have HL : ∀ W, St w W g B M → Calls Try.prog 15 #[.pointer (some ⟨g, 0, none⟩), .int .i64 M.h] W fun e w' => e = .returned (.tuple #[.int .i64 0, .int .i64 7]) ∧ St w w' g B M := by
        intro W h
        have := h.load M.h
        have e : M.load M.h = (0, 7) := by
          have := h.ok.hf
          unfold Mem.load Mem.there
          rw [if_neg (by simp; omega)]
        rw [e] at this
        exact this
      have HH : ∀ W, St w W g B M → Calls Try.prog 11 #[.pointer (some ⟨g, 0, none⟩)] W fun e w' => e = .returned (.int .i64 M.h) ∧ St w w' g B M := fun W h => h.heap
      clear hlt hMn hMf HN
      go_wp2_with (first | (go_at_call 15; with_reducible refine (HL _ HI.out).mono ?_; rintro e w1 ⟨rfl, h1⟩; clear HI; have HI := Aside0.mk h1; clear h1) | (go_at_call 11; with_reducible refine (HH _ HI.out).mono ?_; rintro e w1 ⟨rfl, h1⟩; clear HI; have HI := Aside0.mk h1; clear h1))
      go_ret
      exact ⟨rfl, HI.out.be⟩
end Go.Proofs.Ytnanjbhdledilaa.Mem
