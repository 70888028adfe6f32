/- The walk of MemoryPlays. -/
import Derived.Test.YtnanjbhdledilaaMemN
import Derived.Deep.QuietTactic
import Derived.BigQuiet
set_option linter.unusedVariables false
set_option linter.unusedSimpArgs false
namespace Go.Proofs.Ytnanjbhdledilaa.Mem
open Go Go.RowKit Go.Maps Go.Proofs.YtnanjbhdledilaaW.PrintWords Go.Proofs.YtnanjbhdledilaaW.PrintLast Go.Proofs.YtnanjbhdledilaaW.PrintMore
/-- Both memories, new. -/
theorem duo_new {w0 w w' : World} {g B : Nat} {n : Nat} (hx : St w0 w g B (Mem.new n)) (hn : 1 ≤ n) (hR : IsRef w' (w.heap.size + 1) w.heap.size 0 (Mem.new n) (fun _ => 0)) (hb : Below w.heap.size w w') : Duo w0 w' g B (Mem.new n) (w.heap.size + 1) w.heap.size 0 (Mem.new n) (fun _ => 0) := by
  have l1 := hx.im.lt
  have l2 := hx.im.ltB (show 0 < (Mem.new n).n from hn)
  have hs := hx.be.size
  exact ⟨⟨hx.ok, hx.im.keep (hb.block g l1) (hb.block B l2), hx.be.trans (hb.mono hs), hx.ge, hx.gB⟩, hR, by omega, hs, by omega, by omega, by omega, by omega⟩
theorem eqv_new (n : Nat) : Eqv (Mem.new n) (fun _ => 0) := fun _ _ => rfl
/-- A new document's memory beside a new one. -/
theorem rnew_duo {w0 : World} {n : Nat} (h1 : 1 ≤ n) (h2 : n ≤ 1048576) (a : Int) (ha : a = (n : Int)) : ∀ W g B, St w0 W g B (Mem.new n) → Calls Try.prog 9 #[.int .i64 a] W fun e w' => ∃ g2 b, e = .returned (.tuple #[.pointer (some ⟨g2, 0, none⟩), .int .i64 0]) ∧ Duo w0 w' g B (Mem.new n) g2 b 0 (Mem.new n) (fun _ => 0) := fun W g B h => by
  subst ha
  refine (rnew_any _ W).mono fun e w' k => ?_
  rw [if_pos (by omega)] at k
  obtain ⟨he, hR, hb, _⟩ := k
  rw [Int.toNat_natCast] at hR
  exact ⟨_, _, he, duo_new h h1 hR hb⟩
theorem rnew_no {n : Int} (h : ¬ (1 ≤ n ∧ n ≤ 1048576)) (W : World) : Calls Try.prog 9 #[.int .i64 n] W fun e w' => e = .returned (.tuple #[.pointer none, .int .i64 1]) ∧ W = w' :=
  (rnew_any n W).mono fun e w' k => by rw [if_neg h] at k; exact k
theorem new_no {n : Int} (h : ¬ (1 ≤ n ∧ n ≤ 1048576)) (W : World) : Calls Try.prog 8 #[.int .i64 n] W fun e w' => e = .returned (.tuple #[.pointer none, .int .i64 1]) ∧ W = w' :=
  (new_any n W).mono fun e w' k => by rw [if_neg h] at k; exact k
/-- The loop's state: both memories, alike. -/
def Alike (w0 w : World) (g B g2 b cnt n : Nat) (M : Mem) (c : Int → Int) : Prop := Duo w0 w g B M g2 b cnt M c ∧ Eqv M c ∧ M.n = n
/-- What is read of both, behind a step. -/
structure Sees (w0 w : World) (g B g2 b cnt n : Nat) (M : Mem) (c : Int → Int) : Prop where
  d : Alike w0 w g B g2 b cnt n M c
theorem Alike.cells {w0 w : World} {g B g2 b cnt n : Nat} {M : Mem} {c : Int → Int} (h : Alike w0 w g B g2 b cnt n M c) : w.cell? ⟨g2, 0, none⟩ = some (.int .i64 M.n) ∧ w.cell? ⟨g2, 1, none⟩ = some (.int .i64 M.h) ∧ w.cell? ⟨g2, 2, none⟩ = some (.int .i64 M.f) :=
  ⟨h.1.y.c0, h.1.y.c1, h.1.y.c2⟩
section
variable {w0 w : World} {g B g2 b cnt n : Nat} {M : Mem} {c : Int → Int}
theorem Alike.drewN (h : Alike w0 w g B g2 b cnt n M c) (k : Nat) : Alike w0 (w.drewN k) g B g2 b cnt n M c :=
  ⟨⟨⟨h.1.x.ok, h.1.x.im.drewN k, (Only.drewN g B w k).below h.1.x.be h.1.x.ge h.1.x.gB, h.1.x.ge, h.1.x.gB⟩, h.1.y.keep rfl rfl, h.1.q1, h.1.q2, h.1.d1, h.1.d2, h.1.d3, h.1.d4⟩, h.2⟩
theorem Alike.heapX (h : Alike w0 w g B g2 b cnt n M c) : Calls Try.prog 11 #[.pointer (some ⟨g, 0, none⟩)] w fun e w' => e = .returned (.int .i64 M.h) ∧ w = w' := heap_any g B M w h.1.x.im
theorem Alike.floorX (h : Alike w0 w g B g2 b cnt n M c) : Calls Try.prog 12 #[.pointer (some ⟨g, 0, none⟩)] w fun e w' => e = .returned (.int .i64 M.f) ∧ w = w' := floor_any g B M w h.1.x.im
theorem Alike.cellsX (h : Alike w0 w g B g2 b cnt n M c) : Calls Try.prog 13 #[.pointer (some ⟨g, 0, none⟩)] w fun e w' => e = .returned (.int .i64 M.n) ∧ w = w' := cells_any g B M w h.1.x.im
theorem Alike.play (h : Alike w0 w g B g2 b cnt n M c) (s : Int × Int × Int) (h1 : (Lit.int .i64 s.2.1).wf = true) (h2 : (Lit.int .i64 s.2.2).wf = true) (hc : cnt + 1048577 < maxLen) :
    Calls Try.prog 10 #[.pointer (some ⟨g, 0, none⟩), .pointer (some ⟨g2, 0, none⟩), .agg #[.int .i64 s.1, .int .i64 s.2.1, .int .i64 s.2.2]] w fun e w' => e = .returned (.bool true) ∧ ∃ M' c', Alike w0 w' g B g2 b (cnt + 1048576) n M' c' :=
  (play_any w0 w g B g2 b cnt M c s h1 h2 hc h.1 h.2.1).mono fun e w' ⟨he, M', c', k1, k2, k3⟩ => ⟨he, M', c', k1, k2, k3.trans h.2.2⟩
end
set_option maxHeartbeats 8000000 in
set_option maxRecDepth 100000 in
theorem plays_any (n : Int) (A : Option Addr) (cap : Nat) (zs : List (Int × Int × Int)) (w : World) (hz : Steps w A zs) (hwf : ∀ s ∈ zs, (Lit.int .i64 s.2.1).wf = true ∧ (Lit.int .i64 s.2.2).wf = true) :
    Calls Try.prog 3 #[.int .i64 n, .slice A zs.length cap] w fun e w' => e = .returned (.bool true) ∧ Below w.heap.size w w' := by
  have hsm := small_any w
  replace hz := Aside0.mk hz
  replace hwf := Aside0.mk hwf
  by_cases h1 : 4096 < n ∧ n ≤ 1048576
  · have d1 : decide (4096 < n) = true := decide_eq_true h1.1
    have d2 : decide (n ≤ 1048576) = true := decide_eq_true h1.2
    clear h1
    go_enter Try.func3, Try.ntmps3
    go_wp2_with (first | (go_at_call 7; with_reducible refine hsm.mono ?_; rintro e w1 ⟨rfl, hb⟩))
    go_ret
    exact ⟨rfl, hb⟩
  by_cases h3 : 200 < zs.length
  · have d3 : decide ((200 : Int) < (zs.length : Int)) = true := decide_eq_true (by omega)
    have d4 : decide (200 < zs.length) = true := decide_eq_true (by omega)
    by_cases h4 : 4096 < n
    · have d1 : decide (4096 < n) = true := decide_eq_true h4
      have d2 : decide (n ≤ 1048576) = false := decide_eq_false (by omega)
      clear h1 h3 h4
      go_enter Try.func3, Try.ntmps3
      go_wp2_with (first | (go_at_call 7; with_reducible refine hsm.mono ?_; rintro e w1 ⟨rfl, hb⟩))
      go_ret
      exact ⟨rfl, hb⟩
    · have d1 : decide (4096 < n) = false := decide_eq_false h4
      clear h1 h3 h4
      go_enter Try.func3, Try.ntmps3
      go_wp2_with (first | (go_at_call 7; with_reducible refine hsm.mono ?_; rintro e w1 ⟨rfl, hb⟩))
      go_ret
      exact ⟨rfl, hb⟩
  have d3 : decide ((200 : Int) < (zs.length : Int)) = false := decide_eq_false (by omega)
  have d4 : decide (200 < zs.length) = false := decide_eq_false (by omega)
  by_cases h2 : 1 ≤ n ∧ n ≤ 1048576
  · have d1 : decide (4096 < n) = false := decide_eq_false (by omega)
    obtain ⟨m, rfl⟩ : ∃ m : Nat, n = m := ⟨n.toNat, by omega⟩
    have d1' : decide (4096 < m) = false := decide_eq_false (by omega)
    have HN := Aside0.mk (show zs.length ≤ 200 from by omega)
    have hnew : ∀ w1, Below w.heap.size w w1 → Calls Try.prog 8 #[.int .i64 m] w1 fun e w' => ∃ g B, e = .returned (.tuple #[.pointer (some ⟨g, 0, none⟩), .int .i64 0]) ∧ St w w' g B (Mem.new m) := fun w1 hb => by
      have := new_St (w0 := w) (m : Int) h2.1 h2.2 hb
      rw [Int.toNat_natCast] at this
      exact this
    have hrnew := rnew_duo (w0 := w) (show 1 ≤ m by omega) (by omega) (m : Int) rfl
    clear h1 h2 h3
    go_enter Try.func3, Try.ntmps3
    go_wp2_with (first | (go_at_call 7; with_reducible refine hsm.mono ?_; rintro e w1 ⟨rfl, hb⟩) | (go_at_call 8; with_reducible refine (hnew _ hb).mono ?_; rintro e w2 ⟨g, B, rfl, h1⟩; have HS := Aside0.mk h1; clear h1) | (go_at_call 9; with_reducible refine (hrnew _ _ _ HS.out).mono ?_; rintro e w3 ⟨g2, b, rfl, h1⟩; have HI := Aside0.mk h1; clear h1))
    have HA : Aside0 (Alike w w3 g B g2 b 0 m (Mem.new m) (fun _ => 0)) := Aside0.mk ⟨HI.out, eqv_new m, rfl⟩
    clear hsm hnew hrnew d1 d1' d3 d4 hb HS HI
    go_loopw [10] (fun v10 wr => ∃ (k : Nat) (M : Mem) (c : Int → Int), k ≤ zs.length ∧ v10 = .int .i64 k ∧ Aside0 (Alike w wr g B g2 b (k * 1048576) m M c)) (fun v10 _ => zs.length - (intOf v10).toNat)
    case atStart => exact ⟨0, Mem.new m, fun _ => 0, Nat.zero_le _, rfl, HA⟩
    case round =>
      clear HA
      obtain ⟨k, M, c, hk, rfl, HA⟩ := hrel
      by_cases hlt : k < zs.length
      · obtain ⟨x, rfl, hx0, hx1, hx2⟩ := hz.out.at HA.out.1.x.be k hlt
        have lk1 : (k : Int) < (zs.length : Int) := by omega
        have lk0 : (0 : Int) ≤ (k : Int) := by omega
        have hk200 : k < 200 := by have := HN.out; omega
        obtain ⟨wf1, wf2⟩ := hwf.out zs[k] (List.getElem_mem hlt)
        obtain ⟨s, hs⟩ : ∃ s, zs[k] = s := ⟨_, rfl⟩
        rw [hs] at hx0 hx1 hx2 wf1 wf2
        have hP : ∀ W, Alike w W g B g2 b (k * 1048576) m M c → Calls Try.prog 10 #[.pointer (some ⟨g, 0, none⟩), .pointer (some ⟨g2, 0, none⟩), .agg #[.int .i64 s.1, .int .i64 s.2.1, .int .i64 s.2.2]] W fun e w' => e = .returned (.bool true) ∧ ∃ M' c', Alike w w' g B g2 b ((k + 1) * 1048576) m M' c' := fun W h => by
          have := h.play s wf1 wf2 (by unfold maxLen; omega)
          rw [show k * 1048576 + 1048576 = (k + 1) * 1048576 from by omega] at this
          exact this
        have hlt' := Aside0.mk hlt
        have hstep := Aside0.mk (wone (k := k) (by omega))
        clear hs wf1 wf2 hk hk200 hlt
        go_wp2_with (first | (go_at_call 10; with_reducible refine (hP _ HA.out).mono ?_; rintro e w4 ⟨rfl, M', c', h1⟩; clear HA; have HA := Aside0.mk h1; clear h1; obtain ⟨y0, y1, y2⟩ := HA.out.cells))
        have hH : ∀ n, Calls Try.prog 11 #[.pointer (some ⟨g, 0, none⟩)] (w4.drewN n) fun e w' => e = .returned (.int .i64 M'.h) ∧ w' = w4.drewN n := fun n => (heap_any g B M' _ (HA.out.1.x.im.drewN n)).mono fun _ _ h => ⟨h.1, h.2.symm⟩
        have hF : ∀ n, Calls Try.prog 12 #[.pointer (some ⟨g, 0, none⟩)] (w4.drewN n) fun e w' => e = .returned (.int .i64 M'.f) ∧ w' = w4.drewN n := fun n => (floor_any g B M' _ (HA.out.1.x.im.drewN n)).mono fun _ _ h => ⟨h.1, h.2.symm⟩
        have hN : ∀ n, Calls Try.prog 13 #[.pointer (some ⟨g, 0, none⟩)] (w4.drewN n) fun e w' => e = .returned (.int .i64 M'.n) ∧ w' = w4.drewN n := fun n => (cells_any g B M' _ (HA.out.1.x.im.drewN n)).mono fun _ _ h => ⟨h.1, h.2.symm⟩
        go_quiet ((first | (go_at_call 11; exact Calls.quiet_of_same (hH _)) | (go_at_call 12; exact Calls.quiet_of_same (hF _)) | (go_at_call 13; exact Calls.quiet_of_same (hN _))))
        go_wp2
        have HB := Aside0.mk (HA.out.drewN nq)
        clear HA
        go_roundw
        case rel => exact ⟨k + 1, M', c', hlt'.out, by first | exact congrArg _ hstep.out | go_num, HB⟩
        case measure => exact meas hlt'.out hstep.out
      · obtain rfl : k = zs.length := by omega
        clear hlt HN hz hwf
        go_wp2
        go_ret
        exact ⟨rfl, HA.out.1.x.be⟩
  · have hnew := new_no h2
    have hrnew := rnew_no h2
    by_cases h4 : 4096 < n
    · have d1 : decide (4096 < n) = true := decide_eq_true h4
      have d2 : decide (n ≤ 1048576) = false := decide_eq_false (by omega)
      clear h1 h3 h4 h2
      go_enter Try.func3, Try.ntmps3
      go_wp2_with (first | (go_at_call 7; with_reducible refine hsm.mono ?_; rintro e w1 ⟨rfl, hb⟩) | (go_at_call 8; with_reducible refine (hnew _).mono ?_; rintro e w2 ⟨rfl, rfl⟩) | (go_at_call 9; with_reducible refine (hrnew _).mono ?_; rintro e w2 ⟨rfl, rfl⟩))
      go_ret
      exact ⟨rfl, hb⟩
    · have d1 : decide (4096 < n) = false := decide_eq_false h4
      clear h1 h3 h4 h2
      go_enter Try.func3, Try.ntmps3
      go_wp2_with (first | (go_at_call 7; with_reducible refine hsm.mono ?_; rintro e w1 ⟨rfl, hb⟩) | (go_at_call 8; with_reducible refine (hnew _).mono ?_; rintro e w2 ⟨rfl, rfl⟩) | (go_at_call 9; with_reducible refine (hrnew _).mono ?_; rintro e w2 ⟨rfl, rfl⟩))
      go_ret
      exact ⟨rfl, hb⟩
end Go.Proofs.Ytnanjbhdledilaa.Mem
