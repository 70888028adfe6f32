/- Two memories side by side; steps that came in. -/
import Derived.Test.YtnanjbhdledilaaMemE
set_option linter.unusedVariables false
set_option linter.unusedSimpArgs false
namespace Go.Proofs.Ytnanjbhdledilaa.Mem
open Go Go.RowKit Go.Proofs.YtnanjbhdledilaaW.PrintWords Go.Proofs.YtnanjbhdledilaaW.PrintLast Go.Proofs.YtnanjbhdledilaaW.PrintMore
/-- The steps of a slice that came in. -/
def Steps (w : World) (A : Option Addr) (zs : List (Int × Int × Int)) : Prop := ∀ j, (h : j < zs.length) → ∃ x, A = some x ∧ x.block < w.heap.size ∧ w.cell? (x.add (j * 3)) = some (.int .i64 zs[j].1) ∧
  w.cell? ⟨(x.add (j * 3)).block, (x.add (j * 3)).off + 1, none⟩ = some (.int .i64 zs[j].2.1) ∧ w.cell? ⟨(x.add (j * 3)).block, (x.add (j * 3)).off + 2, none⟩ = some (.int .i64 zs[j].2.2)
theorem Steps.at {w wr : World} {A : Option Addr} {zs : List (Int × Int × Int)} (h : Steps w A zs) (hb : Below w.heap.size w wr) (j : Nat) (hj : j < zs.length) : ∃ x, A = some x ∧ wr.cell? (x.add (j * 3)) = some (.int .i64 zs[j].1) ∧
    wr.cell? ⟨(x.add (j * 3)).block, (x.add (j * 3)).off + 1, none⟩ = some (.int .i64 zs[j].2.1) ∧ wr.cell? ⟨(x.add (j * 3)).block, (x.add (j * 3)).off + 2, none⟩ = some (.int .i64 zs[j].2.2) := by
  obtain ⟨x, e, hx, hc0, hc1, hc2⟩ := h j hj
  refine ⟨x, e, (hb.cell ?_).trans hc0, (hb.cell ?_).trans hc1, (hb.cell ?_).trans hc2⟩ <;> (try show (x.add (j * 3)).block < _) <;> rw [add_block] <;> exact hx
/-- Two memories, apart. -/
structure Two (w0 w : World) (g B : Nat) (M : Mem) (g' B' : Nat) (M' : Mem) : Prop where
  x : St w0 w g B M
  y : St w0 w g' B' M'
  d1 : g ≠ g'
  d2 : g ≠ B'
  d3 : B ≠ g'
  d4 : B ≠ B'
section
variable {w0 w : World} {g B g' B' : Nat} {M M' : Mem}
theorem Two.loadX (h : Two w0 w g B M g' B' M') (a : Int) : Calls Try.prog 15 #[.pointer (some ⟨g, 0, none⟩), .int .i64 a] w fun e w' => e = .returned (.tuple #[.int .i64 (M.load a).1, .int .i64 (M.load a).2]) ∧ Two w0 w' g B M g' B' M' :=
  (load_any g B M h.x.ok a w h.x.im).mono fun e w' ⟨h1, h2⟩ => ⟨h1, h2 ▸ h⟩
theorem Two.loadY (h : Two w0 w g B M g' B' M') (a : Int) : Calls Try.prog 15 #[.pointer (some ⟨g', 0, none⟩), .int .i64 a] w fun e w' => e = .returned (.tuple #[.int .i64 (M'.load a).1, .int .i64 (M'.load a).2]) ∧ Two w0 w' g B M g' B' M' :=
  (load_any g' B' M' h.y.ok a w h.y.im).mono fun e w' ⟨h1, h2⟩ => ⟨h1, h2 ▸ h⟩
theorem Two.storeY (h : Two w0 w g B M g' B' M') (a v : Int) : Calls Try.prog 16 #[.pointer (some ⟨g', 0, none⟩), .int .i64 a, .int .i64 v] w fun e w' => e = .returned (.int .i64 (M'.storeE a)) ∧ Two w0 w' g B M g' B' (M'.store a v) :=
  (store_any g' B' M' h.y.ok a v w h.y.im).mono fun e w' ⟨h1, h2, h3⟩ => ⟨h1, ⟨h.x.ok, h.x.im.keep (h3.block g h.d1 h.d2) (h3.block B h.d3 h.d4), h3.below h.y.be h.y.ge h.y.gB, h.x.ge, h.x.gB⟩, ⟨store_ok h.y.ok a v, h2, h3.below h.y.be h.y.ge h.y.gB, h.y.ge, h.y.gB⟩, h.d1, h.d2, h.d3, h.d4⟩
theorem Two.heapX (h : Two w0 w g B M g' B' M') : Calls Try.prog 11 #[.pointer (some ⟨g, 0, none⟩)] w fun e w' => e = .returned (.int .i64 M.h) ∧ Two w0 w' g B M g' B' M' :=
  (heap_any g B M w h.x.im).mono fun e w' ⟨h1, h2⟩ => ⟨h1, h2 ▸ h⟩
theorem Two.heapY (h : Two w0 w g B M g' B' M') : Calls Try.prog 11 #[.pointer (some ⟨g', 0, none⟩)] w fun e w' => e = .returned (.int .i64 M'.h) ∧ Two w0 w' g B M g' B' M' :=
  (heap_any g' B' M' w h.y.im).mono fun e w' ⟨h1, h2⟩ => ⟨h1, h2 ▸ h⟩
theorem Two.floorX (h : Two w0 w g B M g' B' M') : Calls Try.prog 12 #[.pointer (some ⟨g, 0, none⟩)] w fun e w' => e = .returned (.int .i64 M.f) ∧ Two w0 w' g B M g' B' M' :=
  (floor_any g B M w h.x.im).mono fun e w' ⟨h1, h2⟩ => ⟨h1, h2 ▸ h⟩
theorem Two.floorY (h : Two w0 w g B M g' B' M') : Calls Try.prog 12 #[.pointer (some ⟨g', 0, none⟩)] w fun e w' => e = .returned (.int .i64 M'.f) ∧ Two w0 w' g B M g' B' M' :=
  (floor_any g' B' M' w h.y.im).mono fun e w' ⟨h1, h2⟩ => ⟨h1, h2 ▸ h⟩
theorem St.copy (h : St w0 w g B M) : Calls Try.prog 18 #[.pointer (some ⟨g, 0, none⟩)] w fun e w' => ∃ g' B', e = .returned (.pointer (some ⟨g', 0, none⟩)) ∧ Two w0 w' g B M g' B' M :=
  (copy_any g B M h.ok w h.im).mono fun e w' ⟨g', B', h1, h2, h3, h4, h5⟩ => by
    have hn : 0 < M.n := by have := h.ok.h1; have := h.ok.hf; have := h.ok.fn; omega
    have l1 := h.im.lt
    have l2 := h.im.ltB hn
    have hb := h.be.trans (h3.mono h.be.size)
    have hs := h.be.size
    exact ⟨g', B', h1, ⟨h.ok, h.im.keep (h3.block g l1) (h3.block B l2), hb, h.ge, h.gB⟩, ⟨h.ok, h2, hb, by omega, by omega⟩, by omega, by omega, by omega, by omega⟩
end
theorem store_n {M : Mem} (a v : Int) : (M.store a v).n = M.n ∧ (M.store a v).h = M.h ∧ (M.store a v).f = M.f := by
  unfold Mem.store; split <;> exact ⟨rfl, rfl, rfl⟩
theorem setFloor_n {M : Mem} (a : Int) : (M.setFloor a).n = M.n := by unfold Mem.setFloor; split <;> rfl
theorem St.drew {w0 w : World} {g B : Nat} {M : Mem} (h : St w0 w g B M) : St w0 w.drew g B M := ⟨h.ok, h.im.drew, h.be.drew, h.ge, h.gB⟩
theorem meas' {L k : Nat} {x jj : Int} (h : k < L) (e0 : (k : Int) = jj) (e : x = ((k + 1 : Nat) : Int)) : L - (intOf (.int .i64 x)).toNat < L - (intOf (.int .i64 jj)).toNat := by
  subst e0; exact meas h e
set_option maxHeartbeats 16000000 in
set_option maxRecDepth 100000 in
theorem holds_any (A : Option Addr) (cap : Nat) (zs : List (Int × Int × Int)) (at_ v : Int) (w : World) (hz : Steps w A zs) : Calls Try.prog 6 #[.slice A zs.length cap, .int .i64 at_, .int .i64 v] w fun e w' => e = .returned (.bool true) ∧ Below w.heap.size w w' := by
  have hsm := small_any w
  replace hz := Aside0.mk hz
  have hnew : ∀ w1, Below w.heap.size w w1 → Calls Try.prog 8 #[.int .i64 60] w1 fun e w' => ∃ g B, e = .returned (.tuple #[.pointer (some ⟨g, 0, none⟩), .int .i64 0]) ∧ St w w' g B (Mem.new 60) := fun w1 hb => new_St 60 (by decide) (by decide) hb
  by_cases h3 : 200 < zs.length
  · have d3 : decide ((200 : Int) < (zs.length : Int)) = true := decide_eq_true (by omega)
    clear h3
    go_enter Try.func6, Try.ntmps6
    go_wp2_with (first | (go_at_call 7; with_reducible refine hsm.mono ?_; rintro e w1 ⟨rfl, hb⟩) | (go_at_call 8; with_reducible refine (hnew _ hb).mono ?_; rintro e w2 ⟨g, B, rfl, h1⟩; have HI := Aside0.mk h1; clear h1))
    go_ret
    exact ⟨rfl, HI.out.be⟩
  have d3 : decide ((200 : Int) < (zs.length : Int)) = false := decide_eq_false (by omega)
  have HN := Aside0.mk (show zs.length ≤ 200 from by omega)
  clear h3
  go_enter Try.func6, Try.ntmps6
  go_wp2_with (first | (go_at_call 7; with_reducible refine hsm.mono ?_; rintro e w1 ⟨rfl, hb⟩) | (go_at_call 8; with_reducible refine (hnew _ hb).mono ?_; rintro e w2 ⟨g, B, rfl, h1⟩; have HI := Aside0.mk h1; clear h1))
  have HM := Aside0.mk (show (Mem.new 60).n = 60 from rfl)
  generalize Mem.new 60 = M0 at HI HM
  clear hsm hnew d3 hb
  go_loopw [10] (fun v10 wr => ∃ (k : Nat) (M : Mem), k ≤ zs.length ∧ v10 = .int .i64 k ∧ Aside0 (St w wr g B M) ∧ Aside0 (M.n = 60)) (fun v10 _ => zs.length - (intOf v10).toNat)
  case atStart => exact ⟨0, M0, Nat.zero_le _, rfl, HI, HM⟩
  case round =>
    clear HI HM
    obtain ⟨k, M, hk, rfl, HI, HM⟩ := hrel
    by_cases hlt : k < zs.length
    · obtain ⟨x, rfl, hx0, hx1, hx2⟩ := hz.out.at HI.out.be k hlt
      have lk1 : (k : Int) < (zs.length : Int) := by omega
      have lk0 : (0 : Int) ≤ (k : Int) := by omega
      have hk100 : k ≤ 4611686018427387904 := by have := HN.out; omega
      have hstep := Aside0.mk (wone hk100)
      clear hk100
      obtain ⟨s, hs⟩ : ∃ s, zs[k] = s := ⟨_, rfl⟩
      rw [hs] at hx0 hx1 hx2
      have hlt' := Aside0.mk hlt
      by_cases q0 : (bits BinOp.and IntKind.i64 s.1 3 == 0) = true
      · obtain ⟨M1, hM1⟩ : ∃ M1, M.setFloor s.2.1 = M1 := ⟨_, rfl⟩
        have hC : ∀ W, St w W g B M → Calls Try.prog 17 #[.pointer (some ⟨g, 0, none⟩), .int .i64 s.2.1] W fun e w' => e = .returned (.int .i64 (M.setFloorE s.2.1)) ∧ St w w' g B M1 := fun W h => by rw [← hM1]; exact h.setFloor s.2.1
        have hn1 : Aside0 (M1.n = 60) := Aside0.mk (by rw [← hM1, setFloor_n]; exact HM.out)
        have hok : M1.Ok := by rw [← hM1]; exact ((setFloor_ok HI.out.ok) s.2.1)
        obtain ⟨o1, o2, o3, o4⟩ := hok
        have hF1 : ∀ W, St w W g B M1 → Calls Try.prog 12 #[.pointer (some ⟨g, 0, none⟩)] W fun e w' => e = .returned (.int .i64 M1.f) ∧ St w w' g B M1 := fun W h => h.floor
        have hH1 : ∀ W, St w W g B M1 → Calls Try.prog 11 #[.pointer (some ⟨g, 0, none⟩)] W fun e w' => e = .returned (.int .i64 M1.h) ∧ St w w' g B M1 := fun W h => h.heap
        have hN1 : ∀ W, St w W g B M1 → Calls Try.prog 13 #[.pointer (some ⟨g, 0, none⟩)] W fun e w' => e = .returned (.int .i64 M1.n) ∧ St w w' g B M1 := fun W h => h.cells
        have c1 : decide ((M1.f : Int) < (M1.h : Int)) = false := decide_eq_false (by omega)
        have c2 : decide (M1.f < M1.h) = false := decide_eq_false (by omega)
        have c3 : decide ((M1.h : Int) < 1) = false := decide_eq_false (by omega)
        have c4 : decide (M1.h < 1) = false := decide_eq_false (by omega)
        have c4' : (M1.h == 0) = false := by simp; omega
        have c4'' : (M1.h = 0) = False := eq_false (by omega)
        have c5 : decide ((M1.n : Int) < (M1.f : Int)) = false := decide_eq_false (by omega)
        have c6 : decide (M1.n < M1.f) = false := decide_eq_false (by omega)
        clear o1 o2 o3 o4 hlt hk hs hM1
        go_wp2_with (first | (go_at_call 17; with_reducible refine (hC _ HI.out).mono ?_; rintro e w1 ⟨rfl, h1⟩; clear HI; have HI := Aside0.mk h1; clear h1) | (go_at_call 11; with_reducible refine (hH1 _ HI.out).mono ?_; rintro e w1 ⟨rfl, h1⟩; clear HI; have HI := Aside0.mk h1; clear h1) | (go_at_call 12; with_reducible refine (hF1 _ HI.out).mono ?_; rintro e w1 ⟨rfl, h1⟩; clear HI; have HI := Aside0.mk h1; clear h1) | (go_at_call 13; with_reducible refine (hN1 _ HI.out).mono ?_; rintro e w1 ⟨rfl, h1⟩; clear HI; have HI := Aside0.mk h1; clear h1))
        go_roundw
        case rel => exact ⟨k + 1, M1, hlt'.out, by first | exact congrArg _ hstep.out | go_num, HI, hn1⟩
        case measure => exact meas hlt'.out hstep.out
      replace q0 : (bits BinOp.and IntKind.i64 s.1 3 == 0) = false := by simpa using q0
      by_cases q1 : (bits BinOp.and IntKind.i64 s.1 3 == 1) = true
      · obtain ⟨M1, hM1⟩ : ∃ M1, M.alloc s.2.1 = M1 := ⟨_, rfl⟩
        have hC : ∀ W, St w W g B M → Calls Try.prog 14 #[.pointer (some ⟨g, 0, none⟩), .int .i64 s.2.1] W fun e w' => e = .returned (.tuple #[.int .i64 (M.allocR s.2.1).1, .int .i64 (M.allocR s.2.1).2]) ∧ St w w' g B M1 := fun W h => by rw [← hM1]; exact h.alloc s.2.1
        have hn1 : Aside0 (M1.n = 60) := Aside0.mk (by rw [← hM1, alloc_h.1]; exact HM.out)
        have hok : M1.Ok := by rw [← hM1]; exact ((alloc_ok HI.out.ok) s.2.1)
        obtain ⟨o1, o2, o3, o4⟩ := hok
        have hF1 : ∀ W, St w W g B M1 → Calls Try.prog 12 #[.pointer (some ⟨g, 0, none⟩)] W fun e w' => e = .returned (.int .i64 M1.f) ∧ St w w' g B M1 := fun W h => h.floor
        have hH1 : ∀ W, St w W g B M1 → Calls Try.prog 11 #[.pointer (some ⟨g, 0, none⟩)] W fun e w' => e = .returned (.int .i64 M1.h) ∧ St w w' g B M1 := fun W h => h.heap
        have hN1 : ∀ W, St w W g B M1 → Calls Try.prog 13 #[.pointer (some ⟨g, 0, none⟩)] W fun e w' => e = .returned (.int .i64 M1.n) ∧ St w w' g B M1 := fun W h => h.cells
        have c1 : decide ((M1.f : Int) < (M1.h : Int)) = false := decide_eq_false (by omega)
        have c2 : decide (M1.f < M1.h) = false := decide_eq_false (by omega)
        have c3 : decide ((M1.h : Int) < 1) = false := decide_eq_false (by omega)
        have c4 : decide (M1.h < 1) = false := decide_eq_false (by omega)
        have c4' : (M1.h == 0) = false := by simp; omega
        have c4'' : (M1.h = 0) = False := eq_false (by omega)
        have c5 : decide ((M1.n : Int) < (M1.f : Int)) = false := decide_eq_false (by omega)
        have c6 : decide (M1.n < M1.f) = false := decide_eq_false (by omega)
        clear o1 o2 o3 o4 hlt hk hs hM1
        go_wp2_with (first | (go_at_call 14; with_reducible refine (hC _ HI.out).mono ?_; rintro e w1 ⟨rfl, h1⟩; clear HI; have HI := Aside0.mk h1; clear h1) | (go_at_call 11; with_reducible refine (hH1 _ HI.out).mono ?_; rintro e w1 ⟨rfl, h1⟩; clear HI; have HI := Aside0.mk h1; clear h1) | (go_at_call 12; with_reducible refine (hF1 _ HI.out).mono ?_; rintro e w1 ⟨rfl, h1⟩; clear HI; have HI := Aside0.mk h1; clear h1) | (go_at_call 13; with_reducible refine (hN1 _ HI.out).mono ?_; rintro e w1 ⟨rfl, h1⟩; clear HI; have HI := Aside0.mk h1; clear h1))
        go_roundw
        case rel => exact ⟨k + 1, M1, hlt'.out, by first | exact congrArg _ hstep.out | go_num, HI, hn1⟩
        case measure => exact meas hlt'.out hstep.out
      replace q1 : (bits BinOp.and IntKind.i64 s.1 3 == 1) = false := by simpa using q1
      · obtain ⟨M1, hM1⟩ : ∃ M1, M.store s.2.1 s.2.2 = M1 := ⟨_, rfl⟩
        have hC : ∀ W, St w W g B M → Calls Try.prog 16 #[.pointer (some ⟨g, 0, none⟩), .int .i64 s.2.1, .int .i64 s.2.2] W fun e w' => e = .returned (.int .i64 (M.storeE s.2.1)) ∧ St w w' g B M1 := fun W h => by rw [← hM1]; exact h.store s.2.1 s.2.2
        have hn1 : Aside0 (M1.n = 60) := Aside0.mk (by rw [← hM1, (store_n _ _).1]; exact HM.out)
        have hok : M1.Ok := by rw [← hM1]; exact ((store_ok HI.out.ok) s.2.1 s.2.2)
        obtain ⟨o1, o2, o3, o4⟩ := hok
        have hF1 : ∀ W, St w W g B M1 → Calls Try.prog 12 #[.pointer (some ⟨g, 0, none⟩)] W fun e w' => e = .returned (.int .i64 M1.f) ∧ St w w' g B M1 := fun W h => h.floor
        have hH1 : ∀ W, St w W g B M1 → Calls Try.prog 11 #[.pointer (some ⟨g, 0, none⟩)] W fun e w' => e = .returned (.int .i64 M1.h) ∧ St w w' g B M1 := fun W h => h.heap
        have hN1 : ∀ W, St w W g B M1 → Calls Try.prog 13 #[.pointer (some ⟨g, 0, none⟩)] W fun e w' => e = .returned (.int .i64 M1.n) ∧ St w w' g B M1 := fun W h => h.cells
        have c1 : decide ((M1.f : Int) < (M1.h : Int)) = false := decide_eq_false (by omega)
        have c2 : decide (M1.f < M1.h) = false := decide_eq_false (by omega)
        have c3 : decide ((M1.h : Int) < 1) = false := decide_eq_false (by omega)
        have c4 : decide (M1.h < 1) = false := decide_eq_false (by omega)
        have c4' : (M1.h == 0) = false := by simp; omega
        have c4'' : (M1.h = 0) = False := eq_false (by omega)
        have c5 : decide ((M1.n : Int) < (M1.f : Int)) = false := decide_eq_false (by omega)
        have c6 : decide (M1.n < M1.f) = false := decide_eq_false (by omega)
        clear o1 o2 o3 o4 hlt hk hs hM1
        go_wp2
        go_still_tail 11, (by kernel_rfl)
        change wpList _ _ _ _ _ wr.drew
        have HI2 := Aside0.mk HI.out.drew
        clear HI
        have HI := HI2
        clear HI2
        generalize wr.drew = wr2 at *
        go_wp2_with (first | (go_at_call 16; with_reducible refine (hC _ HI.out).mono ?_; rintro e w1 ⟨rfl, h1⟩; clear HI; have HI := Aside0.mk h1; clear h1) | (go_at_call 11; with_reducible refine (hH1 _ HI.out).mono ?_; rintro e w1 ⟨rfl, h1⟩; clear HI; have HI := Aside0.mk h1; clear h1) | (go_at_call 12; with_reducible refine (hF1 _ HI.out).mono ?_; rintro e w1 ⟨rfl, h1⟩; clear HI; have HI := Aside0.mk h1; clear h1) | (go_at_call 13; with_reducible refine (hN1 _ HI.out).mono ?_; rintro e w1 ⟨rfl, h1⟩; clear HI; have HI := Aside0.mk h1; clear h1))
        go_roundw
        case rel => exact ⟨k + 1, M1, hlt'.out, by first | exact congrArg _ hstep.out | go_num, HI, hn1⟩
        case measure => exact meas hlt'.out hstep.out
    · obtain rfl : k = zs.length := by omega
      clear hlt HN hz
      have hn := HM.out
      have hok := HI.out.ok
      obtain ⟨M2, hM2⟩ : ∃ M2, M.store at_ v = M2 := ⟨_, rfl⟩
      obtain ⟨s1, s2, s3⟩ := store_n (M := M) at_ v
      rw [hM2] at s1 s2 s3
      have hcp : ∀ W, St w W g B M → Calls Try.prog 18 #[.pointer (some ⟨g, 0, none⟩)] W fun e w' => ∃ g' B', e = .returned (.pointer (some ⟨g', 0, none⟩)) ∧ Two w w' g B M g' B' M := fun W h => h.copy
      have hth : ∀ a, M2.there a = M.there a := fun a => by unfold Mem.there; rw [s1, s2, s3]
      have hcd : ∀ a, (M2.load a).2 = (M.load a).2 := fun a => by unfold Mem.load; rw [hth]; split <;> rfl
      have hst : ∀ W g' B', Two w W g B M g' B' M → Calls Try.prog 16 #[.pointer (some ⟨g', 0, none⟩), .int .i64 at_, .int .i64 v] W fun e w' => e = .returned (.int .i64 (M.storeE at_)) ∧ Two w w' g B M g' B' M2 := fun W g' B' h => by rw [← hM2]; exact h.storeY at_ v
      have hld : ∀ W g' B', Two w W g B M g' B' M2 → Calls Try.prog 15 #[.pointer (some ⟨g', 0, none⟩), .int .i64 at_] W fun e w' => e = .returned (.tuple #[.int .i64 (M2.load at_).1, .int .i64 (M2.load at_).2]) ∧ Two w w' g B M g' B' M2 := fun W g' B' h => h.loadY at_
      have hlx : ∀ W g' B' (a : Int), Two w W g B M g' B' M2 → Calls Try.prog 15 #[.pointer (some ⟨g, 0, none⟩), .int .i64 a] W fun e w' => e = .returned (.tuple #[.int .i64 (M.load a).1, .int .i64 (M.load a).2]) ∧ Two w w' g B M g' B' M2 := fun W g' B' a h => h.loadX a
      have hly : ∀ W g' B' (a : Int), Two w W g B M g' B' M2 → Calls Try.prog 15 #[.pointer (some ⟨g', 0, none⟩), .int .i64 a] W fun e w' => e = .returned (.tuple #[.int .i64 (M2.load a).1, .int .i64 (M.load a).2]) ∧ Two w w' g B M g' B' M2 := fun W g' B' a h => by rw [← hcd a]; exact h.loadY a
      have hhx : ∀ W g' B', Two w W g B M g' B' M2 → Calls Try.prog 11 #[.pointer (some ⟨g, 0, none⟩)] W fun e w' => e = .returned (.int .i64 M.h) ∧ Two w w' g B M g' B' M2 := fun W g' B' h => h.heapX
      have hhy : ∀ W g' B', Two w W g B M g' B' M2 → Calls Try.prog 11 #[.pointer (some ⟨g', 0, none⟩)] W fun e w' => e = .returned (.int .i64 M.h) ∧ Two w w' g B M g' B' M2 := fun W g' B' h => by rw [← s2]; exact h.heapY
      have hfx : ∀ W g' B', Two w W g B M g' B' M2 → Calls Try.prog 12 #[.pointer (some ⟨g, 0, none⟩)] W fun e w' => e = .returned (.int .i64 M.f) ∧ Two w w' g B M g' B' M2 := fun W g' B' h => h.floorX
      have hfy : ∀ W g' B', Two w W g B M g' B' M2 → Calls Try.prog 12 #[.pointer (some ⟨g', 0, none⟩)] W fun e w' => e = .returned (.int .i64 M.f) ∧ Two w w' g B M g' B' M2 := fun W g' B' h => by rw [← s3]; exact h.floorY
      have hsame : ∀ a : Int, a ≠ at_ → (M2.load a).1 = (M.load a).1 := fun a ha => by
        unfold Mem.load
        rw [hth]
        by_cases hta : M.there a = true
        · rw [if_pos hta, if_pos hta]
          show M2.c a.toNat = M.c a.toNat
          rw [← hM2]
          unfold Mem.store
          by_cases htt : M.there at_ = true
          · obtain ⟨k1, e1, _, _⟩ := there_nat hok hta
            obtain ⟨k2, e2, _, _⟩ := there_nat hok htt
            rw [if_pos htt]
            show (if a.toNat = at_.toNat then v else M.c a.toNat) = M.c a.toNat
            rw [if_neg (by omega)]
          · rw [if_neg htt]
        · rw [if_neg hta, if_neg hta]
      have hcase : (M.storeE at_ = 0 ∧ (M2.load at_).2 = 0 ∧ (M2.load at_).1 = v) ∨ (M.storeE at_ = 7 ∧ (M2.load at_).2 = 7) := by
        unfold Mem.storeE Mem.load
        rw [hth]
        by_cases htt : M.there at_ = true
        · left
          rw [if_pos htt, if_pos htt]
          refine ⟨rfl, rfl, ?_⟩
          show M2.c at_.toNat = v
          rw [← hM2]; unfold Mem.store; rw [if_pos htt]
          show (if at_.toNat = at_.toNat then v else M.c at_.toNat) = v
          rw [if_pos rfl]
        · right; rw [if_neg htt, if_neg htt]; exact ⟨rfl, rfl⟩
      replace hsame := Aside0.mk hsame
      clear hn hok s1 s2 s3 hth hcd hM2 HM
      rcases hcase with ⟨e1, e2, e3⟩ | ⟨e1, e2⟩
      · rw [e1] at hst
        rw [e2, e3] at hld
        clear e1 e2 e3
        go_wp2_with (first | (go_at_call 18; with_reducible refine (hcp _ HI.out).mono ?_; rintro e w1 ⟨g', B', rfl, h1⟩; clear HI; have HI := Aside0.mk h1; clear h1) | (go_at_call 16; with_reducible refine (hst _ _ _ HI.out).mono ?_; rintro e w1 ⟨rfl, h1⟩; clear HI; have HI := Aside0.mk h1; clear h1) | (go_at_call 15; with_reducible refine (hld _ _ _ HI.out).mono ?_; rintro e w1 ⟨rfl, h1⟩; clear HI; have HI := Aside0.mk h1; clear h1))
        clear hcp hst hld
        go_loopw [15] (fun v15 wr => ∃ j : Nat, j ≤ 60 ∧ v15 = .int .i64 j ∧ Aside0 (Two w wr g B M g' B' M2)) (fun v15 _ => 60 - (intOf v15).toNat)
        case atStart => exact ⟨0, Nat.zero_le _, rfl, HI⟩
        case round =>
          clear HI
          obtain ⟨j, hj60, rfl, HI⟩ := hrel
          by_cases hj : j < 60
          · have d5 : decide ((j : Int) < 60) = true := decide_eq_true (by omega)
            have d6 : decide (j < 60) = true := decide_eq_true hj
            have hj62 : j ≤ 4611686018427387904 := by omega
            have hst2 := Aside0.mk (wone hj62)
            have hj' := Aside0.mk hj
            by_cases hja : (j : Int) = at_
            · have d7 : ((j : Int) == at_) = true := by simp [hja]
              have d8 : ((j : Int) != at_) = false := by simp [hja]
              generalize hjj : (j : Int) = jj at *
              have hjj' := Aside0.mk hjj
              clear hj hj60 hj62 hja hjj
              go_wp2_with (first | (go_at_call 15; with_reducible refine (hlx _ _ _ _ HI.out).mono ?_; rintro e w1 ⟨rfl, h1⟩; clear HI; have HI := Aside0.mk h1; clear h1) | (go_at_call 15; with_reducible refine (hly _ _ _ _ HI.out).mono ?_; rintro e w1 ⟨rfl, h1⟩; clear HI; have HI := Aside0.mk h1; clear h1))
              go_roundw
              case rel => exact ⟨j + 1, hj'.out, by first | exact congrArg _ hst2.out | go_num, HI⟩
              case measure => exact meas' hj'.out hjj'.out hst2.out
            · have d7 : ((j : Int) == at_) = false := by simp [hja]
              have d8 : ((j : Int) != at_) = true := by simp [hja]
              have hly2 : ∀ W g' B', Two w W g B M g' B' M2 → Calls Try.prog 15 #[.pointer (some ⟨g', 0, none⟩), .int .i64 j] W fun e w' => e = .returned (.tuple #[.int .i64 (M.load j).1, .int .i64 (M.load j).2]) ∧ Two w w' g B M g' B' M2 := fun W g' B' h => by rw [← hsame.out j hja]; exact hly W g' B' j h
              clear hj hj60 hj62 hja
              go_wp2_with (first | (go_at_call 15; with_reducible refine (hlx _ _ _ _ HI.out).mono ?_; rintro e w1 ⟨rfl, h1⟩; clear HI; have HI := Aside0.mk h1; clear h1) | (go_at_call 15; with_reducible refine (hly2 _ _ _ HI.out).mono ?_; rintro e w1 ⟨rfl, h1⟩; clear HI; have HI := Aside0.mk h1; clear h1))
              go_roundw
              case rel => exact ⟨j + 1, hj'.out, by first | exact congrArg _ hst2.out | go_num, HI⟩
              case measure => exact meas hj'.out hst2.out
          · obtain rfl : j = 60 := by omega
            clear hj hj60
            go_wp2_with (first | (go_at_call 11; with_reducible refine (hhx _ _ _ HI.out).mono ?_; rintro e w1 ⟨rfl, h1⟩; clear HI; have HI := Aside0.mk h1; clear h1) | (go_at_call 11; with_reducible refine (hhy _ _ _ HI.out).mono ?_; rintro e w1 ⟨rfl, h1⟩; clear HI; have HI := Aside0.mk h1; clear h1) | (go_at_call 12; with_reducible refine (hfx _ _ _ HI.out).mono ?_; rintro e w1 ⟨rfl, h1⟩; clear HI; have HI := Aside0.mk h1; clear h1) | (go_at_call 12; with_reducible refine (hfy _ _ _ HI.out).mono ?_; rintro e w1 ⟨rfl, h1⟩; clear HI; have HI := Aside0.mk h1; clear h1))
            go_ret
            exact ⟨rfl, HI.out.x.be⟩
      · rw [e1] at hst
        rw [e2] at hld
        clear e1 e2
        go_wp2_with (first | (go_at_call 18; with_reducible refine (hcp _ HI.out).mono ?_; rintro e w1 ⟨g', B', rfl, h1⟩; clear HI; have HI := Aside0.mk h1; clear h1) | (go_at_call 16; with_reducible refine (hst _ _ _ HI.out).mono ?_; rintro e w1 ⟨rfl, h1⟩; clear HI; have HI := Aside0.mk h1; clear h1) | (go_at_call 15; with_reducible refine (hld _ _ _ HI.out).mono ?_; rintro e w1 ⟨rfl, h1⟩; clear HI; have HI := Aside0.mk h1; clear h1))
        clear hcp hst hld
        go_loopw [15] (fun v15 wr => ∃ j : Nat, j ≤ 60 ∧ v15 = .int .i64 j ∧ Aside0 (Two w wr g B M g' B' M2)) (fun v15 _ => 60 - (intOf v15).toNat)
        case atStart => exact ⟨0, Nat.zero_le _, rfl, HI⟩
        case round =>
          clear HI
          obtain ⟨j, hj60, rfl, HI⟩ := hrel
          by_cases hj : j < 60
          · have d5 : decide ((j : Int) < 60) = true := decide_eq_true (by omega)
            have d6 : decide (j < 60) = true := decide_eq_true hj
            have hj62 : j ≤ 4611686018427387904 := by omega
            have hst2 := Aside0.mk (wone hj62)
            have hj' := Aside0.mk hj
            by_cases hja : (j : Int) = at_
            · have d7 : ((j : Int) == at_) = true := by simp [hja]
              have d8 : ((j : Int) != at_) = false := by simp [hja]
              generalize hjj : (j : Int) = jj at *
              have hjj' := Aside0.mk hjj
              clear hj hj60 hj62 hja hjj
              go_wp2_with (first | (go_at_call 15; with_reducible refine (hlx _ _ _ _ HI.out).mono ?_; rintro e w1 ⟨rfl, h1⟩; clear HI; have HI := Aside0.mk h1; clear h1) | (go_at_call 15; with_reducible refine (hly _ _ _ _ HI.out).mono ?_; rintro e w1 ⟨rfl, h1⟩; clear HI; have HI := Aside0.mk h1; clear h1))
              go_roundw
              case rel => exact ⟨j + 1, hj'.out, by first | exact congrArg _ hst2.out | go_num, HI⟩
              case measure => exact meas' hj'.out hjj'.out hst2.out
            · have d7 : ((j : Int) == at_) = false := by simp [hja]
              have d8 : ((j : Int) != at_) = true := by simp [hja]
              have hly2 : ∀ W g' B', Two w W g B M g' B' M2 → Calls Try.prog 15 #[.pointer (some ⟨g', 0, none⟩), .int .i64 j] W fun e w' => e = .returned (.tuple #[.int .i64 (M.load j).1, .int .i64 (M.load j).2]) ∧ Two w w' g B M g' B' M2 := fun W g' B' h => by rw [← hsame.out j hja]; exact hly W g' B' j h
              clear hj hj60 hj62 hja
              go_wp2_with (first | (go_at_call 15; with_reducible refine (hlx _ _ _ _ HI.out).mono ?_; rintro e w1 ⟨rfl, h1⟩; clear HI; have HI := Aside0.mk h1; clear h1) | (go_at_call 15; with_reducible refine (hly2 _ _ _ HI.out).mono ?_; rintro e w1 ⟨rfl, h1⟩; clear HI; have HI := Aside0.mk h1; clear h1))
              go_roundw
              case rel => exact ⟨j + 1, hj'.out, by first | exact congrArg _ hst2.out | go_num, HI⟩
              case measure => exact meas hj'.out hst2.out
          · obtain rfl : j = 60 := by omega
            clear hj hj60
            go_wp2_with (first | (go_at_call 11; with_reducible refine (hhx _ _ _ HI.out).mono ?_; rintro e w1 ⟨rfl, h1⟩; clear HI; have HI := Aside0.mk h1; clear h1) | (go_at_call 11; with_reducible refine (hhy _ _ _ HI.out).mono ?_; rintro e w1 ⟨rfl, h1⟩; clear HI; have HI := Aside0.mk h1; clear h1) | (go_at_call 12; with_reducible refine (hfx _ _ _ HI.out).mono ?_; rintro e w1 ⟨rfl, h1⟩; clear HI; have HI := Aside0.mk h1; clear h1) | (go_at_call 12; with_reducible refine (hfy _ _ _ HI.out).mono ?_; rintro e w1 ⟨rfl, h1⟩; clear HI; have HI := Aside0.mk h1; clear h1))
            go_ret
            exact ⟨rfl, HI.out.x.be⟩
end Go.Proofs.Ytnanjbhdledilaa.Mem
