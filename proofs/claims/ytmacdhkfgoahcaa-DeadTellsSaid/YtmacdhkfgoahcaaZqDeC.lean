/- Of the text DeC, what this law uses. -/
import Derived.RangeFuncNested
import Derived.RangeFuncBound
import Derived.RangeFuncCalls
import Derived.RangeFuncLeaves
import Derived.RangeFuncBox
import Derived.Shelf.Abstract
import Derived.Shelf.RegionOpen
import Derived.WalkKit
import Derived.OwnWalkIn
import Derived.TacticsInMore
import Derived.LoopNIn
import Derived.LoopIn
import Derived.Maps.AppendAt
import Derived.Outline
import Derived.Test.YtmacdhkfgoahcaaZqDeA
import Derived.Test.YtmacdhkfgoahcaaZqDeB
/- The iterator slices.Backward over operations: its maker, its rounds. For every row. -/
set_option linter.unusedVariables false
set_option linter.unusedSimpArgs false
namespace Go.Proofs.Ytmacdhkfgoahcaa.De
open Go Go.RowKit Go.Shelf Go.Maps Go.Proofs.Ytmacdhkfgoahcaa.Q Go.Proofs.Ytmacdhkfgoahcaa.Fo Go.Proofs.YtmacdhkfgoahcaaW.PrintWords Go.Proofs.YtmacdhkfgoahcaaW.PrintLast Go.Proofs.YtmacdhkfgoahcaaW.PrintMore
attribute [local go_sem] Oper.semAt_some
/-- A row's operations, cell by cell. -/
def OpsAt (w : World) (ad : Addr) (xs : List S30) (sl : Nat → Option Addr × Nat) : Prop := ∀ i, (h : i < xs.length) → w.cell? (ad.add (i * 6)) = some (.int .i64 xs[i].f0) ∧ w.cell? ⟨(ad.add (i * 6)).block, (ad.add (i * 6)).off + 1, none⟩ = some (.int .i64 xs[i].f1) ∧ w.cell? ⟨(ad.add (i * 6)).block, (ad.add (i * 6)).off + 2, none⟩ = some (.int .i64 xs[i].f2) ∧ w.cell? ⟨(ad.add (i * 6)).block, (ad.add (i * 6)).off + 3, none⟩ = some (.int .i64 xs[i].f3) ∧ w.cell? ⟨(ad.add (i * 6)).block, (ad.add (i * 6)).off + 4, none⟩ = some (.int .i64 xs[i].f4) ∧ w.cell? ⟨(ad.add (i * 6)).block, (ad.add (i * 6)).off + 5, none⟩ = some (.slice (sl i).1 xs[i].f5.length (sl i).2) ∧ xs[i].f5.length ≤ (sl i).2 ∧ (Kd.int .i64).C w (sl i).1 xs[i].f5.length xs[i].f5
theorem ops_at {w : World} {A : Option Addr} {xs : List S30} (h : Kd.C k30 w A xs.length xs) : ∃ ad sl, (0 < xs.length → A = some ad) ∧ OpsAt w ad xs sl := by
  rcases Nat.eq_zero_or_pos xs.length with h0 | h0
  · exact ⟨⟨0, 0, none⟩, fun _ => (none, 0), fun hp => by omega, fun i hi => by omega⟩
  · obtain ⟨ad, hA, _⟩ := h.2.2 h0
    have key : ∀ i, ∃ v : Option Addr × Nat, (hi : i < xs.length) → w.cell? (ad.add (i * 6)) = some (.int .i64 xs[i].f0) ∧ w.cell? ⟨(ad.add (i * 6)).block, (ad.add (i * 6)).off + 1, none⟩ = some (.int .i64 xs[i].f1) ∧ w.cell? ⟨(ad.add (i * 6)).block, (ad.add (i * 6)).off + 2, none⟩ = some (.int .i64 xs[i].f2) ∧ w.cell? ⟨(ad.add (i * 6)).block, (ad.add (i * 6)).off + 3, none⟩ = some (.int .i64 xs[i].f3) ∧ w.cell? ⟨(ad.add (i * 6)).block, (ad.add (i * 6)).off + 4, none⟩ = some (.int .i64 xs[i].f4) ∧ w.cell? ⟨(ad.add (i * 6)).block, (ad.add (i * 6)).off + 5, none⟩ = some (.slice v.1 xs[i].f5.length v.2) ∧ xs[i].f5.length ≤ v.2 ∧ (Kd.int .i64).C w v.1 xs[i].f5.length xs[i].f5 := fun i => by
      by_cases hi : i < xs.length
      · obtain ⟨ad', A5, c5, e, h0, h1, h2, h3, h4, h5, hl, hi5⟩ := at_T30 h (i : Int) (by omega) (by omega)
        rw [hA] at e
        obtain rfl := Option.some.inj e
        have hx : rd_T30 xs (i : Int) = xs[i] := by unfold rd_T30; simp [List.getD, List.getElem?_eq_getElem hi]
        rw [Int.toNat_natCast] at h0 h1 h2 h3 h4 h5
        rw [hx] at h0 h1 h2 h3 h4 h5 hl hi5
        exact ⟨(A5, c5), fun _ => ⟨h0, h1, h2, h3, h4, h5, hl, hi5⟩⟩
      · exact ⟨(none, 0), fun h => absurd h hi⟩
    exact ⟨ad, fun i => (key i).choose, fun _ => hA, fun i hi => (key i).choose_spec hi⟩
theorem OpsAt.below {w w' : World} {ad : Addr} {xs : List S30} {sl : Nat → Option Addr × Nat} (h : OpsAt w ad xs sl) (hb : Below w.heap.size w w') : OpsAt w' ad xs sl := fun i hi => by
  obtain ⟨x0, x1, x2, x3, x4, x5, hl, hc⟩ := h i hi
  have hab : (ad.add (i * 6)).block < w.heap.size := World.block_lt_of_cell? _ _ x0
  exact ⟨(hb.cell (p := ad.add (i * 6)) hab).trans x0, (hb.cell (p := ⟨(ad.add (i * 6)).block, (ad.add (i * 6)).off + 1, none⟩) hab).trans x1, (hb.cell (p := ⟨(ad.add (i * 6)).block, (ad.add (i * 6)).off + 2, none⟩) hab).trans x2, (hb.cell (p := ⟨(ad.add (i * 6)).block, (ad.add (i * 6)).off + 3, none⟩) hab).trans x3,
    (hb.cell (p := ⟨(ad.add (i * 6)).block, (ad.add (i * 6)).off + 4, none⟩) hab).trans x4, (hb.cell (p := ⟨(ad.add (i * 6)).block, (ad.add (i * 6)).off + 5, none⟩) hab).trans x5, hl, Kd.C_below hc hb⟩
theorem back_in (n : Nat) (A : Option Addr) (l c : Nat) (w : World) :
    CallsIn Fence.wide n Try.prog 34 #[.slice A l c] w fun e w' => e = .returned (.func (.func 63) #[] #[.pointer (some ⟨w.heap.size, 0, none⟩)]) ∧ w' = w.alloc (.cells #[.slice A l c] 26) := by
  refine callsIn_of_wp Try.func34 rfl trivial ?_ rfl
  simp only [Try.ntmps34, List.size_toArray, List.length_cons, List.length_nil, Nat.reduceAdd, Nat.reduceSub, Array.replicate_succ, Array.replicate_zero, List.push_toArray, List.append_toArray, List.nil_append, List.cons_append]
  gi_wp2
  go_ret
  exact ⟨rfl, rfl⟩
/-- What the j-th round is handed: the index, the operation. -/
def encB (xs : List S30) (sl : Nat → Option Addr × Nat) (j : Nat) : Array Value :=
  #[.int .i64 ((xs.length - 1 - j : Nat) : Int), opV (xs.getD (xs.length - 1 - j) z30) (.slice (sl (xs.length - 1 - j)).1 (xs.getD (xs.length - 1 - j) z30).f5.length (sl (xs.length - 1 - j)).2)]
set_option maxRecDepth 100000 in
set_option maxHeartbeats 4000000 in
theorem back1_in (n : Nat) (hn : 1 ≤ n) (l Bn : Nat) (A : Option Addr) (cp : Nat) (xs : List S30) (ad : Addr) (sl : Nat → Option Addr × Nat) (hlen : xs.length < 1099511627776)
    (hA : 0 < xs.length → A = some ad) (J : List Nat → World → Prop) (hJ : ∀ pre W, J pre W → W.cell? ⟨Bn, 0, none⟩ = some (.slice A xs.length cp) ∧ OpsAt W ad xs sl)
    (hY : ∀ pre x W, J pre W → (pre.length < xs.length ∧ x = pre.length) → YieldAt Fence.wide (n - 1) Try.prog l (encB xs sl x) W fun e W' => e = .returned (.bool true) ∧ J (pre ++ [x]) W')
    (W : World) (h0 : J [] W) :
    CallsIn Fence.wide n Try.prog 63 #[.func (.yield l) #[] #[], .pointer (some ⟨Bn, 0, none⟩)] W fun e W' => (∃ v, e = .returned v) ∧ ∃ ys, ys.length = xs.length ∧ J ys W' := by
  have hb0 := (hJ _ _ h0).1
  refine callsIn_of_wp Try.func63 rfl trivial ?_ rfl
  simp only [Try.ntmps63, List.size_toArray, List.length_cons, List.length_nil, Nat.reduceAdd, Nat.reduceSub, Array.replicate_succ, Array.replicate_zero, List.push_toArray, List.append_toArray, List.nil_append, List.cons_append]
  gi_wp2
  gi_loopw [3] (fun p wr => ∃ pre : List Nat, p = .int .i64 ((xs.length : Int) - 1 - pre.length) ∧ pre.length ≤ xs.length ∧ J pre wr) (fun p _ => (intOf p + 1).toNat)
  case atStart => exact ⟨[], by simp, Nat.zero_le _, h0⟩
  case round =>
    clear h0 hb0
    obtain ⟨pre, rfl, hle, hj⟩ := hrel
    obtain ⟨hc, hO⟩ := hJ _ _ hj
    by_cases hlt : pre.length < xs.length
    · obtain ⟨i0, hi0⟩ : ∃ i0 : Nat, i0 = xs.length - 1 - pre.length := ⟨_, rfl⟩
      have hil : i0 < xs.length := by omega
      have hp : (xs.length : Int) - 1 - pre.length = (i0 : Int) := by omega
      obtain ⟨x0, x1, x2, x3, x4, x5, hl5, hi5⟩ := hO i0 hil
      obtain rfl := hA (by omega)
      obtain ⟨fn, tmps, assign, body, hy, hR⟩ := hY pre pre.length wr hj ⟨hlt, rfl⟩
      have hgd : xs.getD i0 z30 = xs[i0] := by simp [List.getD, List.getElem?_eq_getElem hil]
      unfold encB opV at hy
      rw [← hi0, hgd] at hy
      obtain ⟨y, hyx⟩ : ∃ y, y = xs[i0] := ⟨_, rfl⟩
      rw [← hyx] at hy x0 x1 x2 x3 x4 x5 hl5 hi5
      rw [hp]
      have lk0 : (0 : Int) ≤ (i0 : Int) := by omega
      have lk1 : (i0 : Int) < (xs.length : Int) := by omega
      have hst := Aside0.mk (show wrap64 ((i0 : Int) - 1) = (xs.length : Int) - 1 - (pre ++ [pre.length]).length by rw [List.length_append, List.length_singleton]; unfold wrap64; omega)
      have hle' := Aside0.mk (show (pre ++ [pre.length]).length ≤ xs.length by rw [List.length_append, List.length_singleton]; omega)
      have hms := Aside0.mk (show (i0 : Int) = (xs.length : Int) - 1 - pre.length from hp.symm)
      have hlt' := Aside0.mk hlt
      clear hi0 hil hp hgd hyx hlt hle hl5 hi5
      have hms2 := Aside0.mk (show (intOf (.int .i64 (wrap64 ((i0 : Int) - 1))) + 1).toNat < (intOf (.int .i64 (i0 : Int)) + 1).toNat by simp only [intOf]; unfold wrap64; omega)
      gi_wp2
      refine hR.mono ?_
      rintro e W3 ⟨rfl, hJ3⟩
      gi_wp2
      go_roundw
      case rel => exact ⟨pre ++ [pre.length], congrArg _ (by first | exact hst.out | (have := hst.out; rw [← this]; unfold wrap64; omega)), hle'.out, hJ3⟩
      case measure => first | exact hms2.out | (simp only [intOf]; omega)
    · have lk0 : ¬ ((0 : Int) ≤ (xs.length : Int) - 1 - pre.length) := by omega
      have he := Aside0.mk (show pre.length = xs.length by omega)
      clear hlt hle
      gi_wp2
      go_end0
      exact ⟨⟨_, rfl⟩, pre, he.out, hj⟩
end Go.Proofs.Ytmacdhkfgoahcaa.De

