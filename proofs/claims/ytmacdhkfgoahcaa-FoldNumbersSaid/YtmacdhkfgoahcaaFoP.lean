/- Contract, walked by hand: a block in which is reckoned ahead what is known (fold.Block). -/
import Derived.RegionCalls
import Derived.BigCall
import Derived.Deep.DeepCutAuto
import Derived.Test.YtmacdhkfgoahcaaFoO
set_option linter.unusedVariables false
set_option linter.unusedSimpArgs false
namespace Go.Proofs.Ytmacdhkfgoahcaa.Fo
open Go Go.RowKit Go.Maps Go.Proofs.Ytmacdhkfgoahcaa.Q Go.Proofs.YtmacdhkfgoahcaaW.PrintWords Go.Proofs.YtmacdhkfgoahcaaW.PrintLast Go.Proofs.YtmacdhkfgoahcaaW.PrintMore
/-- A folded block. -/
def blockP (l : List S30) (t : S25) : List S30 × S25 := ((foldSt l).1, termP (foldSt l).2.1 (foldSt l).2.2 t)
def BlockPost (r : List S30 × S25) (w : World) (e : Ending) (w' : World) : Prop := ∃ v, e = .returned (.agg #[v, .int .i64 r.2.f0, .int .i64 r.2.f1, .int .i64 r.2.f2, .int .i64 r.2.f3]) ∧ Kd.R k30 30 w' w.heap.size (fun _ => True) v r.1 ∧ Below w.heap.size w w'
structure BIn (l : List S30) (t : S25) : Prop where
  len : l.length < 2199023255552
  args : ∀ x ∈ l, x.f5.length ≤ 17592186044416
  wfo : ∀ x ∈ l, WfOp x
  wft : wf t.f1
  call : ∀ x ∈ l, (x.f0 == 7) = false
/-- The worlds' beginning. -/
theorem bs_start (w : World) (A : Option Addr) (l : List S30) (cp : Nat) (t : S25) : BS w ((((((w.alloc (.cells #[.slice A l.length cp, .int .i64 t.f0, .int .i64 t.f1, .int .i64 t.f2, .int .i64 t.f3] 28)).alloc (.cells #[.slice none 0 0, .int .i64 0, .int .i64 0, .int .i64 0, .int .i64 0] 28)).alloc (.map #[] 0)).alloc (.map #[] 0)).alloc (.cells #[.map (some (w.heap.size + 2)), .map (some (w.heap.size + 3))] 83)).alloc (.cells #[.slice none 0 0, .int .i64 0, .int .i64 0, .int .i64 0, .int .i64 0] 28)) A l cp t (fun _ => none) (fun _ => none) [] (.slice none 0 0) 0 := by
  generalize hO0 : Obj.cells #[.slice A l.length cp, .int .i64 t.f0, .int .i64 t.f1, .int .i64 t.f2, .int .i64 t.f3] 28 = O0
  generalize hO1 : Obj.cells #[.slice none 0 0, .int .i64 0, .int .i64 0, .int .i64 0, .int .i64 0] 28 = O1
  generalize hO4 : Obj.cells #[.map (some (w.heap.size + 2)), .map (some (w.heap.size + 3))] 83 = O4
  have s1 : (w.alloc O0).heap.size = w.heap.size + 1 := World.size_alloc _ _
  have s2 : ((w.alloc O0).alloc O1).heap.size = w.heap.size + 2 := by rw [World.size_alloc, s1]
  have s3 : (((w.alloc O0).alloc O1).alloc (.map #[] 0)).heap.size = w.heap.size + 3 := by rw [World.size_alloc, s2]
  have s4 : ((((w.alloc O0).alloc O1).alloc (.map #[] 0)).alloc (.map #[] 0)).heap.size = w.heap.size + 4 := by rw [World.size_alloc, s3]
  have s5 : (((((w.alloc O0).alloc O1).alloc (.map #[] 0)).alloc (.map #[] 0)).alloc O4).heap.size = w.heap.size + 5 := by rw [World.size_alloc, s4]
  have b0 := blk_alloc (blk_alloc (blk_alloc (blk_alloc (blk_alloc (blk_new w O0) O1) (.map #[] 0)) (.map #[] 0)) O4) O1
  have b1 := blk_alloc (blk_alloc (blk_alloc (blk_alloc (blk_new (w.alloc O0) O1) (.map #[] 0)) (.map #[] 0)) O4) O1
  have m2 := MapI.made ((w.alloc O0).alloc O1)
  have m3 := MapI.made (((w.alloc O0).alloc O1).alloc (.map #[] 0))
  have b4 := blk_alloc (blk_new ((((w.alloc O0).alloc O1).alloc (.map #[] 0)).alloc (.map #[] 0)) O4) O1
  have b5 := blk_new (((((w.alloc O0).alloc O1).alloc (.map #[] 0)).alloc (.map #[] 0)).alloc O4) O1
  have be : ∀ (W : World) (o : Obj), Below W.heap.size W (W.alloc o) := fun W o => (Below.refl _ W).alloc (Nat.le_refl _) o
  have m2' := ((((m2.below (be _ (.map #[] 0))).below (be _ O4)).below (be _ O1)))
  have m3' := (((m3.below (be _ O4)).below (be _ O1)))
  rw [s1] at b1
  rw [s2] at m2'
  rw [s3] at m3'
  rw [s4] at b4
  rw [s5] at b5
  subst hO0 hO1 hO4
  refine ⟨?_, by rw [World.size_alloc, s5]; omega, b0, b1, b5, ⟨(blk_cell b4 0).trans rfl, (blk_cell b4 1).trans rfl, m2', m3', by omega⟩, Kd.R_nil _ _ _ _ _⟩
  exact ((((((Below.refl w.heap.size w).alloc (Nat.le_refl _) _).alloc (by rw [s1]; omega) _).alloc (by rw [s2]; omega) _).alloc (by rw [s3]; omega) _).alloc (by rw [s4]; omega) _).alloc (by rw [s5]; omega) _
theorem meas_ {L k : Nat} {x : Int} (h : k < L) (e : x = ((k + 1 : Nat) : Int)) : L - (intOf (.int .i64 x)).toNat < L - (intOf (.int .i64 (k : Int))).toNat := by
  subst e; simp only [intOf, Int.toNat_natCast]; omega
/-- What region 6 leaves. -/
structure CR (w W1 wx : World) (A : Option Addr) (l : List S30) (cp : Nat) (t : S25) (m c : Fn) (outs : List S30) (v : Value) (n Bx : Nat) (y : S30) (v5 : Value) : Prop where
  bs : BS w wx A l cp t m c outs v n
  bx : wx.heap[Bx]? = some (.cells #[.int .i64 y.f0, .int .i64 y.f1, .int .i64 y.f2, .int .i64 y.f3, .int .i64 y.f4, v5] 30 (0, 0))
  r5 : Kd.R (Kd.int .i64) 3 wx W1.heap.size (fun _ => True) v5 y.f5
set_option maxHeartbeats 16000000 in
set_option maxRecDepth 100000 in
theorem block_any (A : Option Addr) (cp : Nat) (l : List S30) (t : S25) (w : World) (hr : Kd.C k30 w A l.length l) (hc : l.length ≤ cp) (hI : BIn l t) :
    Calls Try.prog 28 #[.agg #[.slice A l.length cp, .int .i64 t.f0, .int .i64 t.f1, .int .i64 t.f2, .int .i64 t.f3]] w (BlockPost (blockP l t) w) := by
  have hmm := @run_makeMap Try.prog
  have HR := Aside0.mk hr
  have HI := Aside0.mk hI
  have HS := Aside0.mk (bs_start w A l cp t)
  clear hr hc hI
  go_enter Try.func28, Try.ntmps28
  go_wp2
  generalize (((((w.alloc (.cells #[.slice A l.length cp, .int .i64 t.f0, .int .i64 t.f1, .int .i64 t.f2, .int .i64 t.f3] 28)).alloc (.cells #[.slice none 0 0, .int .i64 0, .int .i64 0, .int .i64 0, .int .i64 0] 28)).alloc (.map #[] 0)).alloc (.map #[] 0)).alloc (.cells #[.map (some (w.heap.size + 2)), .map (some (w.heap.size + 3))] 83)).alloc (.cells #[.slice none 0 0, .int .i64 0, .int .i64 0, .int .i64 0, .int .i64 0] 28) = W0 at *
  clear hmm
  rw [show w.heap.size + 1 + 1 + 1 + 1 + 1 = w.heap.size + 5 from rfl, show w.heap.size + 1 + 1 + 1 + 1 = w.heap.size + 4 from rfl]
  go_loopw [14] (fun v14 wr => ∃ (k : Nat) (v : Value), k ≤ l.length ∧ v14 = .int .i64 k ∧ Aside0 (BS w wr A l cp t (foldSt (l.take k)).2.1 (foldSt (l.take k)).2.2 (foldSt (l.take k)).1 v k)) (fun v14 _ => l.length - (intOf v14).toNat)
  case atStart => exact ⟨0, _, Nat.zero_le _, rfl, HS⟩
  case round =>
    clear HS
    obtain ⟨k, v, hk, rfl, HS⟩ := hrel
    by_cases hlt : k < l.length
    · obtain ⟨ad, A5, c5, e, hx0, hx1, hx2, hx3, hx4, hx5, hl5, hi5⟩ := at_T30 HR.out (k : Int) (by omega) (by omega)
      subst e
      have hxk : rd_T30 l (k : Int) = l[k] := by unfold rd_T30; simp [List.getD, List.getElem?_eq_getElem hlt]
      have hmem : l[k] ∈ l := List.getElem_mem hlt
      rw [Int.toNat_natCast] at hx0 hx1 hx2 hx3 hx4 hx5
      rw [hxk] at hx0 hx1 hx2 hx3 hx4 hx5 hl5 hi5
      have hfs := foldGo_snoc (l.take k) l[k] (fun _ => none) (fun _ => none)
      rw [← List.take_succ_eq_append_getElem hlt] at hfs
      obtain ⟨x, hx⟩ : ∃ x, x = l[k] := ⟨_, rfl⟩
      rw [← hx] at hx0 hx1 hx2 hx3 hx4 hx5 hl5 hi5 hmem hfs
      have hN := Aside0.mk hfs
      clear hfs hx hxk
      have xw := HI.out.wfo x hmem
      have xa := HI.out.args x hmem
      have x7 := HI.out.call x hmem
      obtain ⟨st, hst⟩ : ∃ st, foldGo (l.take k) (fun _ => none) (fun _ => none) = st := ⟨_, rfl⟩
      have hst' : foldSt (l.take k) = st := hst
      rw [hst'] at HS
      rw [hst] at hN
      obtain ⟨outs, m, c⟩ := st
      dsimp only at HS hN
      have hol : outs.length = k := by
        have h_ := foldGo_len (l.take k) (fun _ => none) (fun _ => none)
        rw [hst] at h_
        simpa [Nat.min_eq_left hk] using h_
      clear hst hst'
      have mv : ∀ (p : Addr) (u : Value), w.cell? p = some u → wr.cell? p = some u := fun p u h => (HS.out.be.cell (World.block_lt_of_cell? w _ h)).trans h
      replace hx0 := mv _ _ hx0
      replace hx1 := mv _ _ hx1
      replace hx2 := mv _ _ hx2
      replace hx3 := mv _ _ hx3
      replace hx4 := mv _ _ hx4
      replace hx5 := mv _ _ hx5
      have hC5 := Aside0.mk (Kd.C_below hi5 HS.out.be)
      have lk1 : (k : Int) < (l.length : Int) := by omega
      have lk0 : (0 : Int) ≤ (k : Int) := by omega
      have hstep := Aside0.mk (show wrap64 ((k : Int) + 1) = ((k + 1 : Nat) : Int) by have := HI.out.len; unfold wrap64; omega)
      have hlt' := Aside0.mk hlt
      have hk' := Aside0.mk hk
      have hol' := Aside0.mk hol
      have xw' := Aside0.mk xw
      have xa' := Aside0.mk xa
      have x7' := Aside0.mk x7
      have hl5' := Aside0.mk hl5
      clear mv hi5 hmem hlt hk hol xw xa x7 hl5
      go_upto_region 6 with fail
      have HS1 := Aside0.mk (HS.out.below ((Below.refl _ wr).alloc (Nat.le_refl _) (.cells #[.int .i64 x.f0, .int .i64 x.f1, .int .i64 x.f2, .int .i64 x.f3, .int .i64 x.f4, .slice A5 x.f5.length c5] 30)))
      have BX := Aside0.mk (blk_new wr (.cells #[.int .i64 x.f0, .int .i64 x.f1, .int .i64 x.f2, .int .i64 x.f3, .int .i64 x.f4, .slice A5 x.f5.length c5] 30))
      have hC6 := Aside0.mk (Kd.C_below hC5.out ((Below.refl _ wr).alloc (Nat.le_refl _) (.cells #[.int .i64 x.f0, .int .i64 x.f1, .int .i64 x.f2, .int .i64 x.f3, .int .i64 x.f4, .slice A5 x.f5.length c5] 30)))
      have hBx := HS.out.sz
      have HRW := Aside0.mk (Kd.R_below (Kd.R_mono (ok' := fun k => k ≠ wr.heap.size) (Kd.R_bound HS.out.rw) (fun k hk => by have := hk.2.2.1; omega)) ((Below.refl _ wr).alloc (Nat.le_refl _) (.cells #[.int .i64 x.f0, .int .i64 x.f1, .int .i64 x.f2, .int .i64 x.f3, .int .i64 x.f4, .slice A5 x.f5.length c5] 30)))
      generalize wr.alloc (.cells #[.int .i64 x.f0, .int .i64 x.f1, .int .i64 x.f2, .int .i64 x.f3, .int .i64 x.f4, .slice A5 x.f5.length c5] 30) = W1 at *
      generalize wr.heap.size = Bx at *
      clear HS hC5 hx0 hx1 hx2 hx3 hx4 hx5 lk1 lk0
      have hRp : ∀ W, Below W1.heap.size W1 W → Calls Try.prog 55 #[.pointer (some ⟨w.heap.size + 4, 0, none⟩), .agg #[.int .i64 x.f0, .int .i64 x.f1, .int .i64 x.f2, .int .i64 x.f3, .int .i64 x.f4, .slice A5 x.f5.length c5]] W (ReplPost (replP c x) W) := fun W hb => repl_plain _ _ _ _ m c x A5 c5 xw'.out.h2 xw'.out.h3 W (HS1.out.fa.below hb) (Kd.C_below hC6.out hb) x7'.out
      have hrw := replP_wf HS1.out.fa.mc.ok xw'.out
      have hOp : ∀ W A' c', Below W1.heap.size W1 W → Kd.C (Kd.int .i64) W A' (replP c x).f5.length (replP c x).f5 → Calls Try.prog 54 #[.map (some (w.heap.size + 2)), .agg #[.int .i64 (replP c x).f0, .int .i64 (replP c x).f1, .int .i64 (replP c x).f2, .int .i64 (replP c x).f3, .int .i64 (replP c x).f4, .slice A' (replP c x).f5.length c']] W (OpPost (opP m (replP c x)) W) := fun W A' c' hb hC => op_any _ _ m (replP c x) A' c' hrw.h2 hrw.h3 W (HS1.out.fa.mn.below hb) hC (by rw [replP_len]; exact xa'.out)
      have hyw := Aside0.mk (opP_wf HS1.out.fa.mn.ok hrw)
      have hyl := Aside0.mk (Nat.le_trans (opP_len m (replP c x)) (by rw [replP_len]; exact xa'.out))
      have hlf : learnF m c (opP m (replP c x)) = learnF m c (opP m (replP c x)) := rfl
      clear hrw hlf
      generalize replP c x = xr at *
      generalize opP m xr = y at *
      have g0 := HS1.out.fa.c0
      have hlg : w.heap.size + 4 < W1.heap.size := HS1.out.fa.lt
      have hlx : Bx < W1.heap.size := blk_lt BX.out
      have x0 : W1.cell? ⟨Bx, 0, none⟩ = some (.int .i64 x.f0) := (blk_cell BX.out 0).trans rfl
      have x1 : W1.cell? ⟨Bx, 1, none⟩ = some (.int .i64 x.f1) := (blk_cell BX.out 1).trans rfl
      have x2 : W1.cell? ⟨Bx, 2, none⟩ = some (.int .i64 x.f2) := (blk_cell BX.out 2).trans rfl
      have x3 : W1.cell? ⟨Bx, 3, none⟩ = some (.int .i64 x.f3) := (blk_cell BX.out 3).trans rfl
      have x4 : W1.cell? ⟨Bx, 4, none⟩ = some (.int .i64 x.f4) := (blk_cell BX.out 4).trans rfl
      have x5 : W1.cell? ⟨Bx, 5, none⟩ = some (.slice A5 x.f5.length c5) := (blk_cell BX.out 5).trans rfl
      have fz : ∀ i, W1.frozen? ⟨Bx, i, none⟩ = false := fun i => blk_frozen BX.out i
      go_cut [] (fun wx => ∃ v5, CR w W1 wx (some ad) l cp t m c outs v k Bx y v5)
      case first =>
        go_region_with (first | (go_at_call 55; refine (hRp _ (by first | exact Below.refl _ _ | exact below_un (Below.refl _ _) | exact (Below.refl _ _).drew)).mono ?_; rintro e w2 ⟨A', c', he, hC', hb2⟩; obtain rfl : e = .returned (.agg #[.int .i64 xr.f0, .int .i64 xr.f1, .int .i64 xr.f2, .int .i64 xr.f3, .int .i64 xr.f4, .slice A' xr.f5.length c']) := he; have HB2 : Aside0 (Below W1.heap.size W1 w2) := Aside0.mk ⟨hb2.os, hb2.tape, hb2.output, hb2.size, hb2.block⟩; have hc2 : ∀ b o, b < W1.heap.size → w2.cell? ⟨b, o, none⟩ = W1.cell? ⟨b, o, none⟩ := (fun b o h => HB2.out.cell (p := ⟨b, o, none⟩) h); have hf2 : ∀ b o, b < W1.heap.size → w2.frozen? ⟨b, o, none⟩ = W1.frozen? ⟨b, o, none⟩ := (fun b o h => HB2.out.frozen (p := ⟨b, o, none⟩) h); have hC7 := Aside0.mk hC'; clear hb2 hC') | (go_at_call 54; refine (hOp _ _ _ (by first | exact HB2.out | exact below_un HB2.out | exact HB2.out.drew) hC7.out).mono ?_; rintro e w3 ⟨v5, he, hr5, hb3⟩; obtain ⟨B5, d5, rfl⟩ := Kd.R_slice hr5; obtain rfl : e = .returned (.agg #[.int .i64 y.f0, .int .i64 y.f1, .int .i64 y.f2, .int .i64 y.f3, .int .i64 y.f4, .slice B5 y.f5.length d5]) := he; have HB3 : Aside0 (Below W1.heap.size W1 w3) := Aside0.mk (HB2.out.trans ((show Below w2.heap.size w2 w3 from ⟨hb3.os, hb3.tape, hb3.output, hb3.size, hb3.block⟩).mono HB2.out.size)); have hc3 : ∀ b o, b < W1.heap.size → w3.cell? ⟨b, o, none⟩ = W1.cell? ⟨b, o, none⟩ := (fun b o h => HB3.out.cell (p := ⟨b, o, none⟩) h); have hf3 : ∀ b o, b < W1.heap.size → w3.frozen? ⟨b, o, none⟩ = W1.frozen? ⟨b, o, none⟩ := (fun b o h => HB3.out.frozen (p := ⟨b, o, none⟩) h); have hR5 := Aside0.mk hr5; clear hb3 hr5))
        all_goals (go_wp2_with fail; go_meet)
        all_goals exact ⟨.slice B5 y.f5.length d5, (BS.box (BS.box (BS.box (BS.box (BS.box (BS.box ⟨HS1.out.below HB3.out, Kd.R_below HRW.out HB3.out⟩ hBx 0 (.int .i64 y.f0)) hBx 1 (.int .i64 y.f1)) hBx 2 (.int .i64 y.f2)) hBx 3 (.int .i64 y.f3)) hBx 4 (.int .i64 y.f4)) hBx 5 (.slice B5 y.f5.length d5)).1, (blk_set (blk_set (blk_set (blk_set (blk_set (blk_set (blk_below BX.out HB3.out) 0 (.int .i64 y.f0)) 1 (.int .i64 y.f1)) 2 (.int .i64 y.f2)) 3 (.int .i64 y.f3)) 4 (.int .i64 y.f4)) 5 (.slice B5 y.f5.length d5)), Kd.R_lower (Kd.R_mono (Kd.R_far (p := ⟨Bx, 5, none⟩) (Kd.R_far (p := ⟨Bx, 4, none⟩) (Kd.R_far (p := ⟨Bx, 3, none⟩) (Kd.R_far (p := ⟨Bx, 2, none⟩) (Kd.R_far (p := ⟨Bx, 1, none⟩) (Kd.R_far (p := ⟨Bx, 0, none⟩) (Kd.R_mono (ok' := fun k => k ≠ Bx) (Kd.R_bound hR5.out) (fun k hk => by have h1_ := hk.2.1; have h2_ := HB2.out.size; omega)) (fun k hk => hk) _) (fun k hk => hk) _) (fun k hk => hk) _) (fun k hk => hk) _) (fun k hk => hk) _) (fun k hk => hk) _) (fun _ _ => trivial)) HB2.out.size⟩
      case rest =>
        obtain ⟨v5, hCR⟩ := hcut
        obtain ⟨B5, d5, rfl⟩ := Kd.R_slice hCR.r5
        have HCR := Aside0.mk hCR
        have hvlt := Aside0.mk (show ∀ k, v.ownBlock = some k → k < W1.heap.size from fun k hk => by obtain ⟨inner, ho⟩ := Kd.R_own HS1.out.rw; exact own_lt ho k hk)
        obtain ⟨B6, d6, e6, hl6, hC8⟩ := Kd.R_reads hCR.r5
        injection e6 with e6a _ e6c
        subst e6a e6c
        have hLn : Calls Try.prog 56 #[.pointer (some ⟨w.heap.size + 4, 0, none⟩), .agg #[.int .i64 y.f0, .int .i64 y.f1, .int .i64 y.f2, .int .i64 y.f3, .int .i64 y.f4, .slice B5 y.f5.length d5]] wc (LearnPost wc (w.heap.size + 4) (w.heap.size + 2) (w.heap.size + 3) k (learnF m c y).1 (learnF m c y).2) := learn_any _ _ _ k m c y B5 d5 hyw.out (by have := HI.out.len; have := hlt'.out; unfold maxLen; omega) wc hCR.bs.fa hC8 hl6
        have z0 : wc.cell? ⟨Bx, 0, none⟩ = some (.int .i64 y.f0) := (blk_cell hCR.bx 0).trans rfl
        have z1 : wc.cell? ⟨Bx, 1, none⟩ = some (.int .i64 y.f1) := (blk_cell hCR.bx 1).trans rfl
        have z2 : wc.cell? ⟨Bx, 2, none⟩ = some (.int .i64 y.f2) := (blk_cell hCR.bx 2).trans rfl
        have z3 : wc.cell? ⟨Bx, 3, none⟩ = some (.int .i64 y.f3) := (blk_cell hCR.bx 3).trans rfl
        have z4 : wc.cell? ⟨Bx, 4, none⟩ = some (.int .i64 y.f4) := (blk_cell hCR.bx 4).trans rfl
        have z5 : wc.cell? ⟨Bx, 5, none⟩ = some (.slice B5 y.f5.length d5) := (blk_cell hCR.bx 5).trans rfl
        have HW := Aside0.mk (HS1.out.sz)
        clear hCR hl6 hC8 hRp hOp g0 hlg x0 x1 x2 x3 x4 x5 fz HRW HS1 BX hC6 xw' xa' x7' hl5'
        obtain ⟨m', hm'⟩ : ∃ m', m' = (learnF m c y).1 := ⟨_, rfl⟩
        obtain ⟨c', hc'⟩ : ∃ c', c' = (learnF m c y).2 := ⟨_, rfl⟩
        rw [← hm', ← hc'] at hLn
        have hmc := Aside0.mk (show learnF m c y = (m', c') by rw [hm', hc'])
        clear hm' hc'
        go_wp2_with (first | (go_at_call 56; refine hLn.mono ?_; rintro e w4 ⟨rfl, hf4, hg4⟩; have HB4 := Aside0.mk (HCR.out.bs.learn hg4 hf4); have hb4 : w4.heap[Bx]? = _ := (hg4.block Bx (blk_lt HCR.out.bx) (by omega) (by omega)).trans HCR.out.bx; have y0 : w4.cell? ⟨Bx, 0, none⟩ = some (.int .i64 y.f0) := (blk_cell hb4 0).trans rfl; have y1 : w4.cell? ⟨Bx, 1, none⟩ = some (.int .i64 y.f1) := (blk_cell hb4 1).trans rfl; have y2 : w4.cell? ⟨Bx, 2, none⟩ = some (.int .i64 y.f2) := (blk_cell hb4 2).trans rfl; have y3 : w4.cell? ⟨Bx, 3, none⟩ = some (.int .i64 y.f3) := (blk_cell hb4 3).trans rfl; have y4 : w4.cell? ⟨Bx, 4, none⟩ = some (.int .i64 y.f4) := (blk_cell hb4 4).trans rfl; have y5 : w4.cell? ⟨Bx, 5, none⟩ = some (.slice B5 y.f5.length d5) := (blk_cell hb4 5).trans rfl; have o0 : w4.cell? ⟨w.heap.size + 5, 0, none⟩ = some v := (blk_cell HB4.out.b5 0).trans rfl; have HR5 := Aside0.mk (Kd.R_step (Kd.R_mono (ok' := fun k => W1.heap.size ≤ k) (Kd.R_bound HCR.out.r5) (fun k hk => hk.2.1)) (fun k hk hlt => hg4.block k hlt (by have := HW.out; omega) (by have := HW.out; omega))); clear hf4 hg4 hb4) | ((with_reducible refine gate_builtin (b := .append) (xs := #[.tmp 30, .tmp 32]) rfl ?_); at_builtin; refine Kd.R_append k30 (w0 := w4) (w.heap.size + 6) rfl (.tmp 30) (.tmp 32) 26 30 (.agg #[(.int .i64 0), (.int .i64 0), (.int .i64 0), (.int .i64 0), (.int .i64 0), (.slice none 0 0)]) 64 rfl Try.underlying26 info30 rfl (by decide) (by omega) v outs y [.int .i64 y.f0, .int .i64 y.f1, .int .i64 y.f2, .int .i64 y.f3, .int .i64 y.f4, .slice B5 y.f5.length d5] (fun _ => True) (fun k => some k ≠ v.ownBlock) rfl rfl ?aP (fun _ hk => ⟨trivial, hk⟩) (fun _ _ => trivial) ?aO ?aB ?aS ?aL ?_; (case aP => exact k30_mkM _ _ _ y (Kd.R_lower (Kd.R_mono HR5.out (fun k hk heq => by have h_ := hvlt.out k heq.symm; omega)) (by have := HW.out; omega))); (case aO => exact HB4.out.rw); (case aB => exact Below.refl _ _); (case aS => exact HB4.out.sz); (case aL => have := HI.out.len; have := hlt'.out; have := hol'.out; omega); intro v1 w5 ho hb hg hat; obtain ⟨A1, n1, rfl⟩ := Kd.R_slice ho; have HB5 := Aside0.mk (HB4.out.appended ho hb); have p5 := (hb.block (w.heap.size + 5) (by omega)).trans HB4.out.b5; have o1 : w5.cell? ⟨w.heap.size + 5, 0, none⟩ = some v := (blk_cell p5 0).trans rfl; have f1 : w5.frozen? ⟨w.heap.size + 5, 0, none⟩ = false := blk_frozen p5 0; clear p5 ho hb hg hat))
        go_roundw
        case rel => exact ⟨k + 1, _, hlt'.out, congrArg _ hstep.out, Aside0.mk (by have h1 := hN.out; have h2 := HB5.out; have h3 : (outs ++ [y]).length = outs.length + 1 := (by simp); unfold foldSt; rw [h1, hmc.out]; rw [h3] at h2; exact h2)⟩
        case measure => exact meas_ hlt'.out hstep.out
    · obtain rfl : k = l.length := by omega
      clear hlt hk
      rw [List.take_length] at HS
      obtain ⟨vA, vc, rfl⟩ := Kd.R_slice HS.out.rw
      have hT := term_any _ _ _ l.length (foldSt l).2.1 (foldSt l).2.2 t HI.out.wft wr HS.out.fa
      unfold tV at hT
      obtain ⟨outs, hov⟩ : ∃ outs, outs = (foldSt l).1 := ⟨_, rfl⟩
      obtain ⟨t', ht'⟩ : ∃ t', t' = termP (foldSt l).2.1 (foldSt l).2.2 t := ⟨_, rfl⟩
      rw [← ht'] at hT
      rw [← hov] at HS
      have hbp : Aside0 (blockP l t = (outs, t')) := Aside0.mk (by unfold blockP; rw [hov, ht'])
      have b1 : wr.cell? ⟨w.heap.size, 1, none⟩ = some (.int .i64 t.f0) := (blk_cell HS.out.b0 1).trans rfl
      have b2 : wr.cell? ⟨w.heap.size, 2, none⟩ = some (.int .i64 t.f1) := (blk_cell HS.out.b0 2).trans rfl
      have b3 : wr.cell? ⟨w.heap.size, 3, none⟩ = some (.int .i64 t.f2) := (blk_cell HS.out.b0 3).trans rfl
      have b4 : wr.cell? ⟨w.heap.size, 4, none⟩ = some (.int .i64 t.f3) := (blk_cell HS.out.b0 4).trans rfl
      clear hov ht' HR HI
      go_wp2_with (go_at_call 57; refine hT.mono ?_; rintro e w4 ⟨rfl, hb4⟩; have HB4 := Aside0.mk (HS.out.below hb4); have s0 : w4.cell? ⟨w.heap.size + 5, 0, none⟩ = some (Value.slice vA outs.length vc) := (blk_cell HB4.out.b5 0).trans rfl; have g0 : w4.frozen? ⟨w.heap.size + 5, 0, none⟩ = false := blk_frozen HB4.out.b5 0; have s1 : w4.cell? ⟨w.heap.size + 5, 1, none⟩ = some (.int .i64 0) := (blk_cell HB4.out.b5 1).trans rfl; have g1 : w4.frozen? ⟨w.heap.size + 5, 1, none⟩ = false := blk_frozen HB4.out.b5 1; have s2 : w4.cell? ⟨w.heap.size + 5, 2, none⟩ = some (.int .i64 0) := (blk_cell HB4.out.b5 2).trans rfl; have g2 : w4.frozen? ⟨w.heap.size + 5, 2, none⟩ = false := blk_frozen HB4.out.b5 2; have s3 : w4.cell? ⟨w.heap.size + 5, 3, none⟩ = some (.int .i64 0) := (blk_cell HB4.out.b5 3).trans rfl; have g3 : w4.frozen? ⟨w.heap.size + 5, 3, none⟩ = false := blk_frozen HB4.out.b5 3; have s4 : w4.cell? ⟨w.heap.size + 5, 4, none⟩ = some (.int .i64 0) := (blk_cell HB4.out.b5 4).trans rfl; have g4 : w4.frozen? ⟨w.heap.size + 5, 4, none⟩ = false := blk_frozen HB4.out.b5 4; have q0 : ((((w4.setCell ⟨w.heap.size + 5, 1, none⟩ (.int .i64 t'.f0)).setCell ⟨w.heap.size + 5, 2, none⟩ (.int .i64 t'.f1)).setCell ⟨w.heap.size + 5, 3, none⟩ (.int .i64 t'.f2)).setCell ⟨w.heap.size + 5, 4, none⟩ (.int .i64 t'.f3)).cell? ⟨w.heap.size + 5, 0, none⟩ = some (Value.slice vA outs.length vc) := (blk_cell (blk_set (blk_set (blk_set (blk_set HB4.out.b5 1 (.int .i64 t'.f0)) 2 (.int .i64 t'.f1)) 3 (.int .i64 t'.f2)) 4 (.int .i64 t'.f3)) 0).trans rfl; have q1 : ((((w4.setCell ⟨w.heap.size + 5, 1, none⟩ (.int .i64 t'.f0)).setCell ⟨w.heap.size + 5, 2, none⟩ (.int .i64 t'.f1)).setCell ⟨w.heap.size + 5, 3, none⟩ (.int .i64 t'.f2)).setCell ⟨w.heap.size + 5, 4, none⟩ (.int .i64 t'.f3)).cell? ⟨w.heap.size + 5, 1, none⟩ = some (.int .i64 t'.f0) := (blk_cell (blk_set (blk_set (blk_set (blk_set HB4.out.b5 1 (.int .i64 t'.f0)) 2 (.int .i64 t'.f1)) 3 (.int .i64 t'.f2)) 4 (.int .i64 t'.f3)) 1).trans rfl; have q2 : ((((w4.setCell ⟨w.heap.size + 5, 1, none⟩ (.int .i64 t'.f0)).setCell ⟨w.heap.size + 5, 2, none⟩ (.int .i64 t'.f1)).setCell ⟨w.heap.size + 5, 3, none⟩ (.int .i64 t'.f2)).setCell ⟨w.heap.size + 5, 4, none⟩ (.int .i64 t'.f3)).cell? ⟨w.heap.size + 5, 2, none⟩ = some (.int .i64 t'.f1) := (blk_cell (blk_set (blk_set (blk_set (blk_set HB4.out.b5 1 (.int .i64 t'.f0)) 2 (.int .i64 t'.f1)) 3 (.int .i64 t'.f2)) 4 (.int .i64 t'.f3)) 2).trans rfl; have q3 : ((((w4.setCell ⟨w.heap.size + 5, 1, none⟩ (.int .i64 t'.f0)).setCell ⟨w.heap.size + 5, 2, none⟩ (.int .i64 t'.f1)).setCell ⟨w.heap.size + 5, 3, none⟩ (.int .i64 t'.f2)).setCell ⟨w.heap.size + 5, 4, none⟩ (.int .i64 t'.f3)).cell? ⟨w.heap.size + 5, 3, none⟩ = some (.int .i64 t'.f2) := (blk_cell (blk_set (blk_set (blk_set (blk_set HB4.out.b5 1 (.int .i64 t'.f0)) 2 (.int .i64 t'.f1)) 3 (.int .i64 t'.f2)) 4 (.int .i64 t'.f3)) 3).trans rfl; have q4 : ((((w4.setCell ⟨w.heap.size + 5, 1, none⟩ (.int .i64 t'.f0)).setCell ⟨w.heap.size + 5, 2, none⟩ (.int .i64 t'.f1)).setCell ⟨w.heap.size + 5, 3, none⟩ (.int .i64 t'.f2)).setCell ⟨w.heap.size + 5, 4, none⟩ (.int .i64 t'.f3)).cell? ⟨w.heap.size + 5, 4, none⟩ = some (.int .i64 t'.f3) := (blk_cell (blk_set (blk_set (blk_set (blk_set HB4.out.b5 1 (.int .i64 t'.f0)) 2 (.int .i64 t'.f1)) 3 (.int .i64 t'.f2)) 4 (.int .i64 t'.f3)) 4).trans rfl; have hfar := blk_far (blk_far (blk_far (blk_far HB4.out.b1 (p := ⟨w.heap.size + 5, 1, none⟩) (by show w.heap.size + 1 ≠ w.heap.size + 5; omega) (.int .i64 t'.f0)) (p := ⟨w.heap.size + 5, 2, none⟩) (by show w.heap.size + 1 ≠ w.heap.size + 5; omega) (.int .i64 t'.f1)) (p := ⟨w.heap.size + 5, 3, none⟩) (by show w.heap.size + 1 ≠ w.heap.size + 5; omega) (.int .i64 t'.f2)) (p := ⟨w.heap.size + 5, 4, none⟩) (by show w.heap.size + 1 ≠ w.heap.size + 5; omega) (.int .i64 t'.f3); have r0 : ((((w4.setCell ⟨w.heap.size + 5, 1, none⟩ (.int .i64 t'.f0)).setCell ⟨w.heap.size + 5, 2, none⟩ (.int .i64 t'.f1)).setCell ⟨w.heap.size + 5, 3, none⟩ (.int .i64 t'.f2)).setCell ⟨w.heap.size + 5, 4, none⟩ (.int .i64 t'.f3)).cell? ⟨w.heap.size + 1, 0, none⟩ = some (.slice none 0 0) := (blk_cell hfar 0).trans rfl; have e0 : ((((w4.setCell ⟨w.heap.size + 5, 1, none⟩ (.int .i64 t'.f0)).setCell ⟨w.heap.size + 5, 2, none⟩ (.int .i64 t'.f1)).setCell ⟨w.heap.size + 5, 3, none⟩ (.int .i64 t'.f2)).setCell ⟨w.heap.size + 5, 4, none⟩ (.int .i64 t'.f3)).frozen? ⟨w.heap.size + 1, 0, none⟩ = false := blk_frozen hfar 0; have r1 : ((((w4.setCell ⟨w.heap.size + 5, 1, none⟩ (.int .i64 t'.f0)).setCell ⟨w.heap.size + 5, 2, none⟩ (.int .i64 t'.f1)).setCell ⟨w.heap.size + 5, 3, none⟩ (.int .i64 t'.f2)).setCell ⟨w.heap.size + 5, 4, none⟩ (.int .i64 t'.f3)).cell? ⟨w.heap.size + 1, 1, none⟩ = some (.int .i64 0) := (blk_cell hfar 1).trans rfl; have e1 : ((((w4.setCell ⟨w.heap.size + 5, 1, none⟩ (.int .i64 t'.f0)).setCell ⟨w.heap.size + 5, 2, none⟩ (.int .i64 t'.f1)).setCell ⟨w.heap.size + 5, 3, none⟩ (.int .i64 t'.f2)).setCell ⟨w.heap.size + 5, 4, none⟩ (.int .i64 t'.f3)).frozen? ⟨w.heap.size + 1, 1, none⟩ = false := blk_frozen hfar 1; have r2 : ((((w4.setCell ⟨w.heap.size + 5, 1, none⟩ (.int .i64 t'.f0)).setCell ⟨w.heap.size + 5, 2, none⟩ (.int .i64 t'.f1)).setCell ⟨w.heap.size + 5, 3, none⟩ (.int .i64 t'.f2)).setCell ⟨w.heap.size + 5, 4, none⟩ (.int .i64 t'.f3)).cell? ⟨w.heap.size + 1, 2, none⟩ = some (.int .i64 0) := (blk_cell hfar 2).trans rfl; have e2 : ((((w4.setCell ⟨w.heap.size + 5, 1, none⟩ (.int .i64 t'.f0)).setCell ⟨w.heap.size + 5, 2, none⟩ (.int .i64 t'.f1)).setCell ⟨w.heap.size + 5, 3, none⟩ (.int .i64 t'.f2)).setCell ⟨w.heap.size + 5, 4, none⟩ (.int .i64 t'.f3)).frozen? ⟨w.heap.size + 1, 2, none⟩ = false := blk_frozen hfar 2; have r3 : ((((w4.setCell ⟨w.heap.size + 5, 1, none⟩ (.int .i64 t'.f0)).setCell ⟨w.heap.size + 5, 2, none⟩ (.int .i64 t'.f1)).setCell ⟨w.heap.size + 5, 3, none⟩ (.int .i64 t'.f2)).setCell ⟨w.heap.size + 5, 4, none⟩ (.int .i64 t'.f3)).cell? ⟨w.heap.size + 1, 3, none⟩ = some (.int .i64 0) := (blk_cell hfar 3).trans rfl; have e3 : ((((w4.setCell ⟨w.heap.size + 5, 1, none⟩ (.int .i64 t'.f0)).setCell ⟨w.heap.size + 5, 2, none⟩ (.int .i64 t'.f1)).setCell ⟨w.heap.size + 5, 3, none⟩ (.int .i64 t'.f2)).setCell ⟨w.heap.size + 5, 4, none⟩ (.int .i64 t'.f3)).frozen? ⟨w.heap.size + 1, 3, none⟩ = false := blk_frozen hfar 3; have r4 : ((((w4.setCell ⟨w.heap.size + 5, 1, none⟩ (.int .i64 t'.f0)).setCell ⟨w.heap.size + 5, 2, none⟩ (.int .i64 t'.f1)).setCell ⟨w.heap.size + 5, 3, none⟩ (.int .i64 t'.f2)).setCell ⟨w.heap.size + 5, 4, none⟩ (.int .i64 t'.f3)).cell? ⟨w.heap.size + 1, 4, none⟩ = some (.int .i64 0) := (blk_cell hfar 4).trans rfl; have e4 : ((((w4.setCell ⟨w.heap.size + 5, 1, none⟩ (.int .i64 t'.f0)).setCell ⟨w.heap.size + 5, 2, none⟩ (.int .i64 t'.f1)).setCell ⟨w.heap.size + 5, 3, none⟩ (.int .i64 t'.f2)).setCell ⟨w.heap.size + 5, 4, none⟩ (.int .i64 t'.f3)).frozen? ⟨w.heap.size + 1, 4, none⟩ = false := blk_frozen hfar 4; clear hfar hb4)
      refine bodyPost_ret (v := .agg #[Value.slice vA outs.length vc, .int .i64 t'.f0, .int .i64 t'.f1, .int .i64 t'.f2, .int .i64 t'.f3]) (by simp [results, Try.results28, go_sem, *]) rfl ⟨_, by rw [hbp.out], ?_, ?_⟩
      · rw [hbp.out]
        exact Kd.R_lower (Kd.R_mono (Kd.R_far (p := ⟨w.heap.size + 1, 4, none⟩) (Kd.R_far (p := ⟨w.heap.size + 1, 3, none⟩) (Kd.R_far (p := ⟨w.heap.size + 1, 2, none⟩) (Kd.R_far (p := ⟨w.heap.size + 1, 1, none⟩) (Kd.R_far (p := ⟨w.heap.size + 1, 0, none⟩) (Kd.R_far (p := ⟨w.heap.size + 5, 4, none⟩) (Kd.R_far (p := ⟨w.heap.size + 5, 3, none⟩) (Kd.R_far (p := ⟨w.heap.size + 5, 2, none⟩) (Kd.R_far (p := ⟨w.heap.size + 5, 1, none⟩) (Kd.R_mono (ok' := fun k => w.heap.size + 6 ≤ k) (Kd.R_bound HB4.out.rw) (fun k hk => hk.2.1)) (fun k hk => by show k ≠ w.heap.size + 5; omega) _) (fun k hk => by show k ≠ w.heap.size + 5; omega) _) (fun k hk => by show k ≠ w.heap.size + 5; omega) _) (fun k hk => by show k ≠ w.heap.size + 5; omega) _) (fun k hk => by show k ≠ w.heap.size + 1; omega) _) (fun k hk => by show k ≠ w.heap.size + 1; omega) _) (fun k hk => by show k ≠ w.heap.size + 1; omega) _) (fun k hk => by show k ≠ w.heap.size + 1; omega) _) (fun k hk => by show k ≠ w.heap.size + 1; omega) _) (fun _ _ => trivial)) (by omega)
      · exact (((((((((HB4.out.be).setCell (p := ⟨w.heap.size + 5, 1, none⟩) (by simp) _).setCell (p := ⟨w.heap.size + 5, 2, none⟩) (by simp) _).setCell (p := ⟨w.heap.size + 5, 3, none⟩) (by simp) _).setCell (p := ⟨w.heap.size + 5, 4, none⟩) (by simp) _).setCell (p := ⟨w.heap.size + 1, 0, none⟩) (by simp) _).setCell (p := ⟨w.heap.size + 1, 1, none⟩) (by simp) _).setCell (p := ⟨w.heap.size + 1, 2, none⟩) (by simp) _).setCell (p := ⟨w.heap.size + 1, 3, none⟩) (by simp) _).setCell (p := ⟨w.heap.size + 1, 4, none⟩) (by simp) _
end Go.Proofs.Ytmacdhkfgoahcaa.Fo
