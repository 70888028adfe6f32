/- Contracts, walked by hand: the numbers of rows (fold.of), an operation by them (fold.Op). For every rows, every operation. -/
import Derived.RegionCalls
import Derived.BigCall
import Derived.Test.YtmacdhkfgoahcaaFoI
set_option linter.unusedVariables false
set_option linter.unusedSimpArgs false
namespace Go.Proofs.Ytmacdhkfgoahcaa.Fo
open Go Go.RowKit Go.Maps Go.Proofs.Ytmacdhkfgoahcaa.Q Go.Proofs.YtmacdhkfgoahcaaW.PrintWords Go.Proofs.YtmacdhkfgoahcaaW.PrintLast Go.Proofs.YtmacdhkfgoahcaaW.PrintMore
/-- Rows of two ints. -/
def Pairs (w : World) (A : Option Addr) (l : List (Int × Int)) : Prop := ∀ j, (h : j < l.length) → ∃ x, A = some x ∧ x.block < w.heap.size ∧ w.cell? (x.add (j * 2)) = some (.int .i64 l[j].1) ∧ w.cell? ⟨(x.add (j * 2)).block, (x.add (j * 2)).off + 1, none⟩ = some (.int .i64 l[j].2)
def ofStep (m : Fn) (p : Int × Int) : Fn := if (m p.1).isSome = true then m else put m p.1 p.2
def ofP (l : List (Int × Int)) : Fn := l.foldl ofStep (fun _ => none)
theorem ofP_snoc (l : List (Int × Int)) (p : Int × Int) : ofP (l ++ [p]) = ofStep (ofP l) p := by unfold ofP; rw [List.foldl_append]; rfl
def OfPost (l : List (Int × Int)) (w : World) (e : Ending) (w' : World) : Prop := ∃ b, e = .returned (.map (some b)) ∧ MapI w' b l.length (ofP l) ∧ Below w.heap.size w w'
theorem meas2 {L k : Nat} {x : Int} (h : k < L) (e : x = ((k + 1 : Nat) : Int)) : L - (intOf (.int .i64 x)).toNat < L - (intOf (.int .i64 (k : Int))).toNat := by
  subst e; simp only [intOf, Int.toNat_natCast]; omega
theorem put_map' {w w' : World} {b cnt : Nat} {m : Fn} {D : DataW Unit} (hw : w.ownsMap Try.prog 3 (plainElem Try.prog 3) b cnt D) (hT : Tells D m) (hok : ∀ a n, m a = some n → wf n) (a v : Int) (hv : wf v) (h : w'.ownsMap Try.prog 3 (plainElem Try.prog 3) b (cnt + 1) (D.put (.int .i64 a) (.lit (.int .i64 v)))) : MapI w' b (cnt + 1) (put m a v) :=
  ⟨⟨_, h, hT.put hw.isMap a v⟩, fun x n hx => by unfold put at hx; split at hx; (· injection hx with hx; rw [← hx]; exact hv); (· exact hok x n hx)⟩
set_option maxHeartbeats 8000000 in
set_option maxRecDepth 100000 in
theorem of_any (A : Option Addr) (cp : Nat) (l : List (Int × Int)) (w : World) (hp : Pairs w A l) (hwf : ∀ p ∈ l, wf p.1 ∧ wf p.2) (hl : l.length < 1099511627776) :
    Calls Try.prog 76 #[.slice A l.length cp] w (OfPost l w) := by
  have hmm := @run_makeMap Try.prog
  have HP := Aside0.mk hp
  have HW := Aside0.mk hwf
  have HL := Aside0.mk hl
  have HS : Aside0 (MapI (w.alloc (.map #[] 0)) w.heap.size 0 (ofP (l.take 0)) ∧ Below w.heap.size w (w.alloc (.map #[] 0))) := Aside0.mk ⟨MapI.made w, (Below.refl _ _).alloc (Nat.le_refl _) _⟩
  clear hp hwf hl
  go_enter Try.func76, Try.ntmps76
  go_wp2
  generalize w.alloc (.map #[] 0) = W0 at *
  clear hmm
  go_loopw [11] (fun v11 wr => ∃ k : Nat, k ≤ l.length ∧ v11 = .int .i64 k ∧ Aside0 (MapI wr w.heap.size k (ofP (l.take k)) ∧ Below w.heap.size w wr)) (fun v11 _ => l.length - (intOf v11).toNat)
  case atStart => exact ⟨0, Nat.zero_le _, rfl, HS⟩
  case round =>
    clear HS
    obtain ⟨k, hk, rfl, HS⟩ := hrel
    by_cases hlt : k < l.length
    · obtain ⟨ad, e, hb, hx0, hx1⟩ := HP.out k hlt
      subst e
      replace hx0 := (HS.out.2.cell (p := ad.add (k * 2)) (by rw [add_block]; exact hb)).trans hx0
      replace hx1 := (HS.out.2.cell (p := ⟨(ad.add (k * 2)).block, (ad.add (k * 2)).off + 1, none⟩) (by show (ad.add (k * 2)).block < _; rw [add_block]; exact hb)).trans hx1
      have hpw := HW.out l[k] (List.getElem_mem hlt)
      have hsn := ofP_snoc (l.take k) l[k]
      rw [← List.take_succ_eq_append_getElem hlt] at hsn
      obtain ⟨p, hp⟩ : ∃ p, p = l[k] := ⟨_, rfl⟩
      rw [← hp] at hx0 hx1 hpw hsn
      have hN := Aside0.mk hsn
      have hw2 := Aside0.mk hpw.2
      have hb1 := Aside0.mk ((Below.refl wr.heap.size wr).alloc (Nat.le_refl _) (.cells #[.int .i64 p.1, .int .i64 p.2] 76))
      have hM := HS.out.1.below hb1.out
      have hBL := Aside0.mk (HS.out.2.trans (hb1.out.mono HS.out.2.size))
      obtain ⟨D, hD, hh, hv⟩ := hM.gives p.1 hpw.1
      have hkey := key3 hpw.1
      have hpw0 := Aside0.mk hpw.1
      have hT' := hM.ex
      have HM := Aside0.mk hM
      replace hD := Aside0.mk hD
      have lk1 : (k : Int) < (l.length : Int) := by omega
      have lk0 : (0 : Int) ≤ (k : Int) := by omega
      have hstep := Aside0.mk (show wrap64 ((k : Int) + 1) = ((k + 1 : Nat) : Int) by have := HL.out; unfold wrap64; omega)
      have hlt' := Aside0.mk hlt
      have hcl := Aside0.mk (show k < maxLen by have := HL.out; unfold maxLen; omega)
      have hval := Aside0.mk (show plainElem (H := Unit) Try.prog 3 (.int .i64 p.2) = some (.lit (.int .i64 p.2), []) from plainElem_int Try.underlying3 hpw.2)
      clear hb hpw hsn hp hM hT' hlt hk HS hb1
      cases hs : ofP (l.take k) p.1 with
      | some n =>
        rw [hs] at hh hv
        rw [Option.isSome_some] at hh
        have hE : Aside0 (ofP (l.take (k + 1)) = ofP (l.take k)) := Aside0.mk (by rw [hN.out]; unfold ofStep; rw [hs]; rfl)
        clear hs hN
        go_wp2_with (at_lookup; refine wpList_lookup_own_ok_int _ rfl _ _ 81 rfl 3 3 .i64 law3 Try.underlying81 Try.underlying3 (zero3 _) w.heap.size k _ rfl hD.out _ _ rfl hkey ?_; intro v hat hwc; clear hat hwc)
        go_roundw
        case rel => exact ⟨k + 1, hlt'.out, congrArg _ hstep.out, Aside0.mk ⟨by rw [hE.out]; exact HM.out.mono (Nat.le_succ _), hBL.out⟩⟩
        case measure => exact meas2 hlt'.out hstep.out
      | none =>
        have hnone := hs
        rw [hs] at hh hv
        rw [Option.isSome_none] at hh
        have hE : Aside0 (ofP (l.take (k + 1)) = put (ofP (l.take k)) p.1 p.2) := Aside0.mk (by rw [hN.out]; unfold ofStep; rw [hs]; rfl)
        clear hs hN hD hh hv
        obtain ⟨D, hD, hT⟩ := HM.out.ex
        have hh := hT.has p.1 hpw0.out
        rw [hnone] at hh
        replace hh : Maps.has D (.int .i64 p.1) = false := hh
        replace hD := Aside0.mk hD
        replace hT := Aside0.mk hT
        have hok := Aside0.mk HM.out.ok
        go_wp2_with first | (at_lookup; refine wpList_lookup_own_ok_int _ rfl _ _ 81 rfl 3 3 .i64 law3 Try.underlying81 Try.underlying3 (zero3 _) w.heap.size k _ rfl hD.out _ _ rfl hkey ?_; intro v hat hwc; clear hat hwc) | (at_mapUpdate; refine wpList_mapUpdate_own _ rfl _ _ _ 81 rfl 3 3 law3 Try.underlying81 _ w.heap.size k _ rfl hD.out hcl.out _ _ _ rfl rfl hkey _ [] hval.out ?_; intro W9 hown hgrow; have hN := Aside0.mk (And.intro (put_map' hD.out hT.out hok.out p.1 p.2 hw2.out hown) hgrow); clear hown hgrow)
        go_roundw
        case rel => exact ⟨k + 1, hlt'.out, congrArg _ hstep.out, Aside0.mk ⟨by rw [hE.out]; exact hN.out.1, (hBL.out.grown hN.out.2 hBL.out.size (fun q hq => by injection hq with hq; exact Nat.le_of_eq hq))⟩⟩
        case measure => exact meas2 hlt'.out hstep.out
    · have hk' : k = l.length := by omega
      subst hk'
      have lk1 : ¬ ((l.length : Int) < (l.length : Int)) := by omega
      rw [List.take_length] at HS
      clear hlt hk HP HW
      go_wp2
      refine bodyPost_ret (v := .map (some w.heap.size)) (by simp [results, Try.results76, go_sem, *]) rfl ⟨_, rfl, HS.out.1, HS.out.2⟩
end Go.Proofs.Ytmacdhkfgoahcaa.Fo
