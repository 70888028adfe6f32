/- Texts of this work, joined: SyF21, SyF16, SyF51, SyF52, SyF26, SyF84, SyF62, SyF32, SyF8, FcE. -/
import Derived.Test.YtmacdhkfgoahcaaSyNFoldCountsb
set_option linter.unusedVariables false
set_option linter.unusedSimpArgs false
set_option maxRecDepth 100000
set_option maxHeartbeats 4000000
namespace Go.Proofs.Ytmacdhkfgoahcaa.Sy
open Go Go.RowKit Go.Proofs.YtmacdhkfgoahcaaW.PrintWords 
def swageref14_SameOp.f (a0 : S30) (a1 : S30) : Option Bool := (swageref02_Ints.f a0.f5 a1.f5).bind fun (y11 : Bool) => (if y11 = true then (if a0.f0 = a1.f0 then (if a0.f1 = a1.f1 then (if a0.f2 = a1.f2 then (if a0.f3 = a1.f3 then some (decide (a0.f4 = a1.f4)) else some false) else some false) else some false) else some false) else some false)
def swageref14_SameOp.post (G : Gd)  (r : Bool) (v : Value) (G' : Gd) (Lr : List Ch) : Prop := G = G' ∧ v = .bool r ∧ Lr = []
theorem swageref14_SameOp.calls {G : Gd} {r : Bool} {a0 : S30} {a1 : S30} {A1 : Option Addr} {c2 : Nat} {A5 : Option Addr} {c6 : Nat} (hr3 : Rd G (Kd.int .i64) A1 a0.f5) (hl4 : a0.f5.length ≤ c2) (hr7 : Rd G (Kd.int .i64) A5 a1.f5) (hl8 : a1.f5.length ≤ c6) (h : swageref14_SameOp.f a0 a1 = some r) : Fn Try.prog 21 G [] [.agg #[.int .i64 a0.f0, .int .i64 a0.f1, .int .i64 a0.f2, .int .i64 a0.f3, .int .i64 a0.f4, .slice A1 a0.f5.length c2], .agg #[.int .i64 a1.f0, .int .i64 a1.f1, .int .i64 a1.f2, .int .i64 a1.f3, .int .i64 a1.f4, .slice A5 a1.f5.length c6]] (swageref14_SameOp.post G  r) := by
 refine Fn.intro (e := [(0, .agg #[.int .i64 a0.f0, .int .i64 a0.f1, .int .i64 a0.f2, .int .i64 a0.f3, .int .i64 a0.f4, .slice A1 a0.f5.length c2]), (1, .agg #[.int .i64 a1.f0, .int .i64 a1.f1, .int .i64 a1.f2, .int .i64 a1.f3, .int .i64 a1.f4, .slice A5 a1.f5.length c6])]) 47 Try.func21 rfl Try.ntmps21 rfl rfl (Nat.le_of_ble_eq_true rfl) (fun L => ?_)
 unfold swageref14_SameOp.f at h
 refine TC.seq ?_
 refine TC.region ?_
 refine TL.cons (TL.box (cs := [.int .i64 a0.f0, .int .i64 a0.f1, .int .i64 a0.f2, .int .i64 a0.f3, .int .i64 a0.f4, .slice A1 a0.f5.length c2]) rfl rfl rfl rfl (fun b9 => ?_))
 refine TL.cons (TL.box (cs := [.int .i64 a1.f0, .int .i64 a1.f1, .int .i64 a1.f2, .int .i64 a1.f3, .int .i64 a1.f4, .slice A5 a1.f5.length c6]) rfl rfl rfl rfl (fun b10 => ?_))
 refine TL.cons (TO.val rfl rfl rfl (Val.assign rfl) ?_)
 refine TL.nil ?_
 refine TQ.then_ ?_
 refine TC.seq ?_
 refine TC.region ?_
 refine TL.cons (TO.val rfl rfl rfl (Val.fieldAddrB Try.underlying30 rfl fsz22 rfl rfl rfl) ?_)
 refine TL.cons (TO.val rfl rfl rfl (Val.loadB 1 agg22 rfl rfl rfl) ?_)
 refine TL.cons (TO.val rfl rfl rfl (Val.fieldAddrB Try.underlying30 rfl fsz22 rfl rfl rfl) ?_)
 refine TL.cons (TO.val rfl rfl rfl (Val.loadB 0 agg22 rfl rfl rfl) ?_)
 obtain ⟨y11, hy12, h⟩ := bind_no h
 refine TL.cons (TL.callV (Lin := []) (args := [.slice A1 a0.f5.length c2, .slice A5 a1.f5.length c6]) rfl rfl rfl hbd19 rfl rfl (swageref02_Ints.calls (a0 := a0.f5) (a1 := a1.f5) hr3 hl4 hr7 hl8 hy12) rfl ?_)
 rintro _ _ _ _ ⟨rfl, rfl, rfl⟩
 refine TL.cons (TO.val rfl rfl rfl (Val.assign rfl) ?_)
 refine TL.nil ?_
 refine TQ.then_ ?_
 refine TC.seq ?_
 refine TC.region ?_
 refine TL.cons (TO.val rfl rfl rfl (Val.move rfl) ?_)
 refine TL.cons (TO.val rfl rfl rfl (Val.move rfl) ?_)
 refine TK.split (p := y11 = true) h (fun hg28 h => ?_) (fun hg28 h => ?_)
 ·
  have hk29 : y11 = true := hg28
  refine TL.cons (TO.val (Wt.yes rfl rfl rfl hk29) rfl rfl (Val.fieldAddrB Try.underlying30 rfl fsz3 rfl rfl rfl) ?_)
  refine TL.cons (TO.val (Wt.yes rfl rfl rfl hk29) rfl rfl (Val.loadB 1 agg3 rfl rfl rfl) ?_)
  refine TL.cons (TO.val (Wt.yes rfl rfl rfl hk29) rfl rfl (Val.fieldAddrB Try.underlying30 rfl fsz3 rfl rfl rfl) ?_)
  refine TL.cons (TO.val (Wt.yes rfl rfl rfl hk29) rfl rfl (Val.loadB 0 agg3 rfl rfl rfl) ?_)
  refine TL.cons (TO.val (Wt.yes rfl rfl rfl hk29) rfl rfl (Val.cmp rfl rfl run_eql) ?_)
  refine TL.cons (TO.val rfl rfl rfl (Val.pickY rfl hk29 rfl) ?_)
  refine TL.cons (TO.val rfl rfl rfl (Val.move rfl) ?_)
  refine TK.split (p := a0.f0 = a1.f0) h (fun hg30 h => ?_) (fun hg30 h => ?_)
  ·
   have hk31 : decide (a0.f0 = a1.f0) = true := decide_eq_true hg30
   refine TL.cons (TO.val (Wt.yes rfl rfl rfl hk31) rfl rfl (Val.fieldAddrB Try.underlying30 rfl fsz3 rfl rfl rfl) ?_)
   refine TL.cons (TO.val (Wt.yes rfl rfl rfl hk31) rfl rfl (Val.loadB 1 agg3 rfl rfl rfl) ?_)
   refine TL.cons (TO.val (Wt.yes rfl rfl rfl hk31) rfl rfl (Val.fieldAddrB Try.underlying30 rfl fsz3 rfl rfl rfl) ?_)
   refine TL.cons (TO.val (Wt.yes rfl rfl rfl hk31) rfl rfl (Val.loadB 0 agg3 rfl rfl rfl) ?_)
   refine TL.cons (TO.val (Wt.yes rfl rfl rfl hk31) rfl rfl (Val.cmp rfl rfl run_eql) ?_)
   refine TL.cons (TO.val rfl rfl rfl (Val.pickY rfl hk31 rfl) ?_)
   refine TL.cons (TO.val rfl rfl rfl (Val.move rfl) ?_)
   refine TK.split (p := a0.f1 = a1.f1) h (fun hg32 h => ?_) (fun hg32 h => ?_)
   ·
    have hk33 : decide (a0.f1 = a1.f1) = true := decide_eq_true hg32
    refine TL.cons (TO.val (Wt.yes rfl rfl rfl hk33) rfl rfl (Val.fieldAddrB Try.underlying30 rfl fsz3 rfl rfl rfl) ?_)
    refine TL.cons (TO.val (Wt.yes rfl rfl rfl hk33) rfl rfl (Val.loadB 1 agg3 rfl rfl rfl) ?_)
    refine TL.cons (TO.val (Wt.yes rfl rfl rfl hk33) rfl rfl (Val.fieldAddrB Try.underlying30 rfl fsz3 rfl rfl rfl) ?_)
    refine TL.cons (TO.val (Wt.yes rfl rfl rfl hk33) rfl rfl (Val.loadB 0 agg3 rfl rfl rfl) ?_)
    refine TL.cons (TO.val (Wt.yes rfl rfl rfl hk33) rfl rfl (Val.cmp rfl rfl run_eql) ?_)
    refine TL.cons (TO.val rfl rfl rfl (Val.pickY rfl hk33 rfl) ?_)
    refine TL.cons (TO.val rfl rfl rfl (Val.move rfl) ?_)
    refine TK.split (p := a0.f2 = a1.f2) h (fun hg34 h => ?_) (fun hg34 h => ?_)
    ·
     have hk35 : decide (a0.f2 = a1.f2) = true := decide_eq_true hg34
     refine TL.cons (TO.val (Wt.yes rfl rfl rfl hk35) rfl rfl (Val.fieldAddrB Try.underlying30 rfl fsz3 rfl rfl rfl) ?_)
     refine TL.cons (TO.val (Wt.yes rfl rfl rfl hk35) rfl rfl (Val.loadB 1 agg3 rfl rfl rfl) ?_)
     refine TL.cons (TO.val (Wt.yes rfl rfl rfl hk35) rfl rfl (Val.fieldAddrB Try.underlying30 rfl fsz3 rfl rfl rfl) ?_)
     refine TL.cons (TO.val (Wt.yes rfl rfl rfl hk35) rfl rfl (Val.loadB 0 agg3 rfl rfl rfl) ?_)
     refine TL.cons (TO.val (Wt.yes rfl rfl rfl hk35) rfl rfl (Val.cmp rfl rfl run_eql) ?_)
     refine TL.cons (TO.val rfl rfl rfl (Val.pickY rfl hk35 rfl) ?_)
     refine TL.cons (TO.val rfl rfl rfl (Val.move rfl) ?_)
     refine TK.split (p := a0.f3 = a1.f3) h (fun hg36 h => ?_) (fun hg36 h => ?_)
     ·
      have hk37 : decide (a0.f3 = a1.f3) = true := decide_eq_true hg36
      refine TL.cons (TO.val (Wt.yes rfl rfl rfl hk37) rfl rfl (Val.fieldAddrB Try.underlying30 rfl fsz3 rfl rfl rfl) ?_)
      refine TL.cons (TO.val (Wt.yes rfl rfl rfl hk37) rfl rfl (Val.loadB 1 agg3 rfl rfl rfl) ?_)
      refine TL.cons (TO.val (Wt.yes rfl rfl rfl hk37) rfl rfl (Val.fieldAddrB Try.underlying30 rfl fsz3 rfl rfl rfl) ?_)
      refine TL.cons (TO.val (Wt.yes rfl rfl rfl hk37) rfl rfl (Val.loadB 0 agg3 rfl rfl rfl) ?_)
      refine TL.cons (TO.val (Wt.yes rfl rfl rfl hk37) rfl rfl (Val.cmp rfl rfl run_eql) ?_)
      refine TL.cons (TO.val rfl rfl rfl (Val.pickY rfl hk37 rfl) ?_)
      refine TL.cons (TO.val rfl rfl rfl (Val.assign rfl) ?_)
      refine TL.nil ?_
      refine TQ.then_ ?_
      refine TC.ret ?_
      obtain rfl := Option.some.inj h
      exact TQ.fin (.inl rfl) rfl Try.results21 (.tmp rfl .nil) rfl (FRel.mk (Ls := []) [] 2 (Gd.le.refl _) rfl rfl rfl ⟨rfl, rfl, rfl⟩)
     ·
      have hk38 : decide (a0.f3 = a1.f3) = false := decide_eq_false hg36
      refine TL.cons (TL.not (Wt.no rfl rfl rfl hk38) rfl ?_)
      refine TL.cons (TL.not (Wt.no rfl rfl rfl hk38) rfl ?_)
      refine TL.cons (TL.not (Wt.no rfl rfl rfl hk38) rfl ?_)
      refine TL.cons (TL.not (Wt.no rfl rfl rfl hk38) rfl ?_)
      refine TL.cons (TL.not (Wt.no rfl rfl rfl hk38) rfl ?_)
      refine TL.cons (TO.val rfl rfl rfl (Val.pickN rfl hk38 rfl) ?_)
      refine TL.cons (TO.val rfl rfl rfl (Val.assign rfl) ?_)
      refine TL.nil ?_
      refine TQ.then_ ?_
      refine TC.ret ?_
      obtain rfl := Option.some.inj h
      exact TQ.fin (.inl rfl) rfl Try.results21 (.tmp rfl .nil) rfl (FRel.mk (Ls := []) [] 2 (Gd.le.refl _) rfl rfl rfl ⟨rfl, rfl, rfl⟩)
    ·
     have hk39 : decide (a0.f2 = a1.f2) = false := decide_eq_false hg34
     refine TL.cons (TL.not (Wt.no rfl rfl rfl hk39) rfl ?_)
     refine TL.cons (TL.not (Wt.no rfl rfl rfl hk39) rfl ?_)
     refine TL.cons (TL.not (Wt.no rfl rfl rfl hk39) rfl ?_)
     refine TL.cons (TL.not (Wt.no rfl rfl rfl hk39) rfl ?_)
     refine TL.cons (TL.not (Wt.no rfl rfl rfl hk39) rfl ?_)
     refine TL.cons (TO.val rfl rfl rfl (Val.pickN rfl hk39 rfl) ?_)
     refine TL.cons (TO.val rfl rfl rfl (Val.move rfl) ?_)
     refine TL.cons (TL.not (Wt.no rfl rfl rfl rfl) rfl ?_)
     refine TL.cons (TL.not (Wt.no rfl rfl rfl rfl) rfl ?_)
     refine TL.cons (TL.not (Wt.no rfl rfl rfl rfl) rfl ?_)
     refine TL.cons (TL.not (Wt.no rfl rfl rfl rfl) rfl ?_)
     refine TL.cons (TL.not (Wt.no rfl rfl rfl rfl) rfl ?_)
     refine TL.cons (TO.val rfl rfl rfl (Val.pickN rfl rfl rfl) ?_)
     refine TL.cons (TO.val rfl rfl rfl (Val.assign rfl) ?_)
     refine TL.nil ?_
     refine TQ.then_ ?_
     refine TC.ret ?_
     obtain rfl := Option.some.inj h
     exact TQ.fin (.inl rfl) rfl Try.results21 (.tmp rfl .nil) rfl (FRel.mk (Ls := []) [] 2 (Gd.le.refl _) rfl rfl rfl ⟨rfl, rfl, rfl⟩)
   ·
    have hk40 : decide (a0.f1 = a1.f1) = false := decide_eq_false hg32
    refine TL.cons (TL.not (Wt.no rfl rfl rfl hk40) rfl ?_)
    refine TL.cons (TL.not (Wt.no rfl rfl rfl hk40) rfl ?_)
    refine TL.cons (TL.not (Wt.no rfl rfl rfl hk40) rfl ?_)
    refine TL.cons (TL.not (Wt.no rfl rfl rfl hk40) rfl ?_)
    refine TL.cons (TL.not (Wt.no rfl rfl rfl hk40) rfl ?_)
    refine TL.cons (TO.val rfl rfl rfl (Val.pickN rfl hk40 rfl) ?_)
    refine TL.cons (TO.val rfl rfl rfl (Val.move rfl) ?_)
    refine TL.cons (TL.not (Wt.no rfl rfl rfl rfl) rfl ?_)
    refine TL.cons (TL.not (Wt.no rfl rfl rfl rfl) rfl ?_)
    refine TL.cons (TL.not (Wt.no rfl rfl rfl rfl) rfl ?_)
    refine TL.cons (TL.not (Wt.no rfl rfl rfl rfl) rfl ?_)
    refine TL.cons (TL.not (Wt.no rfl rfl rfl rfl) rfl ?_)
    refine TL.cons (TO.val rfl rfl rfl (Val.pickN rfl rfl rfl) ?_)
    refine TL.cons (TO.val rfl rfl rfl (Val.move rfl) ?_)
    refine TL.cons (TL.not (Wt.no rfl rfl rfl rfl) rfl ?_)
    refine TL.cons (TL.not (Wt.no rfl rfl rfl rfl) rfl ?_)
    refine TL.cons (TL.not (Wt.no rfl rfl rfl rfl) rfl ?_)
    refine TL.cons (TL.not (Wt.no rfl rfl rfl rfl) rfl ?_)
    refine TL.cons (TL.not (Wt.no rfl rfl rfl rfl) rfl ?_)
    refine TL.cons (TO.val rfl rfl rfl (Val.pickN rfl rfl rfl) ?_)
    refine TL.cons (TO.val rfl rfl rfl (Val.assign rfl) ?_)
    refine TL.nil ?_
    refine TQ.then_ ?_
    refine TC.ret ?_
    obtain rfl := Option.some.inj h
    exact TQ.fin (.inl rfl) rfl Try.results21 (.tmp rfl .nil) rfl (FRel.mk (Ls := []) [] 2 (Gd.le.refl _) rfl rfl rfl ⟨rfl, rfl, rfl⟩)
  ·
   have hk41 : decide (a0.f0 = a1.f0) = false := decide_eq_false hg30
   refine TL.cons (TL.not (Wt.no rfl rfl rfl hk41) rfl ?_)
   refine TL.cons (TL.not (Wt.no rfl rfl rfl hk41) rfl ?_)
   refine TL.cons (TL.not (Wt.no rfl rfl rfl hk41) rfl ?_)
   refine TL.cons (TL.not (Wt.no rfl rfl rfl hk41) rfl ?_)
   refine TL.cons (TL.not (Wt.no rfl rfl rfl hk41) rfl ?_)
   refine TL.cons (TO.val rfl rfl rfl (Val.pickN rfl hk41 rfl) ?_)
   refine TL.cons (TO.val rfl rfl rfl (Val.move rfl) ?_)
   refine TL.cons (TL.not (Wt.no rfl rfl rfl rfl) rfl ?_)
   refine TL.cons (TL.not (Wt.no rfl rfl rfl rfl) rfl ?_)
   refine TL.cons (TL.not (Wt.no rfl rfl rfl rfl) rfl ?_)
   refine TL.cons (TL.not (Wt.no rfl rfl rfl rfl) rfl ?_)
   refine TL.cons (TL.not (Wt.no rfl rfl rfl rfl) rfl ?_)
   refine TL.cons (TO.val rfl rfl rfl (Val.pickN rfl rfl rfl) ?_)
   refine TL.cons (TO.val rfl rfl rfl (Val.move rfl) ?_)
   refine TL.cons (TL.not (Wt.no rfl rfl rfl rfl) rfl ?_)
   refine TL.cons (TL.not (Wt.no rfl rfl rfl rfl) rfl ?_)
   refine TL.cons (TL.not (Wt.no rfl rfl rfl rfl) rfl ?_)
   refine TL.cons (TL.not (Wt.no rfl rfl rfl rfl) rfl ?_)
   refine TL.cons (TL.not (Wt.no rfl rfl rfl rfl) rfl ?_)
   refine TL.cons (TO.val rfl rfl rfl (Val.pickN rfl rfl rfl) ?_)
   refine TL.cons (TO.val rfl rfl rfl (Val.move rfl) ?_)
   refine TL.cons (TL.not (Wt.no rfl rfl rfl rfl) rfl ?_)
   refine TL.cons (TL.not (Wt.no rfl rfl rfl rfl) rfl ?_)
   refine TL.cons (TL.not (Wt.no rfl rfl rfl rfl) rfl ?_)
   refine TL.cons (TL.not (Wt.no rfl rfl rfl rfl) rfl ?_)
   refine TL.cons (TL.not (Wt.no rfl rfl rfl rfl) rfl ?_)
   refine TL.cons (TO.val rfl rfl rfl (Val.pickN rfl rfl rfl) ?_)
   refine TL.cons (TO.val rfl rfl rfl (Val.assign rfl) ?_)
   refine TL.nil ?_
   refine TQ.then_ ?_
   refine TC.ret ?_
   obtain rfl := Option.some.inj h
   exact TQ.fin (.inl rfl) rfl Try.results21 (.tmp rfl .nil) rfl (FRel.mk (Ls := []) [] 2 (Gd.le.refl _) rfl rfl rfl ⟨rfl, rfl, rfl⟩)
 ·
  have hk42 : y11 = false := (by simpa using hg28)
  refine TL.cons (TL.not (Wt.no rfl rfl rfl hk42) rfl ?_)
  refine TL.cons (TL.not (Wt.no rfl rfl rfl hk42) rfl ?_)
  refine TL.cons (TL.not (Wt.no rfl rfl rfl hk42) rfl ?_)
  refine TL.cons (TL.not (Wt.no rfl rfl rfl hk42) rfl ?_)
  refine TL.cons (TL.not (Wt.no rfl rfl rfl hk42) rfl ?_)
  refine TL.cons (TO.val rfl rfl rfl (Val.pickN rfl hk42 rfl) ?_)
  refine TL.cons (TO.val rfl rfl rfl (Val.move rfl) ?_)
  refine TL.cons (TL.not (Wt.no rfl rfl rfl rfl) rfl ?_)
  refine TL.cons (TL.not (Wt.no rfl rfl rfl rfl) rfl ?_)
  refine TL.cons (TL.not (Wt.no rfl rfl rfl rfl) rfl ?_)
  refine TL.cons (TL.not (Wt.no rfl rfl rfl rfl) rfl ?_)
  refine TL.cons (TL.not (Wt.no rfl rfl rfl rfl) rfl ?_)
  refine TL.cons (TO.val rfl rfl rfl (Val.pickN rfl rfl rfl) ?_)
  refine TL.cons (TO.val rfl rfl rfl (Val.move rfl) ?_)
  refine TL.cons (TL.not (Wt.no rfl rfl rfl rfl) rfl ?_)
  refine TL.cons (TL.not (Wt.no rfl rfl rfl rfl) rfl ?_)
  refine TL.cons (TL.not (Wt.no rfl rfl rfl rfl) rfl ?_)
  refine TL.cons (TL.not (Wt.no rfl rfl rfl rfl) rfl ?_)
  refine TL.cons (TL.not (Wt.no rfl rfl rfl rfl) rfl ?_)
  refine TL.cons (TO.val rfl rfl rfl (Val.pickN rfl rfl rfl) ?_)
  refine TL.cons (TO.val rfl rfl rfl (Val.move rfl) ?_)
  refine TL.cons (TL.not (Wt.no rfl rfl rfl rfl) rfl ?_)
  refine TL.cons (TL.not (Wt.no rfl rfl rfl rfl) rfl ?_)
  refine TL.cons (TL.not (Wt.no rfl rfl rfl rfl) rfl ?_)
  refine TL.cons (TL.not (Wt.no rfl rfl rfl rfl) rfl ?_)
  refine TL.cons (TL.not (Wt.no rfl rfl rfl rfl) rfl ?_)
  refine TL.cons (TO.val rfl rfl rfl (Val.pickN rfl rfl rfl) ?_)
  refine TL.cons (TO.val rfl rfl rfl (Val.move rfl) ?_)
  refine TL.cons (TL.not (Wt.no rfl rfl rfl rfl) rfl ?_)
  refine TL.cons (TL.not (Wt.no rfl rfl rfl rfl) rfl ?_)
  refine TL.cons (TL.not (Wt.no rfl rfl rfl rfl) rfl ?_)
  refine TL.cons (TL.not (Wt.no rfl rfl rfl rfl) rfl ?_)
  refine TL.cons (TL.not (Wt.no rfl rfl rfl rfl) rfl ?_)
  refine TL.cons (TO.val rfl rfl rfl (Val.pickN rfl rfl rfl) ?_)
  refine TL.cons (TO.val rfl rfl rfl (Val.assign rfl) ?_)
  refine TL.nil ?_
  refine TQ.then_ ?_
  refine TC.ret ?_
  obtain rfl := Option.some.inj h
  exact TQ.fin (.inl rfl) rfl Try.results21 (.tmp rfl .nil) rfl (FRel.mk (Ls := []) [] 2 (Gd.le.refl _) rfl rfl rfl ⟨rfl, rfl, rfl⟩)
end Go.Proofs.Ytmacdhkfgoahcaa.Sy
set_option linter.unusedVariables false
set_option linter.unusedSimpArgs false
set_option maxRecDepth 100000
set_option maxHeartbeats 4000000
namespace Go.Proofs.Ytmacdhkfgoahcaa.Sy
open Go Go.RowKit Go.Proofs.YtmacdhkfgoahcaaW.PrintWords 
def swageref14_Same.l1 (a0 : S36) (a1 : S36) (x2185 : Int) : Nat → Int → Option (Sum (Sum Bool (Unit)) (Unit))
 | 0, _ => none
 | n5638 + 1, x5453 => (at? a0.f1 x2185).bind fun y5822 => (if x5453 < (y5822.f0.length : Int) then (at? y5822.f0 x5453).bind fun y5962 => (at? a1.f1 x2185).bind fun y5975 => (at? y5975.f0 x5453).bind fun y5988 => (swageref14_SameOp.f y5962 y5988).bind fun (y6001 : Bool) => (if (!y6001) = true then some (.inl (.inl false)) else swageref14_Same.l1 a0 a1 x2185 n5638 (IntKind.i64.wrap (x5453 + 1))) else some (.inr ()))
def swageref14_Same.l0 (a0 : S36) (a1 : S36) : Nat → Int → Option (Sum Bool (Unit))
 | 0, _ => none
 | n3270 + 1, x2185 => (if x2185 < (a0.f1.length : Int) then jn (γ := (Sum Bool (Unit))) (fun (x5082 : Bool) => (if x5082 = true then some (.inl false) else (swageref14_Same.l1 a0 a1 x2185 ((at? a0.f1 x2185).elim 0 (fun vy5639 => vy5639.f0.length) + 1) 0).bind fun | .inl q_ => some q_ | .inr _ => (swageref14_Same.l0 a0 a1 n3270 (IntKind.i64.wrap (x2185 + 1))))) (fun (j5083 : (Bool → Option (Sum Bool (Unit)))) => (at? a0.f1 x2185).bind fun y6034 => (at? a1.f1 x2185).bind fun y6047 => (if (!((y6034.f1.f0 == y6047.f1.f0) && ((y6034.f1.f1 == y6047.f1.f1) && ((y6034.f1.f2 == y6047.f1.f2) && (y6034.f1.f3 == y6047.f1.f3))))) = true then j5083 true else j5083 (!decide ((y6034.f0.length : Int) = (y6047.f0.length : Int))))) else some (.inr ()))
def swageref14_Same.f (a0 : S36) (a1 : S36) : Option Bool := jn (γ := Bool) (fun (x14 : Bool) => (if x14 = true then some false else (swageref14_Same.l0 a0 a1 (a0.f1.length + 1) 0).bind fun | .inl q_ => some q_ | .inr _ => (some true))) (fun (j15 : (Bool → Option Bool)) => (if (!decide (a0.f0 = a1.f0)) = true then j15 true else j15 (!decide ((a0.f1.length : Int) = (a1.f1.length : Int)))))
def swageref14_Same.post (G : Gd)  (r : Bool) (v : Value) (G' : Gd) (Lr : List Ch) : Prop := G = G' ∧ v = .bool r ∧ Lr = []
theorem swageref14_Same.calls {G : Gd} {r : Bool} {a0 : S36} {a1 : S36} {A1 : Option Addr} {c2 : Nat} {A5 : Option Addr} {c6 : Nat} (hr3 : Rd G k28 A1 a0.f1) (hl4 : a0.f1.length ≤ c2) (hr7 : Rd G k28 A5 a1.f1) (hl8 : a1.f1.length ≤ c6) (h : swageref14_Same.f a0 a1 = some r) : Fn Try.prog 16 G [] [.agg #[.int .i64 a0.f0, .slice A1 a0.f1.length c2], .agg #[.int .i64 a1.f0, .slice A5 a1.f1.length c6]] (swageref14_Same.post G  r) := by
 refine Fn.intro (e := [(0, .agg #[.int .i64 a0.f0, .slice A1 a0.f1.length c2]), (1, .agg #[.int .i64 a1.f0, .slice A5 a1.f1.length c6])]) 91 Try.func16 rfl Try.ntmps16 rfl rfl (Nat.le_of_ble_eq_true rfl) (fun L => ?_)
 unfold swageref14_Same.f at h
 refine TC.seq ?_
 refine TC.region ?_
 refine TL.cons (TL.box (cs := [.int .i64 a0.f0, .slice A1 a0.f1.length c2]) rfl rfl rfl rfl (fun b9 => ?_))
 refine TL.cons (TL.box (cs := [.int .i64 a1.f0, .slice A5 a1.f1.length c6]) rfl rfl rfl rfl (fun b10 => ?_))
 refine TL.cons (TO.val rfl rfl rfl (Val.assign rfl) ?_)
 refine TL.nil ?_
 refine TQ.then_ ?_
 refine TC.seq ?_
 refine TC.seq ?_
 obtain ⟨j15, hj15, h⟩ := jn_no h
 refine TC.tail (fun a W => ∃ (x14 : Bool), j15 x14 = some r ∧ Fr 91 a [(2, .pointer (some ⟨b9, 0, none⟩)), (3, .pointer (some ⟨b10, 0, none⟩)), (21, .bool x14)] ∧ Own G (Blk b10 [.int .i64 a1.f0, .slice A5 a1.f1.length c6] 36 :: Blk b9 [.int .i64 a0.f0, .slice A1 a0.f1.length c2] 36 :: L) W) ?_ ?_
 ·
  rintro a W ⟨x14, h, hF, hO⟩
  rw [hj15] at h
  refine TQ.use ?_ hF hO
  clear hF hO
  refine TQ.then_ ?_
  refine TC.cond_b rfl h (fun hc17 h => ?_) (fun hc17 h => ?_)
  ·
   refine TC.seq ?_
   refine TC.region ?_
   refine TL.cons (TO.val rfl rfl rfl (Val.assign rfl) ?_)
   refine TL.nil ?_
   refine TQ.then_ ?_
   refine TC.ret ?_
   refine TQ.thenR ?_
   obtain rfl := Option.some.inj h
   exact TQ.fin (.inl rfl) rfl Try.results16 (.tmp rfl .nil) rfl (FRel.mk (Ls := []) [] 2 (Gd.le.refl _) rfl rfl rfl ⟨rfl, rfl, rfl⟩)
  ·
   refine TC.skip ?_
   refine TQ.then_ ?_
   refine TC.seq ?_
   refine TC.seq ?_
   refine TC.region ?_
   refine TL.cons (TO.val rfl rfl rfl (Val.assign rfl) ?_)
   refine TL.nil ?_
   refine TQ.then_ ?_
   obtain ⟨o3269, ho3269, ko3269⟩ := bind_no h
   clear h
   refine TC.tail (fun a W => (.inr ()) = o3269 ∧ Fr 91 a [] ∧ Own G (L) W) ?_ ?_
   ·
    rintro a W ⟨rfl, hF, hO⟩
    have h := ko3269
    clear ko3269 ho3269
    refine TQ.use ?_ hF hO
    clear hF hO
    refine TQ.then_ ?_
    refine TC.seq ?_
    refine TC.region ?_
    refine TL.cons (TO.val rfl rfl rfl (Val.assign rfl) ?_)
    refine TL.nil ?_
    refine TQ.then_ ?_
    refine TC.ret ?_
    obtain rfl := Option.some.inj h
    exact TQ.fin (.inl rfl) rfl Try.results16 (.tmp rfl .nil) rfl (FRel.mk (Ls := []) [] 0 (Gd.le.refl _) rfl rfl rfl ⟨rfl, rfl, rfl⟩)
   ·
    refine TC.block ?_
    intro a W hF hO
    have hS : ∃ (x2185 : Int), swageref14_Same.l0 a0 a1 (a0.f1.length + 1) x2185 = some o3269 ∧ Fr 91 a [(2, .pointer (some ⟨b9, 0, none⟩)), (3, .pointer (some ⟨b10, 0, none⟩)), (5, .int .i64 x2185)] ∧ Own G (Blk b10 [.int .i64 a1.f0, .slice A5 a1.f1.length c6] 36 :: Blk b9 [.int .i64 a0.f0, .slice A1 a0.f1.length c2] 36 :: L) W := by
     exact ⟨0, ho3269, hF.sub ⟨rfl, rfl, rfl, trivial⟩, hO.selT (Ls := [Blk b10 [.int .i64 a1.f0, .slice A5 a1.f1.length c6] 36, Blk b9 [.int .i64 a0.f0, .slice A1 a0.f1.length c2] 36]) [0, 1] 2 rfl rfl rfl⟩
    clear hF hO ho3269
    refine TC.loop (fun n3270 a W => ∃ (x2185 : Int), swageref14_Same.l0 a0 a1 n3270 x2185 = some o3269 ∧ Fr 91 a [(2, .pointer (some ⟨b9, 0, none⟩)), (3, .pointer (some ⟨b10, 0, none⟩)), (5, .int .i64 x2185)] ∧ Own G (Blk b10 [.int .i64 a1.f0, .slice A5 a1.f1.length c6] 36 :: Blk b9 [.int .i64 a0.f0, .slice A1 a0.f1.length c2] 36 :: L) W) ?_ ?_ hS
    ·
     rintro a W ⟨x2185, h, hF, hO⟩
     exact none_no h
    ·
     clear hS
     rintro n3270 a W ⟨x2185, h, hF, hO⟩
     rw [swageref14_Same.l0] at h
     refine TC.use ?_ hF hO
     clear hF hO
     refine TC.seq ?_
     refine TC.seq ?_
     refine TC.region ?_
     refine TL.cons (TO.val rfl rfl rfl (Val.move rfl) ?_)
     refine TL.cons (TO.val rfl rfl rfl (Val.fieldAddrB Try.underlying36 rfl fsz34 rfl rfl rfl) ?_)
     refine TL.cons (TO.val rfl rfl rfl (Val.loadB 1 agg34 rfl rfl rfl) ?_)
     refine TL.cons (TO.val rfl rfl rfl (Val.len Try.underlying34 rfl) ?_)
     refine TL.cons (TO.val rfl rfl rfl (Val.cmp rfl rfl run_lss) ?_)
     refine TL.nil ?_
     refine TQ.then_ ?_
     refine TC.cond_p rfl h (fun hc4355 h => ?_) (fun hc4355 h => ?_)
     ·
      refine TC.skip ?_
      refine TQ.then_ ?_
      refine TC.seq ?_
      refine TC.block ?_
      refine TC.seq ?_
      refine TC.seq ?_
      obtain ⟨j5083, hj5083, h⟩ := jn_no h
      refine TC.tail (fun a W => ∃ (x5082 : Bool), j5083 x5082 = some o3269 ∧ Fr 91 a [(2, .pointer (some ⟨b9, 0, none⟩)), (3, .pointer (some ⟨b10, 0, none⟩)), (5, .int .i64 x2185), (58, .bool x5082)] ∧ Own G (Blk b10 [.int .i64 a1.f0, .slice A5 a1.f1.length c6] 36 :: Blk b9 [.int .i64 a0.f0, .slice A1 a0.f1.length c2] 36 :: L) W) ?_ ?_
      ·
       rintro a W ⟨x5082, h, hF, hO⟩
       rw [hj5083] at h
       refine TQ.use ?_ hF hO
       clear hF hO
       refine TQ.then_ ?_
       refine TC.cond_b rfl h (fun hc5085 h => ?_) (fun hc5085 h => ?_)
       ·
        refine TC.seq ?_
        refine TC.region ?_
        refine TL.cons (TO.val rfl rfl rfl (Val.assign rfl) ?_)
        refine TL.nil ?_
        refine TQ.then_ ?_
        refine TC.ret ?_
        refine TQ.thenR ?_
        refine TQ.inBR ?_
        refine TQ.thenR ?_
        refine TQ.thenR ?_
        refine TQ.inBR ?_
        refine TQ.thenR ?_
        refine TQ.thenR ?_
        obtain rfl := Option.some.inj h
        have h := ko3269
        obtain rfl := Option.some.inj h
        exact TQ.fin (.inl rfl) rfl Try.results16 (.tmp rfl .nil) rfl (FRel.mk (Ls := []) [] 2 (Gd.le.refl _) rfl rfl rfl ⟨rfl, rfl, rfl⟩)
       ·
        refine TC.skip ?_
        refine TQ.then_ ?_
        refine TC.seq ?_
        refine TC.region ?_
        refine TL.cons (TO.val rfl rfl rfl (Val.assign rfl) ?_)
        refine TL.nil ?_
        refine TQ.then_ ?_
        obtain ⟨o5637, ho5637, ko5637⟩ := bind_no h
        clear h
        refine TC.tail (fun a W => (.inr ()) = o5637 ∧ Fr 91 a [(2, .pointer (some ⟨b9, 0, none⟩)), (3, .pointer (some ⟨b10, 0, none⟩)), (5, .int .i64 x2185)] ∧ Own G (Blk b10 [.int .i64 a1.f0, .slice A5 a1.f1.length c6] 36 :: Blk b9 [.int .i64 a0.f0, .slice A1 a0.f1.length c2] 36 :: L) W) ?_ ?_
        ·
         rintro a W ⟨rfl, hF, hO⟩
         have h := ko5637
         clear ko5637 ho5637
         refine TQ.use ?_ hF hO
         clear hF hO
         refine TQ.inB ?_
         refine TQ.then_ ?_
         refine TC.region ?_
         refine TL.cons (TO.val rfl rfl rfl (Val.move rfl) ?_)
         refine TL.cons (TO.val rfl rfl rfl (Val.cmp rfl rfl run_add) ?_)
         refine TL.cons (TO.val rfl rfl rfl (Val.assign rfl) ?_)
         refine TL.nil ?_
         exact fun a W hF hO => ⟨IntKind.i64.wrap (x2185 + 1), h, hF.sub ⟨rfl, rfl, rfl, trivial⟩, hO.selT (Ls := [Blk b10 [.int .i64 a1.f0, .slice A5 a1.f1.length c6] 36, Blk b9 [.int .i64 a0.f0, .slice A1 a0.f1.length c2] 36]) [0, 1] 2 rfl rfl rfl⟩
        ·
         refine TC.block ?_
         intro a W hF hO
         have hS : ∃ (x5453 : Int), swageref14_Same.l1 a0 a1 x2185 ((at? a0.f1 x2185).elim 0 (fun vy5639 => vy5639.f0.length) + 1) x5453 = some o5637 ∧ Fr 91 a [(2, .pointer (some ⟨b9, 0, none⟩)), (3, .pointer (some ⟨b10, 0, none⟩)), (5, .int .i64 x2185), (6, .int .i64 x5453)] ∧ Own G (Blk b10 [.int .i64 a1.f0, .slice A5 a1.f1.length c6] 36 :: Blk b9 [.int .i64 a0.f0, .slice A1 a0.f1.length c2] 36 :: L) W := by
          exact ⟨0, ho5637, hF.sub ⟨rfl, rfl, rfl, rfl, trivial⟩, hO.selT (Ls := [Blk b10 [.int .i64 a1.f0, .slice A5 a1.f1.length c6] 36, Blk b9 [.int .i64 a0.f0, .slice A1 a0.f1.length c2] 36]) [0, 1] 2 rfl rfl rfl⟩
         clear hF hO ho5637
         refine TC.loop (fun n5638 a W => ∃ (x5453 : Int), swageref14_Same.l1 a0 a1 x2185 n5638 x5453 = some o5637 ∧ Fr 91 a [(2, .pointer (some ⟨b9, 0, none⟩)), (3, .pointer (some ⟨b10, 0, none⟩)), (5, .int .i64 x2185), (6, .int .i64 x5453)] ∧ Own G (Blk b10 [.int .i64 a1.f0, .slice A5 a1.f1.length c6] 36 :: Blk b9 [.int .i64 a0.f0, .slice A1 a0.f1.length c2] 36 :: L) W) ?_ ?_ hS
         ·
          rintro a W ⟨x5453, h, hF, hO⟩
          exact none_no h
         ·
          clear hS
          rintro n5638 a W ⟨x5453, h, hF, hO⟩
          rw [swageref14_Same.l1] at h
          refine TC.use ?_ hF hO
          clear hF hO
          refine TC.seq ?_
          refine TC.seq ?_
          refine TC.region ?_
          refine TL.cons (TO.val rfl rfl rfl (Val.move rfl) ?_)
          refine TL.cons (TO.val rfl rfl rfl (Val.fieldAddrB Try.underlying36 rfl fsz34 rfl rfl rfl) ?_)
          refine TL.cons (TO.val rfl rfl rfl (Val.loadB 1 agg34 rfl rfl rfl) ?_)
          refine TL.cons (TO.val rfl rfl rfl (Val.move rfl) ?_)
          obtain ⟨y5822, hx5823, h⟩ := bind_no h
          obtain ⟨ad5824, cs5830, hA5825, hi5826, hj5827, hcl5828, hK5829⟩ := Rd.at hr3 hx5823
          obtain ⟨A5831, c5832, rfl, hr5833, hl5834⟩ := k28_openR hK5829
          refine TL.cons (TO.val rfl rfl rfl (Val.indexAddr Try.underlying34 fsz28 rfl hA5825 rfl hi5826 hj5827) ?_)
          refine TL.cons (TO.val rfl rfl rfl (Val.fieldAddrE Try.underlying28 rfl fsz26 rfl rfl) ?_)
          refine TL.cons (TO.val rfl rfl rfl (Val.loadS agg26 rfl (hcl5828 0 _ rfl)) ?_)
          refine TL.cons (TO.val rfl rfl rfl (Val.len Try.underlying26 rfl) ?_)
          refine TL.cons (TO.val rfl rfl rfl (Val.cmp rfl rfl run_lss) ?_)
          refine TL.nil ?_
          refine TQ.then_ ?_
          refine TC.cond_p rfl h (fun hc5836 h => ?_) (fun hc5836 h => ?_)
          ·
           refine TC.skip ?_
           refine TQ.then_ ?_
           refine TC.seq ?_
           refine TC.block ?_
           refine TC.seq ?_
           refine TC.regionAny [] [0, 1, 2, 3, 4, 5, 6, 7, 8, 9, 10, 11, 12, 13, 14, 15, 16, 17, 19] mixed (by kernel_rfl) ?_
           refine TA.take 0 rfl (by kernel_rfl) rfl (PQ.then_ (PQ.inB (PQ.then_ (PQ.then_ (PQ.inB (PQ.then_ (PQ.inB (PQ.then_ (PQ.then_ (PQ.inB (PQ.then_ (PQ.then_ PQ.body)))))))))))) rfl (Val.fieldAddrB Try.underlying36 rfl fsz34 rfl rfl rfl) (fun W hO => hO) ?_
           refine TA.take 1 rfl (by kernel_rfl) rfl (PQ.then_ (PQ.inB (PQ.then_ (PQ.then_ (PQ.inB (PQ.then_ (PQ.inB (PQ.then_ (PQ.then_ (PQ.inB (PQ.then_ (PQ.then_ PQ.body)))))))))))) rfl (Val.loadB 1 agg34 rfl rfl rfl) (fun W hO => hO) ?_
           refine TA.take 2 rfl (by kernel_rfl) rfl (PQ.then_ (PQ.inB (PQ.then_ (PQ.then_ (PQ.inB (PQ.then_ (PQ.inB (PQ.then_ (PQ.then_ (PQ.inB (PQ.then_ (PQ.then_ PQ.body)))))))))))) rfl (Val.move rfl) (fun W hO => hO) ?_
           refine TA.take 3 rfl (by kernel_rfl) rfl (PQ.then_ (PQ.inB (PQ.then_ (PQ.then_ (PQ.inB (PQ.then_ (PQ.inB (PQ.then_ (PQ.then_ (PQ.inB (PQ.then_ (PQ.then_ PQ.body)))))))))))) rfl (Val.indexAddr Try.underlying34 fsz28 rfl hA5825 rfl hi5826 hj5827) (fun W hO => hO) ?_
           refine TA.take 4 rfl (by kernel_rfl) rfl (PQ.then_ (PQ.inB (PQ.then_ (PQ.then_ (PQ.inB (PQ.then_ (PQ.inB (PQ.then_ (PQ.then_ (PQ.inB (PQ.then_ (PQ.then_ PQ.body)))))))))))) rfl (Val.fieldAddrE Try.underlying28 rfl fsz26 rfl rfl) (fun W hO => hO) ?_
           refine TA.take 5 rfl (by kernel_rfl) rfl (PQ.then_ (PQ.inB (PQ.then_ (PQ.then_ (PQ.inB (PQ.then_ (PQ.inB (PQ.then_ (PQ.then_ (PQ.inB (PQ.then_ (PQ.then_ PQ.body)))))))))))) rfl (Val.loadS agg26 rfl (hcl5828 0 _ rfl)) (fun W hO => hO) ?_
           refine TA.take 6 rfl (by kernel_rfl) rfl (PQ.then_ (PQ.inB (PQ.then_ (PQ.then_ (PQ.inB (PQ.then_ (PQ.inB (PQ.then_ (PQ.then_ (PQ.inB (PQ.then_ (PQ.then_ PQ.body)))))))))))) rfl (Val.move rfl) (fun W hO => hO) ?_
           obtain ⟨y5962, hx5963, h⟩ := bind_no h
           obtain ⟨ad5964, cs5970, hA5965, hi5966, hj5967, hcl5968, hK5969⟩ := Rd.at hr5833 hx5963
           obtain ⟨A5971, c5972, rfl, hr5973, hl5974⟩ := k30_openR hK5969
           refine TA.take 7 rfl (by kernel_rfl) rfl (PQ.then_ (PQ.inB (PQ.then_ (PQ.then_ (PQ.inB (PQ.then_ (PQ.inB (PQ.then_ (PQ.then_ (PQ.inB (PQ.then_ (PQ.then_ PQ.body)))))))))))) rfl (Val.indexAddr Try.underlying26 fsz30 rfl hA5965 rfl hi5966 hj5967) (fun W hO => hO) ?_
           refine TA.take 8 rfl (by kernel_rfl) rfl (PQ.then_ (PQ.inB (PQ.then_ (PQ.then_ (PQ.inB (PQ.then_ (PQ.inB (PQ.then_ (PQ.then_ (PQ.inB (PQ.then_ (PQ.then_ PQ.body)))))))))))) rfl (Val.loadsS (cs := [.int .i64 y5962.f0, .int .i64 y5962.f1, .int .i64 y5962.f2, .int .i64 y5962.f3, .int .i64 y5962.f4, .slice A5971 y5962.f5.length c5972]) agg30 fsz30 rfl rfl (Cl.sub (off := 0) (n := 6) hcl5968 rfl)) (fun W hO => hO) ?_
           refine TA.take 9 rfl (by kernel_rfl) rfl (PQ.then_ (PQ.inB (PQ.then_ (PQ.then_ (PQ.inB (PQ.then_ (PQ.inB (PQ.then_ (PQ.then_ (PQ.inB (PQ.then_ (PQ.then_ PQ.body)))))))))))) rfl (Val.fieldAddrB Try.underlying36 rfl fsz34 rfl rfl rfl) (fun W hO => hO) ?_
           refine TA.take 10 rfl (by kernel_rfl) rfl (PQ.then_ (PQ.inB (PQ.then_ (PQ.then_ (PQ.inB (PQ.then_ (PQ.inB (PQ.then_ (PQ.then_ (PQ.inB (PQ.then_ (PQ.then_ PQ.body)))))))))))) rfl (Val.loadB 0 agg34 rfl rfl rfl) (fun W hO => hO) ?_
           refine TA.take 11 rfl (by kernel_rfl) rfl (PQ.then_ (PQ.inB (PQ.then_ (PQ.then_ (PQ.inB (PQ.then_ (PQ.inB (PQ.then_ (PQ.then_ (PQ.inB (PQ.then_ (PQ.then_ PQ.body)))))))))))) rfl (Val.move rfl) (fun W hO => hO) ?_
           obtain ⟨y5975, hx5976, h⟩ := bind_no h
           obtain ⟨ad5977, cs5983, hA5978, hi5979, hj5980, hcl5981, hK5982⟩ := Rd.at hr7 hx5976
           obtain ⟨A5984, c5985, rfl, hr5986, hl5987⟩ := k28_openR hK5982
           refine TA.take 12 rfl (by kernel_rfl) rfl (PQ.then_ (PQ.inB (PQ.then_ (PQ.then_ (PQ.inB (PQ.then_ (PQ.inB (PQ.then_ (PQ.then_ (PQ.inB (PQ.then_ (PQ.then_ PQ.body)))))))))))) rfl (Val.indexAddr Try.underlying34 fsz28 rfl hA5978 rfl hi5979 hj5980) (fun W hO => hO) ?_
           refine TA.take 13 rfl (by kernel_rfl) rfl (PQ.then_ (PQ.inB (PQ.then_ (PQ.then_ (PQ.inB (PQ.then_ (PQ.inB (PQ.then_ (PQ.then_ (PQ.inB (PQ.then_ (PQ.then_ PQ.body)))))))))))) rfl (Val.fieldAddrE Try.underlying28 rfl fsz26 rfl rfl) (fun W hO => hO) ?_
           refine TA.take 14 rfl (by kernel_rfl) rfl (PQ.then_ (PQ.inB (PQ.then_ (PQ.then_ (PQ.inB (PQ.then_ (PQ.inB (PQ.then_ (PQ.then_ (PQ.inB (PQ.then_ (PQ.then_ PQ.body)))))))))))) rfl (Val.loadS agg26 rfl (hcl5981 0 _ rfl)) (fun W hO => hO) ?_
           refine TA.take 15 rfl (by kernel_rfl) rfl (PQ.then_ (PQ.inB (PQ.then_ (PQ.then_ (PQ.inB (PQ.then_ (PQ.inB (PQ.then_ (PQ.then_ (PQ.inB (PQ.then_ (PQ.then_ PQ.body)))))))))))) rfl (Val.move rfl) (fun W hO => hO) ?_
           obtain ⟨y5988, hx5989, h⟩ := bind_no h
           obtain ⟨ad5990, cs5996, hA5991, hi5992, hj5993, hcl5994, hK5995⟩ := Rd.at hr5986 hx5989
           obtain ⟨A5997, c5998, rfl, hr5999, hl6000⟩ := k30_openR hK5995
           refine TA.take 16 rfl (by kernel_rfl) rfl (PQ.then_ (PQ.inB (PQ.then_ (PQ.then_ (PQ.inB (PQ.then_ (PQ.inB (PQ.then_ (PQ.then_ (PQ.inB (PQ.then_ (PQ.then_ PQ.body)))))))))))) rfl (Val.indexAddr Try.underlying26 fsz30 rfl hA5991 rfl hi5992 hj5993) (fun W hO => hO) ?_
           refine TA.take 17 rfl (by kernel_rfl) rfl (PQ.then_ (PQ.inB (PQ.then_ (PQ.then_ (PQ.inB (PQ.then_ (PQ.inB (PQ.then_ (PQ.then_ (PQ.inB (PQ.then_ (PQ.then_ PQ.body)))))))))))) rfl (Val.loadsS (cs := [.int .i64 y5988.f0, .int .i64 y5988.f1, .int .i64 y5988.f2, .int .i64 y5988.f3, .int .i64 y5988.f4, .slice A5997 y5988.f5.length c5998]) agg30 fsz30 rfl rfl (Cl.sub (off := 0) (n := 6) hcl5994 rfl)) (fun W hO => hO) ?_
           obtain ⟨y6001, hy6002, h⟩ := bind_no h
           refine TA.eff 18 rfl (by kernel_rfl) rfl (TL.callV (Lin := []) (args := [.agg #[.int .i64 y5962.f0, .int .i64 y5962.f1, .int .i64 y5962.f2, .int .i64 y5962.f3, .int .i64 y5962.f4, .slice A5971 y5962.f5.length c5972], .agg #[.int .i64 y5988.f0, .int .i64 y5988.f1, .int .i64 y5988.f2, .int .i64 y5988.f3, .int .i64 y5988.f4, .slice A5997 y5988.f5.length c5998]]) rfl rfl rfl hbd21 rfl rfl (swageref14_SameOp.calls (a0 := y5962) (a1 := y5988) hr5973 hl5974 hr5999 hl6000 hy6002) rfl ?_)
           rintro _ _ _ _ ⟨rfl, rfl, rfl⟩
           refine TA.next (fun W hO => hO) ?_
           refine TA.take 19 rfl (by kernel_rfl) rfl (PQ.then_ (PQ.inB (PQ.then_ (PQ.then_ (PQ.inB (PQ.then_ (PQ.inB (PQ.then_ (PQ.then_ (PQ.inB (PQ.then_ (PQ.then_ PQ.body)))))))))))) rfl (Val.assign rfl) (fun W hO => hO) ?_
           refine TA.done (by kernel_rfl) ?_
           refine TQ.then_ ?_
           refine TC.seq ?_
           refine TC.region ?_
           refine TL.cons (TO.val rfl rfl rfl (Val.move rfl) ?_)
           refine TL.cons (TO.val rfl rfl rfl (Val.not_ rfl) ?_)
           refine TL.nil ?_
           refine TQ.then_ ?_
           refine TC.cond_b rfl h (fun hc6004 h => ?_) (fun hc6004 h => ?_)
           ·
            refine TC.seq ?_
            refine TC.region ?_
            refine TL.cons (TO.val rfl rfl rfl (Val.assign rfl) ?_)
            refine TL.nil ?_
            refine TQ.then_ ?_
            refine TC.ret ?_
            refine TQ.inBR ?_
            refine TQ.thenR ?_
            refine TQ.thenR ?_
            refine TQ.inBR ?_
            refine TQ.thenR ?_
            refine TQ.inBR ?_
            refine TQ.thenR ?_
            refine TQ.thenR ?_
            refine TQ.inBR ?_
            refine TQ.thenR ?_
            refine TQ.thenR ?_
            obtain rfl := Option.some.inj h
            have h := ko5637
            obtain rfl := Option.some.inj h
            have h := ko3269
            obtain rfl := Option.some.inj h
            exact TQ.fin (.inl rfl) rfl Try.results16 (.tmp rfl .nil) rfl (FRel.mk (Ls := []) [] 2 (Gd.le.refl _) rfl rfl rfl ⟨rfl, rfl, rfl⟩)
           ·
            refine TC.skip ?_
            refine TQ.inB ?_
            refine TQ.then_ ?_
            refine TC.region ?_
            refine TL.cons (TO.val rfl rfl rfl (Val.move rfl) ?_)
            refine TL.cons (TO.val rfl rfl rfl (Val.cmp rfl rfl run_add) ?_)
            refine TL.cons (TO.val rfl rfl rfl (Val.assign rfl) ?_)
            refine TL.nil ?_
            exact fun a W hF hO => ⟨IntKind.i64.wrap (x5453 + 1), h, hF.sub ⟨rfl, rfl, rfl, rfl, trivial⟩, hO.selT (Ls := [Blk b10 [.int .i64 a1.f0, .slice A5 a1.f1.length c6] 36, Blk b9 [.int .i64 a0.f0, .slice A1 a0.f1.length c2] 36]) [0, 1] 2 rfl rfl rfl⟩
          ·
           refine TC.exit ?_
           refine TQ.thenX ?_
           refine TQ.thenX ?_
           refine TQ.inBX ?_
           exact fun a W hF hO => ⟨Option.some.inj h, hF.sub ⟨rfl, rfl, rfl, trivial⟩, hO.selT (Ls := [Blk b10 [.int .i64 a1.f0, .slice A5 a1.f1.length c6] 36, Blk b9 [.int .i64 a0.f0, .slice A1 a0.f1.length c2] 36]) [0, 1] 2 rfl rfl rfl⟩
      ·
       refine TC.regionAny [] [0, 1, 2, 3, 4, 5, 6, 7, 8, 9, 10, 11, 12, 13, 14, 15, 16, 17, 18, 19, 20, 21, 22, 23, 24, 25, 26, 27, 28, 29] mixed (by kernel_rfl) ?_
       refine TA.take 0 rfl (by kernel_rfl) rfl (PQ.then_ (PQ.then_ (PQ.then_ (PQ.inB (PQ.then_ (PQ.then_ (PQ.inB (PQ.then_ (PQ.then_ PQ.body))))))))) rfl (Val.fieldAddrB Try.underlying36 rfl fsz34 rfl rfl rfl) (fun W hO => hO) ?_
       refine TA.take 1 rfl (by kernel_rfl) rfl (PQ.then_ (PQ.then_ (PQ.then_ (PQ.inB (PQ.then_ (PQ.then_ (PQ.inB (PQ.then_ (PQ.then_ PQ.body))))))))) rfl (Val.loadB 1 agg34 rfl rfl rfl) (fun W hO => hO) ?_
       refine TA.take 2 rfl (by kernel_rfl) rfl (PQ.then_ (PQ.then_ (PQ.then_ (PQ.inB (PQ.then_ (PQ.then_ (PQ.inB (PQ.then_ (PQ.then_ PQ.body))))))))) rfl (Val.move rfl) (fun W hO => hO) ?_
       obtain ⟨y6034, hx6035, h⟩ := bind_no h
       obtain ⟨ad6036, cs6042, hA6037, hi6038, hj6039, hcl6040, hK6041⟩ := Rd.at hr3 hx6035
       obtain ⟨A6043, c6044, rfl, hr6045, hl6046⟩ := k28_openR hK6041
       refine TA.take 3 rfl (by kernel_rfl) rfl (PQ.then_ (PQ.then_ (PQ.then_ (PQ.inB (PQ.then_ (PQ.then_ (PQ.inB (PQ.then_ (PQ.then_ PQ.body))))))))) rfl (Val.indexAddr Try.underlying34 fsz28 rfl hA6037 rfl hi6038 hj6039) (fun W hO => hO) ?_
       refine TA.take 4 rfl (by kernel_rfl) rfl (PQ.then_ (PQ.then_ (PQ.then_ (PQ.inB (PQ.then_ (PQ.then_ (PQ.inB (PQ.then_ (PQ.then_ PQ.body))))))))) rfl (Val.fieldAddrE Try.underlying28 rfl fsz25 rfl rfl) (fun W hO => hO) ?_
       refine TA.take 5 rfl (by kernel_rfl) rfl (PQ.then_ (PQ.then_ (PQ.then_ (PQ.inB (PQ.then_ (PQ.then_ (PQ.inB (PQ.then_ (PQ.then_ PQ.body))))))))) rfl (Val.loadsS (cs := [.int .i64 y6034.f1.f0, .int .i64 y6034.f1.f1, .int .i64 y6034.f1.f2, .int .i64 y6034.f1.f3]) agg25 fsz25 rfl rfl (Cl.sub (off := 1) (n := 4) hcl6040 rfl)) (fun W hO => hO) ?_
       refine TA.take 6 rfl (by kernel_rfl) rfl (PQ.then_ (PQ.then_ (PQ.then_ (PQ.inB (PQ.then_ (PQ.then_ (PQ.inB (PQ.then_ (PQ.then_ PQ.body))))))))) rfl (Val.fieldAddrB Try.underlying36 rfl fsz34 rfl rfl rfl) (fun W hO => hO) ?_
       refine TA.take 7 rfl (by kernel_rfl) rfl (PQ.then_ (PQ.then_ (PQ.then_ (PQ.inB (PQ.then_ (PQ.then_ (PQ.inB (PQ.then_ (PQ.then_ PQ.body))))))))) rfl (Val.loadB 0 agg34 rfl rfl rfl) (fun W hO => hO) ?_
       refine TA.take 8 rfl (by kernel_rfl) rfl (PQ.then_ (PQ.then_ (PQ.then_ (PQ.inB (PQ.then_ (PQ.then_ (PQ.inB (PQ.then_ (PQ.then_ PQ.body))))))))) rfl (Val.move rfl) (fun W hO => hO) ?_
       obtain ⟨y6047, hx6048, h⟩ := bind_no h
       obtain ⟨ad6049, cs6055, hA6050, hi6051, hj6052, hcl6053, hK6054⟩ := Rd.at hr7 hx6048
       obtain ⟨A6056, c6057, rfl, hr6058, hl6059⟩ := k28_openR hK6054
       refine TA.take 9 rfl (by kernel_rfl) rfl (PQ.then_ (PQ.then_ (PQ.then_ (PQ.inB (PQ.then_ (PQ.then_ (PQ.inB (PQ.then_ (PQ.then_ PQ.body))))))))) rfl (Val.indexAddr Try.underlying34 fsz28 rfl hA6050 rfl hi6051 hj6052) (fun W hO => hO) ?_
       refine TA.take 10 rfl (by kernel_rfl) rfl (PQ.then_ (PQ.then_ (PQ.then_ (PQ.inB (PQ.then_ (PQ.then_ (PQ.inB (PQ.then_ (PQ.then_ PQ.body))))))))) rfl (Val.fieldAddrE Try.underlying28 rfl fsz25 rfl rfl) (fun W hO => hO) ?_
       refine TA.take 11 rfl (by kernel_rfl) rfl (PQ.then_ (PQ.then_ (PQ.then_ (PQ.inB (PQ.then_ (PQ.then_ (PQ.inB (PQ.then_ (PQ.then_ PQ.body))))))))) rfl (Val.loadsS (cs := [.int .i64 y6047.f1.f0, .int .i64 y6047.f1.f1, .int .i64 y6047.f1.f2, .int .i64 y6047.f1.f3]) agg25 fsz25 rfl rfl (Cl.sub (off := 1) (n := 4) hcl6053 rfl)) (fun W hO => hO) ?_
       refine TA.take 12 rfl (by kernel_rfl) rfl (PQ.then_ (PQ.then_ (PQ.then_ (PQ.inB (PQ.then_ (PQ.then_ (PQ.inB (PQ.then_ (PQ.then_ PQ.body))))))))) rfl (Val.neA eqg25 rfl rfl (fun W => eqs25 9998 W _ _ _ _ _ _ _ _)) (fun W hO => hO) ?_
       refine TA.take 13 rfl (by kernel_rfl) rfl (PQ.then_ (PQ.then_ (PQ.then_ (PQ.inB (PQ.then_ (PQ.then_ (PQ.inB (PQ.then_ (PQ.then_ PQ.body))))))))) rfl (Val.move rfl) (fun W hO => hO) ?_
       refine TK.split (p := (!((y6034.f1.f0 == y6047.f1.f0) && ((y6034.f1.f1 == y6047.f1.f1) && ((y6034.f1.f2 == y6047.f1.f2) && (y6034.f1.f3 == y6047.f1.f3))))) = true) h (fun hg6060 h => ?_) (fun hg6060 h => ?_)
       ·
        have hk6061 : (!((y6034.f1.f0 == y6047.f1.f0) && ((y6034.f1.f1 == y6047.f1.f1) && ((y6034.f1.f2 == y6047.f1.f2) && (y6034.f1.f3 == y6047.f1.f3))))) = true := hg6060
        refine TA.not 14 rfl (by kernel_rfl) rfl (PQ.then_ (PQ.then_ (PQ.then_ (PQ.inB (PQ.then_ (PQ.then_ (PQ.inB (PQ.then_ (PQ.then_ PQ.body))))))))) (Wt.no rfl rfl rfl hk6061) (fun W hO => hO) ?_
        refine TA.not 15 rfl (by kernel_rfl) rfl (PQ.then_ (PQ.then_ (PQ.then_ (PQ.inB (PQ.then_ (PQ.then_ (PQ.inB (PQ.then_ (PQ.then_ PQ.body))))))))) (Wt.no rfl rfl rfl hk6061) (fun W hO => hO) ?_
        refine TA.not 16 rfl (by kernel_rfl) rfl (PQ.then_ (PQ.then_ (PQ.then_ (PQ.inB (PQ.then_ (PQ.then_ (PQ.inB (PQ.then_ (PQ.then_ PQ.body))))))))) (Wt.no rfl rfl rfl hk6061) (fun W hO => hO) ?_
        refine TA.not 17 rfl (by kernel_rfl) rfl (PQ.then_ (PQ.then_ (PQ.then_ (PQ.inB (PQ.then_ (PQ.then_ (PQ.inB (PQ.then_ (PQ.then_ PQ.body))))))))) (Wt.no rfl rfl rfl hk6061) (fun W hO => hO) ?_
        refine TA.not 18 rfl (by kernel_rfl) rfl (PQ.then_ (PQ.then_ (PQ.then_ (PQ.inB (PQ.then_ (PQ.then_ (PQ.inB (PQ.then_ (PQ.then_ PQ.body))))))))) (Wt.no rfl rfl rfl hk6061) (fun W hO => hO) ?_
        refine TA.not 19 rfl (by kernel_rfl) rfl (PQ.then_ (PQ.then_ (PQ.then_ (PQ.inB (PQ.then_ (PQ.then_ (PQ.inB (PQ.then_ (PQ.then_ PQ.body))))))))) (Wt.no rfl rfl rfl hk6061) (fun W hO => hO) ?_
        refine TA.not 20 rfl (by kernel_rfl) rfl (PQ.then_ (PQ.then_ (PQ.then_ (PQ.inB (PQ.then_ (PQ.then_ (PQ.inB (PQ.then_ (PQ.then_ PQ.body))))))))) (Wt.no rfl rfl rfl hk6061) (fun W hO => hO) ?_
        refine TA.not 21 rfl (by kernel_rfl) rfl (PQ.then_ (PQ.then_ (PQ.then_ (PQ.inB (PQ.then_ (PQ.then_ (PQ.inB (PQ.then_ (PQ.then_ PQ.body))))))))) (Wt.no rfl rfl rfl hk6061) (fun W hO => hO) ?_
        refine TA.not 22 rfl (by kernel_rfl) rfl (PQ.then_ (PQ.then_ (PQ.then_ (PQ.inB (PQ.then_ (PQ.then_ (PQ.inB (PQ.then_ (PQ.then_ PQ.body))))))))) (Wt.no rfl rfl rfl hk6061) (fun W hO => hO) ?_
        refine TA.not 23 rfl (by kernel_rfl) rfl (PQ.then_ (PQ.then_ (PQ.then_ (PQ.inB (PQ.then_ (PQ.then_ (PQ.inB (PQ.then_ (PQ.then_ PQ.body))))))))) (Wt.no rfl rfl rfl hk6061) (fun W hO => hO) ?_
        refine TA.not 24 rfl (by kernel_rfl) rfl (PQ.then_ (PQ.then_ (PQ.then_ (PQ.inB (PQ.then_ (PQ.then_ (PQ.inB (PQ.then_ (PQ.then_ PQ.body))))))))) (Wt.no rfl rfl rfl hk6061) (fun W hO => hO) ?_
        refine TA.not 25 rfl (by kernel_rfl) rfl (PQ.then_ (PQ.then_ (PQ.then_ (PQ.inB (PQ.then_ (PQ.then_ (PQ.inB (PQ.then_ (PQ.then_ PQ.body))))))))) (Wt.no rfl rfl rfl hk6061) (fun W hO => hO) ?_
        refine TA.not 26 rfl (by kernel_rfl) rfl (PQ.then_ (PQ.then_ (PQ.then_ (PQ.inB (PQ.then_ (PQ.then_ (PQ.inB (PQ.then_ (PQ.then_ PQ.body))))))))) (Wt.no rfl rfl rfl hk6061) (fun W hO => hO) ?_
        refine TA.not 27 rfl (by kernel_rfl) rfl (PQ.then_ (PQ.then_ (PQ.then_ (PQ.inB (PQ.then_ (PQ.then_ (PQ.inB (PQ.then_ (PQ.then_ PQ.body))))))))) (Wt.no rfl rfl rfl hk6061) (fun W hO => hO) ?_
        refine TA.not 28 rfl (by kernel_rfl) rfl (PQ.then_ (PQ.then_ (PQ.then_ (PQ.inB (PQ.then_ (PQ.then_ (PQ.inB (PQ.then_ (PQ.then_ PQ.body))))))))) (Wt.no rfl rfl rfl hk6061) (fun W hO => hO) ?_
        refine TA.take 29 rfl (by kernel_rfl) rfl (PQ.then_ (PQ.then_ (PQ.then_ (PQ.inB (PQ.then_ (PQ.then_ (PQ.inB (PQ.then_ (PQ.then_ PQ.body))))))))) rfl (Val.pickY rfl hk6061 rfl) (fun W hO => hO) ?_
        refine TA.done (by kernel_rfl) ?_
        exact fun a W hF hO => ⟨true, h, hF.sub ⟨rfl, rfl, rfl, rfl, trivial⟩, hO.selT (Ls := [Blk b10 [.int .i64 a1.f0, .slice A5 a1.f1.length c6] 36, Blk b9 [.int .i64 a0.f0, .slice A1 a0.f1.length c2] 36]) [0, 1] 2 rfl rfl rfl⟩
       ·
        have hk6062 : (!((y6034.f1.f0 == y6047.f1.f0) && ((y6034.f1.f1 == y6047.f1.f1) && ((y6034.f1.f2 == y6047.f1.f2) && (y6034.f1.f3 == y6047.f1.f3))))) = false := (by simpa using hg6060)
        refine TA.take 14 rfl (by kernel_rfl) rfl (PQ.then_ (PQ.then_ (PQ.then_ (PQ.inB (PQ.then_ (PQ.then_ (PQ.inB (PQ.then_ (PQ.then_ PQ.body))))))))) (Wt.yes rfl rfl rfl hk6062) (Val.fieldAddrB Try.underlying36 rfl fsz34 rfl rfl rfl) (fun W hO => hO) ?_
        refine TA.take 15 rfl (by kernel_rfl) rfl (PQ.then_ (PQ.then_ (PQ.then_ (PQ.inB (PQ.then_ (PQ.then_ (PQ.inB (PQ.then_ (PQ.then_ PQ.body))))))))) (Wt.yes rfl rfl rfl hk6062) (Val.loadB 1 agg34 rfl rfl rfl) (fun W hO => hO) ?_
        refine TA.take 16 rfl (by kernel_rfl) rfl (PQ.then_ (PQ.then_ (PQ.then_ (PQ.inB (PQ.then_ (PQ.then_ (PQ.inB (PQ.then_ (PQ.then_ PQ.body))))))))) (Wt.yes rfl rfl rfl hk6062) (Val.move rfl) (fun W hO => hO) ?_
        refine TA.take 17 rfl (by kernel_rfl) rfl (PQ.then_ (PQ.then_ (PQ.then_ (PQ.inB (PQ.then_ (PQ.then_ (PQ.inB (PQ.then_ (PQ.then_ PQ.body))))))))) (Wt.yes rfl rfl rfl hk6062) (Val.indexAddr Try.underlying34 fsz28 rfl hA6037 rfl hi6038 hj6039) (fun W hO => hO) ?_
        refine TA.take 18 rfl (by kernel_rfl) rfl (PQ.then_ (PQ.then_ (PQ.then_ (PQ.inB (PQ.then_ (PQ.then_ (PQ.inB (PQ.then_ (PQ.then_ PQ.body))))))))) (Wt.yes rfl rfl rfl hk6062) (Val.fieldAddrE Try.underlying28 rfl fsz26 rfl rfl) (fun W hO => hO) ?_
        refine TA.take 19 rfl (by kernel_rfl) rfl (PQ.then_ (PQ.then_ (PQ.then_ (PQ.inB (PQ.then_ (PQ.then_ (PQ.inB (PQ.then_ (PQ.then_ PQ.body))))))))) (Wt.yes rfl rfl rfl hk6062) (Val.loadS agg26 rfl (hcl6040 0 _ rfl)) (fun W hO => hO) ?_
        refine TA.take 20 rfl (by kernel_rfl) rfl (PQ.then_ (PQ.then_ (PQ.then_ (PQ.inB (PQ.then_ (PQ.then_ (PQ.inB (PQ.then_ (PQ.then_ PQ.body))))))))) (Wt.yes rfl rfl rfl hk6062) (Val.len Try.underlying26 rfl) (fun W hO => hO) ?_
        refine TA.take 21 rfl (by kernel_rfl) rfl (PQ.then_ (PQ.then_ (PQ.then_ (PQ.inB (PQ.then_ (PQ.then_ (PQ.inB (PQ.then_ (PQ.then_ PQ.body))))))))) (Wt.yes rfl rfl rfl hk6062) (Val.fieldAddrB Try.underlying36 rfl fsz34 rfl rfl rfl) (fun W hO => hO) ?_
        refine TA.take 22 rfl (by kernel_rfl) rfl (PQ.then_ (PQ.then_ (PQ.then_ (PQ.inB (PQ.then_ (PQ.then_ (PQ.inB (PQ.then_ (PQ.then_ PQ.body))))))))) (Wt.yes rfl rfl rfl hk6062) (Val.loadB 0 agg34 rfl rfl rfl) (fun W hO => hO) ?_
        refine TA.take 23 rfl (by kernel_rfl) rfl (PQ.then_ (PQ.then_ (PQ.then_ (PQ.inB (PQ.then_ (PQ.then_ (PQ.inB (PQ.then_ (PQ.then_ PQ.body))))))))) (Wt.yes rfl rfl rfl hk6062) (Val.move rfl) (fun W hO => hO) ?_
        refine TA.take 24 rfl (by kernel_rfl) rfl (PQ.then_ (PQ.then_ (PQ.then_ (PQ.inB (PQ.then_ (PQ.then_ (PQ.inB (PQ.then_ (PQ.then_ PQ.body))))))))) (Wt.yes rfl rfl rfl hk6062) (Val.indexAddr Try.underlying34 fsz28 rfl hA6050 rfl hi6051 hj6052) (fun W hO => hO) ?_
        refine TA.take 25 rfl (by kernel_rfl) rfl (PQ.then_ (PQ.then_ (PQ.then_ (PQ.inB (PQ.then_ (PQ.then_ (PQ.inB (PQ.then_ (PQ.then_ PQ.body))))))))) (Wt.yes rfl rfl rfl hk6062) (Val.fieldAddrE Try.underlying28 rfl fsz26 rfl rfl) (fun W hO => hO) ?_
        refine TA.take 26 rfl (by kernel_rfl) rfl (PQ.then_ (PQ.then_ (PQ.then_ (PQ.inB (PQ.then_ (PQ.then_ (PQ.inB (PQ.then_ (PQ.then_ PQ.body))))))))) (Wt.yes rfl rfl rfl hk6062) (Val.loadS agg26 rfl (hcl6053 0 _ rfl)) (fun W hO => hO) ?_
        refine TA.take 27 rfl (by kernel_rfl) rfl (PQ.then_ (PQ.then_ (PQ.then_ (PQ.inB (PQ.then_ (PQ.then_ (PQ.inB (PQ.then_ (PQ.then_ PQ.body))))))))) (Wt.yes rfl rfl rfl hk6062) (Val.len Try.underlying26 rfl) (fun W hO => hO) ?_
        refine TA.take 28 rfl (by kernel_rfl) rfl (PQ.then_ (PQ.then_ (PQ.then_ (PQ.inB (PQ.then_ (PQ.then_ (PQ.inB (PQ.then_ (PQ.then_ PQ.body))))))))) (Wt.yes rfl rfl rfl hk6062) (Val.cmp rfl rfl run_neq) (fun W hO => hO) ?_
        refine TA.take 29 rfl (by kernel_rfl) rfl (PQ.then_ (PQ.then_ (PQ.then_ (PQ.inB (PQ.then_ (PQ.then_ (PQ.inB (PQ.then_ (PQ.then_ PQ.body))))))))) rfl (Val.pickN rfl hk6062 rfl) (fun W hO => hO) ?_
        refine TA.done (by kernel_rfl) ?_
        exact fun a W hF hO => ⟨(!decide ((y6034.f0.length : Int) = (y6047.f0.length : Int))), h, hF.sub ⟨rfl, rfl, rfl, rfl, trivial⟩, hO.selT (Ls := [Blk b10 [.int .i64 a1.f0, .slice A5 a1.f1.length c6] 36, Blk b9 [.int .i64 a0.f0, .slice A1 a0.f1.length c2] 36]) [0, 1] 2 rfl rfl rfl⟩
     ·
      refine TC.exit ?_
      refine TQ.thenX ?_
      refine TQ.thenX ?_
      refine TQ.inBX ?_
      exact fun a W hF hO => ⟨Option.some.inj h, hF.sub trivial, hO.selT (Ls := []) [] 2 rfl rfl rfl⟩
 ·
  refine TC.region ?_
  refine TL.cons (TO.val rfl rfl rfl (Val.fieldAddrB Try.underlying36 rfl fsz3 rfl rfl rfl) ?_)
  refine TL.cons (TO.val rfl rfl rfl (Val.loadB 1 agg3 rfl rfl rfl) ?_)
  refine TL.cons (TO.val rfl rfl rfl (Val.fieldAddrB Try.underlying36 rfl fsz3 rfl rfl rfl) ?_)
  refine TL.cons (TO.val rfl rfl rfl (Val.loadB 0 agg3 rfl rfl rfl) ?_)
  refine TL.cons (TO.val rfl rfl rfl (Val.cmp rfl rfl run_neq) ?_)
  refine TL.cons (TO.val rfl rfl rfl (Val.move rfl) ?_)
  refine TK.split (p := (!decide (a0.f0 = a1.f0)) = true) h (fun hg6063 h => ?_) (fun hg6063 h => ?_)
  ·
   have hk6064 : (!decide (a0.f0 = a1.f0)) = true := hg6063
   refine TL.cons (TL.not (Wt.no rfl rfl rfl hk6064) rfl ?_)
   refine TL.cons (TL.not (Wt.no rfl rfl rfl hk6064) rfl ?_)
   refine TL.cons (TL.not (Wt.no rfl rfl rfl hk6064) rfl ?_)
   refine TL.cons (TL.not (Wt.no rfl rfl rfl hk6064) rfl ?_)
   refine TL.cons (TL.not (Wt.no rfl rfl rfl hk6064) rfl ?_)
   refine TL.cons (TL.not (Wt.no rfl rfl rfl hk6064) rfl ?_)
   refine TL.cons (TL.not (Wt.no rfl rfl rfl hk6064) rfl ?_)
   refine TL.cons (TO.val rfl rfl rfl (Val.pickY rfl hk6064 rfl) ?_)
   refine TL.nil ?_
   exact fun a W hF hO => ⟨true, h, hF.sub ⟨rfl, rfl, rfl, trivial⟩, hO.selT (Ls := [Blk b10 [.int .i64 a1.f0, .slice A5 a1.f1.length c6] 36, Blk b9 [.int .i64 a0.f0, .slice A1 a0.f1.length c2] 36]) [0, 1] 2 rfl rfl rfl⟩
  ·
   have hk6065 : (!decide (a0.f0 = a1.f0)) = false := (by simpa using hg6063)
   refine TL.cons (TO.val (Wt.yes rfl rfl rfl hk6065) rfl rfl (Val.fieldAddrB Try.underlying36 rfl fsz34 rfl rfl rfl) ?_)
   refine TL.cons (TO.val (Wt.yes rfl rfl rfl hk6065) rfl rfl (Val.loadB 1 agg34 rfl rfl rfl) ?_)
   refine TL.cons (TO.val (Wt.yes rfl rfl rfl hk6065) rfl rfl (Val.len Try.underlying34 rfl) ?_)
   refine TL.cons (TO.val (Wt.yes rfl rfl rfl hk6065) rfl rfl (Val.fieldAddrB Try.underlying36 rfl fsz34 rfl rfl rfl) ?_)
   refine TL.cons (TO.val (Wt.yes rfl rfl rfl hk6065) rfl rfl (Val.loadB 0 agg34 rfl rfl rfl) ?_)
   refine TL.cons (TO.val (Wt.yes rfl rfl rfl hk6065) rfl rfl (Val.len Try.underlying34 rfl) ?_)
   refine TL.cons (TO.val (Wt.yes rfl rfl rfl hk6065) rfl rfl (Val.cmp rfl rfl run_neq) ?_)
   refine TL.cons (TO.val rfl rfl rfl (Val.pickN rfl hk6065 rfl) ?_)
   refine TL.nil ?_
   exact fun a W hF hO => ⟨(!decide ((a0.f1.length : Int) = (a1.f1.length : Int))), h, hF.sub ⟨rfl, rfl, rfl, trivial⟩, hO.selT (Ls := [Blk b10 [.int .i64 a1.f0, .slice A5 a1.f1.length c6] 36, Blk b9 [.int .i64 a0.f0, .slice A1 a0.f1.length c2] 36]) [0, 1] 2 rfl rfl rfl⟩
end Go.Proofs.Ytmacdhkfgoahcaa.Sy
set_option linter.unusedVariables false
set_option linter.unusedSimpArgs false
set_option maxRecDepth 100000
set_option maxHeartbeats 4000000
namespace Go.Proofs.Ytmacdhkfgoahcaa.Sy
open Go Go.RowKit Go.Proofs.YtmacdhkfgoahcaaW.PrintWords 
def swagelaw24_some.f : Option S28 := some (⟨([(⟨1, 1, 0, 0, 4, ([] : List Int)⟩ : S30), (⟨3, 2, 1, 0, 0, ([] : List Int)⟩ : S30), (⟨2, 3, 2, 1, 1, ([] : List Int)⟩ : S30)] : List S30), (⟨2, 3, 1, 2⟩ : S25)⟩ : S28)
def swagelaw24_some.post (G : Gd)  (r : S28) (v : Value) (G' : Gd) (Lr : List Ch) : Prop := G = G' ∧ ∃ (A_1 : Option Addr) (c_1 : Nat), v = .agg #[.slice A_1 r.f0.length c_1, .int .i64 r.f1.f0, .int .i64 r.f1.f1, .int .i64 r.f1.f2, .int .i64 r.f1.f3] ∧ Lr = [Row k30 30 (.slice A_1 r.f0.length c_1) r.f0]
theorem swagelaw24_some.calls {G : Gd} {r : S28} (h : swagelaw24_some.f = some r) : Fn Try.prog 51 G [] [] (swagelaw24_some.post G  r) := by
 refine Fn.intro (e := []) 7 Try.func51 rfl Try.ntmps51 rfl rfl (Nat.le_of_ble_eq_true rfl) (fun L => ?_)
 unfold swagelaw24_some.f at h
 refine TC.seq ?_
 refine TC.region ?_
 refine TL.cons (TL.alloc (cs := [.slice none 0 0, .int .i64 0, .int .i64 0, .int .i64 0, .int .i64 0]) rfl rfl zr28 rfl (fun b1 => ?_))
 refine TL.nil ?_
 refine TQ.then_ ?_
 refine TC.seq ?_
 refine TC.region ?_
 refine TL.cons (TO.val rfl rfl rfl (Val.build (cs := [.int .i64 1, .int .i64 1, .int .i64 0, .int .i64 0, .int .i64 4, .slice none 0 0]) (is := [0, 1, 4]) (xs := [.const (.int .i64 1), .const (.int .i64 1), .const (.int .i64 4)]) Try.underlying30 zr30 bld30 rfl rfl rfl rfl) ?_)
 refine TL.cons (TO.val rfl rfl rfl (Val.build (cs := [.int .i64 3, .int .i64 2, .int .i64 1, .int .i64 0, .int .i64 0, .slice none 0 0]) (is := [0, 1, 2]) (xs := [.const (.int .i64 3), .const (.int .i64 2), .const (.int .i64 1)]) Try.underlying30 zr30 bld30 rfl rfl rfl rfl) ?_)
 refine TL.cons (TO.val rfl rfl rfl (Val.build (cs := [.int .i64 2, .int .i64 3, .int .i64 2, .int .i64 1, .int .i64 1, .slice none 0 0]) (is := [0, 1, 2, 3, 4]) (xs := [.const (.int .i64 2), .const (.int .i64 3), .const (.int .i64 2), .const (.int .i64 1), .const (.int .i64 1)]) Try.underlying30 zr30 bld30 rfl rfl rfl rfl) ?_)
 refine TL.cons (TL.buildSlice (xs := [.tmp 1, .tmp 2, .tmp 3]) (vs := [.agg #[.int .i64 1, .int .i64 1, .int .i64 0, .int .i64 0, .int .i64 4, .slice none 0 0], .agg #[.int .i64 3, .int .i64 2, .int .i64 1, .int .i64 0, .int .i64 0, .slice none 0 0], .agg #[.int .i64 2, .int .i64 3, .int .i64 2, .int .i64 1, .int .i64 1, .slice none 0 0]]) (cs := [.int .i64 1, .int .i64 1, .int .i64 0, .int .i64 0, .int .i64 4, .slice none 0 0, .int .i64 3, .int .i64 2, .int .i64 1, .int .i64 0, .int .i64 0, .slice none 0 0, .int .i64 2, .int .i64 3, .int .i64 2, .int .i64 1, .int .i64 1, .slice none 0 0]) rfl rfl Try.underlying26 zs30 rfl rfl rfl rfl rfl rfl rfl rfl (fun b2 => ?_))
 refine TL.cons (TO.val rfl rfl rfl (Val.build (cs := [.int .i64 2, .int .i64 3, .int .i64 1, .int .i64 2]) (is := [0, 1, 2, 3]) (xs := [.const (.int .i64 2), .const (.int .i64 3), .const (.int .i64 1), .const (.int .i64 2)]) Try.underlying25 zr25 bld25 rfl rfl rfl rfl) ?_)
 refine TL.cons (TO.val rfl rfl rfl (Val.build (cs := [.slice (some ⟨b2, 0, none⟩) 3 3, .int .i64 2, .int .i64 3, .int .i64 1, .int .i64 2]) (is := [0, 1]) (xs := [.tmp 4, .tmp 5]) Try.underlying28 zr28 bld28 rfl rfl rfl rfl) ?_)
 refine TL.cons (TL.store 1 (ds := [.slice (some ⟨b2, 0, none⟩) 3 3, .int .i64 2, .int .i64 3, .int .i64 1, .int .i64 2]) (cs' := [.slice (some ⟨b2, 0, none⟩) 3 3, .int .i64 2, .int .i64 3, .int .i64 1, .int .i64 2]) (L' := (Blk b2 [.int .i64 1, .int .i64 1, .int .i64 0, .int .i64 0, .int .i64 4, .slice none 0 0, .int .i64 3, .int .i64 2, .int .i64 1, .int .i64 0, .int .i64 0, .slice none 0 0, .int .i64 2, .int .i64 3, .int .i64 2, .int .i64 1, .int .i64 1, .slice none 0 0] 30 :: Blk b1 [.slice (some ⟨b2, 0, none⟩) 3 3, .int .i64 2, .int .i64 3, .int .i64 1, .int .i64 2] 28 :: L)) rfl fsz28 rfl rfl rfl rfl rfl (Nat.le_of_ble_eq_true rfl) rfl rfl ?_)
 refine TL.nil ?_
 refine TQ.then_ ?_
 refine TC.ret ?_
 refine TQ.new (Els.nil k30) ?_
 refine TQ.new (Row.nil (Kd.int .i64) 3) ?_
 refine TQ.conv (ch' := El k30 (⟨1, 1, 0, 0, 4, ([] : List Int)⟩ : S30) [.int .i64 1, .int .i64 1, .int .i64 0, .int .i64 0, .int .i64 4, .slice none 0 0]) (fun B W F hh => k30_mkM W B F (⟨1, 1, 0, 0, 4, ([] : List Int)⟩ : S30) hh) ?_
 refine TQ.sel (Ls := [Els k30 [] [], El k30 (⟨1, 1, 0, 0, 4, ([] : List Int)⟩ : S30) [.int .i64 1, .int .i64 1, .int .i64 0, .int .i64 0, .int .i64 4, .slice none 0 0], Blk b2 [.int .i64 1, .int .i64 1, .int .i64 0, .int .i64 0, .int .i64 4, .slice none 0 0, .int .i64 3, .int .i64 2, .int .i64 1, .int .i64 0, .int .i64 0, .slice none 0 0, .int .i64 2, .int .i64 3, .int .i64 2, .int .i64 1, .int .i64 1, .slice none 0 0] 30, Blk b1 [.slice (some ⟨b2, 0, none⟩) 3 3, .int .i64 2, .int .i64 3, .int .i64 1, .int .i64 2] 28]) [1, 0, 2, 3] 4 rfl rfl rfl ?_
 refine TQ.two (ch := Els k30 [(⟨1, 1, 0, 0, 4, ([] : List Int)⟩ : S30)] [.int .i64 1, .int .i64 1, .int .i64 0, .int .i64 0, .int .i64 4, .slice none 0 0]) (Els.snoc k30) ?_
 refine TQ.new (Row.nil (Kd.int .i64) 3) ?_
 refine TQ.conv (ch' := El k30 (⟨3, 2, 1, 0, 0, ([] : List Int)⟩ : S30) [.int .i64 3, .int .i64 2, .int .i64 1, .int .i64 0, .int .i64 0, .slice none 0 0]) (fun B W F hh => k30_mkM W B F (⟨3, 2, 1, 0, 0, ([] : List Int)⟩ : S30) hh) ?_
 refine TQ.sel (Ls := [Els k30 [(⟨1, 1, 0, 0, 4, ([] : List Int)⟩ : S30)] [.int .i64 1, .int .i64 1, .int .i64 0, .int .i64 0, .int .i64 4, .slice none 0 0], El k30 (⟨3, 2, 1, 0, 0, ([] : List Int)⟩ : S30) [.int .i64 3, .int .i64 2, .int .i64 1, .int .i64 0, .int .i64 0, .slice none 0 0], Blk b2 [.int .i64 1, .int .i64 1, .int .i64 0, .int .i64 0, .int .i64 4, .slice none 0 0, .int .i64 3, .int .i64 2, .int .i64 1, .int .i64 0, .int .i64 0, .slice none 0 0, .int .i64 2, .int .i64 3, .int .i64 2, .int .i64 1, .int .i64 1, .slice none 0 0] 30, Blk b1 [.slice (some ⟨b2, 0, none⟩) 3 3, .int .i64 2, .int .i64 3, .int .i64 1, .int .i64 2] 28]) [1, 0, 2, 3] 4 rfl rfl rfl ?_
 refine TQ.two (ch := Els k30 [(⟨1, 1, 0, 0, 4, ([] : List Int)⟩ : S30), (⟨3, 2, 1, 0, 0, ([] : List Int)⟩ : S30)] [.int .i64 1, .int .i64 1, .int .i64 0, .int .i64 0, .int .i64 4, .slice none 0 0, .int .i64 3, .int .i64 2, .int .i64 1, .int .i64 0, .int .i64 0, .slice none 0 0]) (Els.snoc k30) ?_
 refine TQ.new (Row.nil (Kd.int .i64) 3) ?_
 refine TQ.conv (ch' := El k30 (⟨2, 3, 2, 1, 1, ([] : List Int)⟩ : S30) [.int .i64 2, .int .i64 3, .int .i64 2, .int .i64 1, .int .i64 1, .slice none 0 0]) (fun B W F hh => k30_mkM W B F (⟨2, 3, 2, 1, 1, ([] : List Int)⟩ : S30) hh) ?_
 refine TQ.sel (Ls := [Els k30 [(⟨1, 1, 0, 0, 4, ([] : List Int)⟩ : S30), (⟨3, 2, 1, 0, 0, ([] : List Int)⟩ : S30)] [.int .i64 1, .int .i64 1, .int .i64 0, .int .i64 0, .int .i64 4, .slice none 0 0, .int .i64 3, .int .i64 2, .int .i64 1, .int .i64 0, .int .i64 0, .slice none 0 0], El k30 (⟨2, 3, 2, 1, 1, ([] : List Int)⟩ : S30) [.int .i64 2, .int .i64 3, .int .i64 2, .int .i64 1, .int .i64 1, .slice none 0 0], Blk b2 [.int .i64 1, .int .i64 1, .int .i64 0, .int .i64 0, .int .i64 4, .slice none 0 0, .int .i64 3, .int .i64 2, .int .i64 1, .int .i64 0, .int .i64 0, .slice none 0 0, .int .i64 2, .int .i64 3, .int .i64 2, .int .i64 1, .int .i64 1, .slice none 0 0] 30, Blk b1 [.slice (some ⟨b2, 0, none⟩) 3 3, .int .i64 2, .int .i64 3, .int .i64 1, .int .i64 2] 28]) [1, 0, 2, 3] 4 rfl rfl rfl ?_
 refine TQ.two (ch := Els k30 [(⟨1, 1, 0, 0, 4, ([] : List Int)⟩ : S30), (⟨3, 2, 1, 0, 0, ([] : List Int)⟩ : S30), (⟨2, 3, 2, 1, 1, ([] : List Int)⟩ : S30)] [.int .i64 1, .int .i64 1, .int .i64 0, .int .i64 0, .int .i64 4, .slice none 0 0, .int .i64 3, .int .i64 2, .int .i64 1, .int .i64 0, .int .i64 0, .slice none 0 0, .int .i64 2, .int .i64 3, .int .i64 2, .int .i64 1, .int .i64 1, .slice none 0 0]) (Els.snoc k30) ?_
 refine TQ.sel (Ls := [Blk b2 [.int .i64 1, .int .i64 1, .int .i64 0, .int .i64 0, .int .i64 4, .slice none 0 0, .int .i64 3, .int .i64 2, .int .i64 1, .int .i64 0, .int .i64 0, .slice none 0 0, .int .i64 2, .int .i64 3, .int .i64 2, .int .i64 1, .int .i64 1, .slice none 0 0] 30, Els k30 [(⟨1, 1, 0, 0, 4, ([] : List Int)⟩ : S30), (⟨3, 2, 1, 0, 0, ([] : List Int)⟩ : S30), (⟨2, 3, 2, 1, 1, ([] : List Int)⟩ : S30)] [.int .i64 1, .int .i64 1, .int .i64 0, .int .i64 0, .int .i64 4, .slice none 0 0, .int .i64 3, .int .i64 2, .int .i64 1, .int .i64 0, .int .i64 0, .slice none 0 0, .int .i64 2, .int .i64 3, .int .i64 2, .int .i64 1, .int .i64 1, .slice none 0 0], Blk b1 [.slice (some ⟨b2, 0, none⟩) 3 3, .int .i64 2, .int .i64 3, .int .i64 1, .int .i64 2] 28]) [1, 0, 2] 3 rfl rfl rfl ?_
 refine TQ.two (ch := Row k30 30 (.slice (some ⟨b2, 0, none⟩) 3 3) ([(⟨1, 1, 0, 0, 4, ([] : List Int)⟩ : S30), (⟨3, 2, 1, 0, 0, ([] : List Int)⟩ : S30), (⟨2, 3, 2, 1, 1, ([] : List Int)⟩ : S30)] : List S30)) (Row.lit k30 rfl rfl) ?_
 obtain rfl := Option.some.inj h
 exact TQ.fin (.inl rfl) rfl Try.results51 (.cells 1 rfl rfl agg28 fsz28 .nil) rfl (FRel.mk (Ls := [Row k30 30 (.slice (some ⟨b2, 0, none⟩) 3 3) ([(⟨1, 1, 0, 0, 4, ([] : List Int)⟩ : S30), (⟨3, 2, 1, 0, 0, ([] : List Int)⟩ : S30), (⟨2, 3, 2, 1, 1, ([] : List Int)⟩ : S30)] : List S30)]) [0] 2 (Gd.le.refl _) rfl rfl rfl ⟨rfl, (some ⟨b2, 0, none⟩), 3, rfl, rfl⟩)
end Go.Proofs.Ytmacdhkfgoahcaa.Sy
set_option linter.unusedVariables false
set_option linter.unusedSimpArgs false
set_option maxRecDepth 100000
set_option maxHeartbeats 4000000
namespace Go.Proofs.Ytmacdhkfgoahcaa.Sy
open Go Go.RowKit Go.Proofs.YtmacdhkfgoahcaaW.PrintWords 
def fold_Op.l0 (a1 : (List S76)) : Nat → Int → MpS → Option (MpS)
 | 0, _, _ => none
 | n389 + 1, x349, x350 => (if x349 < (a1.length : Int) then (at? a1 x349).bind fun y450 => (if wfi y450.f0 then jn (γ := (MpS)) (fun (x463 : MpS) => fold_Op.l0 a1 n389 (IntKind.i64.wrap (x349 + 1)) x463) (fun (j464 : (MpS → Option (MpS))) => (if (!(mhas x350 y450.f0)) = true then (if x350.1 < 17592186044416 ∧ wfi y450.f0 ∧ wfi y450.f1 then j464 (mput x350 y450.f0 y450.f1) else none) else j464 x350)) else none) else some x350)
def fold_Op.f (a0 : S30) (a1 : (List S76)) : Option S30 := (fold_Op.l0 a1 (a1.length + 1) 0 mnil).bind fun (x387 : MpS) => (fold_numbers_op.f x387 a0).bind fun (y424 : S30) => some y424
def fold_Op.post (G : Gd)  (r : S30) (v : Value) (G' : Gd) (Lr : List Ch) : Prop := ∃ (A_1 : Option Addr) (c_1 : Nat), v = .agg #[.int .i64 r.f0, .int .i64 r.f1, .int .i64 r.f2, .int .i64 r.f3, .int .i64 r.f4, .slice A_1 r.f5.length c_1] ∧ Lr = [Row (Kd.int .i64) 3 (.slice A_1 r.f5.length c_1) r.f5]
theorem fold_Op.calls {G : Gd} {r : S30} {a0 : S30} {a1 : (List S76)} {A1 : Option Addr} {c2 : Nat} {A5 : Option Addr} {c6 : Nat} (hr3 : Rd G (Kd.int .i64) A1 a0.f5) (hl4 : a0.f5.length ≤ c2) (hr7 : Rd G k76 A5 a1) (hl8 : a1.length ≤ c6) (h : fold_Op.f a0 a1 = some r) : Fn Try.prog 52 G [] [.agg #[.int .i64 a0.f0, .int .i64 a0.f1, .int .i64 a0.f2, .int .i64 a0.f3, .int .i64 a0.f4, .slice A1 a0.f5.length c2], .slice A5 a1.length c6] (fold_Op.post G  r) := by
 refine Fn.intro (e := [(0, .agg #[.int .i64 a0.f0, .int .i64 a0.f1, .int .i64 a0.f2, .int .i64 a0.f3, .int .i64 a0.f4, .slice A1 a0.f5.length c2]), (1, .slice A5 a1.length c6)]) 9 Try.func52 rfl Try.ntmps52 rfl rfl (Nat.le_of_ble_eq_true rfl) (fun L => ?_)
 unfold fold_Op.f at h
 refine TC.seq ?_
 refine TC.region ?_
 refine TL.cons (TL.box (cs := [.int .i64 a0.f0, .int .i64 a0.f1, .int .i64 a0.f2, .int .i64 a0.f3, .int .i64 a0.f4, .slice A1 a0.f5.length c2]) rfl rfl rfl rfl (fun b9 => ?_))
 refine TL.cons (TL.alloc (cs := [.int .i64 0, .int .i64 0, .int .i64 0, .int .i64 0, .int .i64 0, .slice none 0 0]) rfl rfl zr30 rfl (fun b10 => ?_))
 refine TL.nil ?_
 refine TQ.then_ ?_
 refine TC.seq ?_
 refine TC.regionAny [4] [0, 2] mixed (by kernel_rfl) ?_
 refine TA.take 0 rfl (by kernel_rfl) rfl (PQ.then_ PQ.body) rfl (Val.move rfl) (fun W hO => hO) ?_
 refine TA.take 2 rfl (by kernel_rfl) rfl (PQ.then_ PQ.body) rfl (Val.loadsB 1 (cs := [.int .i64 a0.f0, .int .i64 a0.f1, .int .i64 a0.f2, .int .i64 a0.f3, .int .i64 a0.f4, .slice A1 a0.f5.length c2]) agg30 fsz30 rfl rfl rfl rfl) (fun W hO => hO) ?_
 refine TA.eff 1 rfl (by kernel_rfl) rfl (TO.inl (args := [.slice A5 a1.length c6]) (e' := [(0, .slice A5 a1.length c6)]) 31 rfl rfl hbd76 rfl rfl Try.func76 rfl Try.ntmps76 rfl rfl (Nat.le_of_ble_eq_true rfl) (fun a170 hf171 => ?_))
 refine TC.seq ?_
 refine TC.region ?_
 refine TL.cons (TO.val rfl rfl rfl (Val.assign rfl) ?_)
 refine TL.nil ?_
 refine TQ.then_ ?_
 refine TC.seq ?_
 refine TC.region ?_
 refine TL.cons (TL.makeMap (k := 3) (el := 3) rfl rfl (fun b274 => ?_))
 refine TL.cons (TO.val rfl rfl rfl (Val.assign rfl) ?_)
 refine TL.nil ?_
 refine TQ.then_ ?_
 refine TC.seq ?_
 refine TC.seq ?_
 refine TC.region ?_
 refine TL.cons (TO.val rfl rfl rfl (Val.move rfl) ?_)
 refine TL.cons (TO.val rfl rfl rfl (Val.len Try.underlying77 rfl) ?_)
 refine TL.cons (TO.val rfl rfl rfl (Val.move rfl) ?_)
 refine TL.nil ?_
 refine TQ.then_ ?_
 obtain ⟨o388, ho388, ko388⟩ := bind_no h
 clear h
 refine TC.tail (fun a W => ∃ (x387 : MpS), x387 = o388 ∧ Fr 31 a [(3, .map (some b274))] ∧ Own G (Blk b10 [.int .i64 0, .int .i64 0, .int .i64 0, .int .i64 0, .int .i64 0, .slice none 0 0] 30 :: Mp Try.prog 3 3 b274 x387 :: Blk b9 [.int .i64 a0.f0, .int .i64 a0.f1, .int .i64 a0.f2, .int .i64 a0.f3, .int .i64 a0.f4, .slice A1 a0.f5.length c2] 30 :: L) W) ?_ ?_
 ·
  rintro a W ⟨x387, rfl, hF, hO⟩
  have h := ko388
  clear ko388 ho388
  refine TQ.use ?_ hF hO
  clear hF hO
  refine TQ.then_ ?_
  refine TC.seq ?_
  refine TC.region ?_
  refine TL.cons (TO.val rfl rfl rfl (Val.move rfl) ?_)
  refine TL.cons (TO.val rfl rfl rfl (Val.assign rfl) ?_)
  refine TL.nil ?_
  refine TQ.then_ ?_
  refine TC.ret ?_
  refine TQ.fin (v := .map (some b274)) (.inl rfl) rfl Try.results76 (.tmp rfl .nil) rfl (After.mk hf171 rfl ?_)
  refine TA.next (fun W hO => hO.selT (Ls := [Blk b10 [.int .i64 0, .int .i64 0, .int .i64 0, .int .i64 0, .int .i64 0, .slice none 0 0] 30, Blk b9 [.int .i64 a0.f0, .int .i64 a0.f1, .int .i64 a0.f2, .int .i64 a0.f3, .int .i64 a0.f4, .slice A1 a0.f5.length c2] 30]) [0, 2] 3 rfl rfl rfl) ?_
  refine TK.sel (Ls := [Mp Try.prog 3 3 b274 x387, Blk b10 [.int .i64 0, .int .i64 0, .int .i64 0, .int .i64 0, .int .i64 0, .slice none 0 0] 30, Blk b9 [.int .i64 a0.f0, .int .i64 a0.f1, .int .i64 a0.f2, .int .i64 a0.f3, .int .i64 a0.f4, .slice A1 a0.f5.length c2] 30]) [1, 0, 2] 3 rfl rfl rfl ?_
  obtain ⟨y424, hy425, h⟩ := bind_no h
  refine TA.eff 3 rfl (by kernel_rfl) rfl (TL.callV (Lin := [Mp Try.prog 3 3 b274 x387]) (args := [.map (some b274), .agg #[.int .i64 a0.f0, .int .i64 a0.f1, .int .i64 a0.f2, .int .i64 a0.f3, .int .i64 a0.f4, .slice A1 a0.f5.length c2]]) rfl rfl rfl hbd54 rfl rfl (fold_numbers_op.calls (a0_0 := x387) (a1 := a0) hr3 hl4 hy425) rfl ?_)
  rintro _ G426 _ e427 ⟨A428, c429, rfl, rfl⟩
  refine TA.next (fun W hO => (Own.weak e427 hO).selT (Ls := [Blk b10 [.int .i64 0, .int .i64 0, .int .i64 0, .int .i64 0, .int .i64 0, .slice none 0 0] 30, Blk b9 [.int .i64 a0.f0, .int .i64 a0.f1, .int .i64 a0.f2, .int .i64 a0.f3, .int .i64 a0.f4, .slice A1 a0.f5.length c2] 30]) [2, 3] 4 rfl rfl rfl) ?_
  refine TA.eff 4 rfl (by kernel_rfl) rfl (TL.store 2 (ds := [.int .i64 y424.f0, .int .i64 y424.f1, .int .i64 y424.f2, .int .i64 y424.f3, .int .i64 y424.f4, .slice A428 y424.f5.length c429]) (cs' := [.int .i64 y424.f0, .int .i64 y424.f1, .int .i64 y424.f2, .int .i64 y424.f3, .int .i64 y424.f4, .slice A428 y424.f5.length c429]) (L' := (Mp Try.prog 3 3 b274 x387 :: Row (Kd.int .i64) 3 (.slice A428 y424.f5.length c429) y424.f5 :: Blk b10 [.int .i64 y424.f0, .int .i64 y424.f1, .int .i64 y424.f2, .int .i64 y424.f3, .int .i64 y424.f4, .slice A428 y424.f5.length c429] 30 :: Blk b9 [.int .i64 a0.f0, .int .i64 a0.f1, .int .i64 a0.f2, .int .i64 a0.f3, .int .i64 a0.f4, .slice A1 a0.f5.length c2] 30 :: L)) rfl fsz30 rfl rfl rfl rfl rfl (Nat.le_of_ble_eq_true rfl) rfl rfl ?_)
  refine TA.last rfl ?_
  refine TA.done (by kernel_rfl) ?_
  refine TQ.then_ ?_
  refine TC.ret ?_
  obtain rfl := Option.some.inj h
  exact TQ.fin (.inl rfl) rfl Try.results52 (.cells 2 rfl rfl agg30 fsz30 .nil) rfl (FRel.mk (Ls := [Row (Kd.int .i64) 3 (.slice A428 y424.f5.length c429) y424.f5]) [1] 4 e427 rfl rfl rfl ⟨A428, c429, rfl, rfl⟩)
 ·
  refine TC.block ?_
  intro a W hF hO
  have hS : ∃ (x349 : Int) (x350 : MpS), fold_Op.l0 a1 (a1.length + 1) x349 x350 = some o388 ∧ Fr 31 a [(3, .map (some b274)), (9, .slice A5 a1.length c6), (10, .int .i64 (a1.length : Int)), (11, .int .i64 x349)] ∧ Own G (Blk b10 [.int .i64 0, .int .i64 0, .int .i64 0, .int .i64 0, .int .i64 0, .slice none 0 0] 30 :: Mp Try.prog 3 3 b274 x350 :: Blk b9 [.int .i64 a0.f0, .int .i64 a0.f1, .int .i64 a0.f2, .int .i64 a0.f3, .int .i64 a0.f4, .slice A1 a0.f5.length c2] 30 :: L) W := by
   exact ⟨0, mnil, ho388, hF.sub ⟨rfl, rfl, rfl, rfl, trivial⟩, hO.selT (Ls := [Blk b10 [.int .i64 0, .int .i64 0, .int .i64 0, .int .i64 0, .int .i64 0, .slice none 0 0] 30, Mp Try.prog 3 3 b274 mnil, Blk b9 [.int .i64 a0.f0, .int .i64 a0.f1, .int .i64 a0.f2, .int .i64 a0.f3, .int .i64 a0.f4, .slice A1 a0.f5.length c2] 30]) [1, 0, 2] 3 rfl rfl rfl⟩
  clear hF hO ho388 ko388
  refine TC.loop (fun n389 a W => ∃ (x349 : Int) (x350 : MpS), fold_Op.l0 a1 n389 x349 x350 = some o388 ∧ Fr 31 a [(3, .map (some b274)), (9, .slice A5 a1.length c6), (10, .int .i64 (a1.length : Int)), (11, .int .i64 x349)] ∧ Own G (Blk b10 [.int .i64 0, .int .i64 0, .int .i64 0, .int .i64 0, .int .i64 0, .slice none 0 0] 30 :: Mp Try.prog 3 3 b274 x350 :: Blk b9 [.int .i64 a0.f0, .int .i64 a0.f1, .int .i64 a0.f2, .int .i64 a0.f3, .int .i64 a0.f4, .slice A1 a0.f5.length c2] 30 :: L) W) ?_ ?_ hS
  ·
   rintro a W ⟨x349, x350, h, hF, hO⟩
   exact none_no h
  ·
   clear hS
   rintro n389 a W ⟨x349, x350, h, hF, hO⟩
   rw [fold_Op.l0] at h
   refine TC.use ?_ hF hO
   clear hF hO
   refine TC.seq ?_
   refine TC.region ?_
   refine TL.cons (TO.val rfl rfl rfl (Val.cmp rfl rfl run_lss) ?_)
   refine TL.nil ?_
   refine TQ.then_ ?_
   refine TC.seq ?_
   refine TC.cond_p rfl h (fun hc432 h => ?_) (fun hc432 h => ?_)
   ·
    refine TC.skip ?_
    refine TQ.then_ ?_
    refine TC.seq ?_
    refine TC.block ?_
    refine TC.seq ?_
    refine TC.region ?_
    obtain ⟨y450, hx451, h⟩ := bind_no h
    obtain ⟨ad452, cs458, hA453, hi454, hj455, hcl456, hK457⟩ := Rd.at hr7 hx451
    obtain rfl := k76_openR hK457
    refine TL.cons (TO.val rfl rfl rfl (Val.indexAddr Try.underlying77 fsz76 rfl hA453 rfl hi454 hj455) ?_)
    refine TL.cons (TO.val rfl rfl rfl (Val.loadsS (cs := [.int .i64 y450.f0, .int .i64 y450.f1]) agg76 fsz76 rfl rfl (Cl.sub (off := 0) (n := 2) hcl456 rfl)) ?_)
    refine TL.cons (TL.alloc (cs := [.int .i64 0, .int .i64 0]) rfl rfl zr76 rfl (fun b459 => ?_))
    refine TL.cons (TL.store 0 (ds := [.int .i64 y450.f0, .int .i64 y450.f1]) (cs' := [.int .i64 y450.f0, .int .i64 y450.f1]) (L' := (Blk b459 [.int .i64 y450.f0, .int .i64 y450.f1] 76 :: Blk b10 [.int .i64 0, .int .i64 0, .int .i64 0, .int .i64 0, .int .i64 0, .slice none 0 0] 30 :: Mp Try.prog 3 3 b274 x350 :: Blk b9 [.int .i64 a0.f0, .int .i64 a0.f1, .int .i64 a0.f2, .int .i64 a0.f3, .int .i64 a0.f4, .slice A1 a0.f5.length c2] 30 :: L)) rfl fsz76 rfl rfl rfl rfl rfl (Nat.le_of_ble_eq_true rfl) rfl rfl ?_)
    refine TL.nil ?_
    refine TQ.then_ ?_
    refine TC.seq ?_
    refine TC.region ?_
    refine TL.cons (TO.val rfl rfl rfl (Val.move rfl) ?_)
    refine TL.cons (TO.val rfl rfl rfl (Val.indexAddrA Try.underlying76 fsz3 rfl rfl rfl rfl) ?_)
    refine TL.cons (TO.val rfl rfl rfl (Val.loadB 0 agg3 rfl rfl rfl) ?_)
    obtain ⟨hz460, h⟩ := ite_no h
    refine TL.cons (TO.val rfl rfl rfl (Val.lookupOk 2 Try.underlying81 Try.underlying3 Try.underlying3 zr3 rfl rfl rfl hz460) ?_)
    refine TL.cons (TO.val rfl rfl rfl (Val.move rfl) ?_)
    refine TL.cons (TO.val rfl rfl rfl (Val.extract rfl rfl) ?_)
    refine TL.cons (TO.val rfl rfl rfl (Val.extract rfl rfl) ?_)
    refine TL.cons (TO.val rfl rfl rfl (Val.assign rfl) ?_)
    refine TL.cons (TO.val rfl rfl rfl (Val.assign rfl) ?_)
    refine TL.nil ?_
    refine TQ.then_ ?_
    refine TC.seq ?_
    refine TC.region ?_
    refine TL.cons (TO.val rfl rfl rfl (Val.move rfl) ?_)
    refine TL.cons (TO.val rfl rfl rfl (Val.not_ rfl) ?_)
    refine TL.nil ?_
    refine TQ.then_ ?_
    obtain ⟨j464, hj464, h⟩ := jn_no h
    refine TC.tail (fun a W => ∃ (x463 : MpS), j464 x463 = some o388 ∧ Fr 31 a [(3, .map (some b274)), (9, .slice A5 a1.length c6), (10, .int .i64 (a1.length : Int)), (11, .int .i64 x349)] ∧ Own G (Blk b10 [.int .i64 0, .int .i64 0, .int .i64 0, .int .i64 0, .int .i64 0, .slice none 0 0] 30 :: Mp Try.prog 3 3 b274 x463 :: Blk b9 [.int .i64 a0.f0, .int .i64 a0.f1, .int .i64 a0.f2, .int .i64 a0.f3, .int .i64 a0.f4, .slice A1 a0.f5.length c2] 30 :: L) W) ?_ ?_
    ·
     rintro a W ⟨x463, h, hF, hO⟩
     rw [hj464] at h
     refine TQ.use ?_ hF hO
     clear hF hO
     refine TQ.inB ?_
     refine TQ.then_ ?_
     refine TC.region ?_
     refine TL.cons (TO.val rfl rfl rfl (Val.cmp rfl rfl run_add) ?_)
     refine TL.cons (TO.val rfl rfl rfl (Val.move rfl) ?_)
     refine TL.nil ?_
     exact fun a W hF hO => ⟨IntKind.i64.wrap (x349 + 1), x463, h, hF.sub ⟨rfl, rfl, rfl, rfl, trivial⟩, hO.selT (Ls := [Blk b10 [.int .i64 0, .int .i64 0, .int .i64 0, .int .i64 0, .int .i64 0, .slice none 0 0] 30, Mp Try.prog 3 3 b274 x463, Blk b9 [.int .i64 a0.f0, .int .i64 a0.f1, .int .i64 a0.f2, .int .i64 a0.f3, .int .i64 a0.f4, .slice A1 a0.f5.length c2] 30]) [0, 1, 2] 3 rfl rfl rfl⟩
    ·
     refine TC.cond_b rfl h (fun hc465 h => ?_) (fun hc465 h => ?_)
     ·
      refine TC.region ?_
      refine TL.cons (TO.val rfl rfl rfl (Val.move rfl) ?_)
      refine TL.cons (TO.val rfl rfl rfl (Val.indexAddrA Try.underlying76 fsz3 rfl rfl rfl rfl) ?_)
      refine TL.cons (TO.val rfl rfl rfl (Val.loadB 0 agg3 rfl rfl rfl) ?_)
      refine TL.cons (TO.val rfl rfl rfl (Val.indexAddrA Try.underlying76 fsz3 rfl rfl rfl rfl) ?_)
      refine TL.cons (TO.val rfl rfl rfl (Val.loadB 0 agg3 rfl rfl rfl) ?_)
      obtain ⟨hz466, h⟩ := ite_no h
      refine TL.cons (TL.mapUpdate 2 (L' := (Blk b459 [.int .i64 y450.f0, .int .i64 y450.f1] 76 :: Blk b10 [.int .i64 0, .int .i64 0, .int .i64 0, .int .i64 0, .int .i64 0, .slice none 0 0] 30 :: Mp Try.prog 3 3 b274 (mput x350 y450.f0 y450.f1) :: Blk b9 [.int .i64 a0.f0, .int .i64 a0.f1, .int .i64 a0.f2, .int .i64 a0.f3, .int .i64 a0.f4, .slice A1 a0.f5.length c2] 30 :: L)) rfl Try.underlying81 Try.underlying3 Try.underlying3 rfl rfl rfl rfl rfl hz466 ?_)
      refine TL.nil ?_
      exact fun a W hF hO => ⟨(mput x350 y450.f0 y450.f1), h, hF.sub ⟨rfl, rfl, rfl, rfl, trivial⟩, hO.selT (Ls := [Blk b10 [.int .i64 0, .int .i64 0, .int .i64 0, .int .i64 0, .int .i64 0, .slice none 0 0] 30, Mp Try.prog 3 3 b274 (mput x350 y450.f0 y450.f1), Blk b9 [.int .i64 a0.f0, .int .i64 a0.f1, .int .i64 a0.f2, .int .i64 a0.f3, .int .i64 a0.f4, .slice A1 a0.f5.length c2] 30]) [1, 2, 3] 4 rfl rfl rfl⟩
     ·
      refine TC.skip ?_
      exact fun a W hF hO => ⟨x350, h, hF.sub ⟨rfl, rfl, rfl, rfl, trivial⟩, hO.selT (Ls := [Blk b10 [.int .i64 0, .int .i64 0, .int .i64 0, .int .i64 0, .int .i64 0, .slice none 0 0] 30, Mp Try.prog 3 3 b274 x350, Blk b9 [.int .i64 a0.f0, .int .i64 a0.f1, .int .i64 a0.f2, .int .i64 a0.f3, .int .i64 a0.f4, .slice A1 a0.f5.length c2] 30]) [1, 2, 3] 4 rfl rfl rfl⟩
   ·
    refine TC.exit ?_
    refine TQ.thenX ?_
    refine TQ.thenX ?_
    refine TQ.inBX ?_
    exact fun a W hF hO => ⟨x350, Option.some.inj h, hF.sub ⟨rfl, trivial⟩, hO.selT (Ls := [Blk b10 [.int .i64 0, .int .i64 0, .int .i64 0, .int .i64 0, .int .i64 0, .slice none 0 0] 30, Mp Try.prog 3 3 b274 x350, Blk b9 [.int .i64 a0.f0, .int .i64 a0.f1, .int .i64 a0.f2, .int .i64 a0.f3, .int .i64 a0.f4, .slice A1 a0.f5.length c2] 30]) [0, 1, 2] 3 rfl rfl rfl⟩
end Go.Proofs.Ytmacdhkfgoahcaa.Sy
set_option linter.unusedVariables false
set_option linter.unusedSimpArgs false
set_option maxRecDepth 100000
set_option maxHeartbeats 4000000
namespace Go.Proofs.Ytmacdhkfgoahcaa.Sy
open Go Go.RowKit Go.Proofs.YtmacdhkfgoahcaaW.PrintWords 
def swagelaw24_small.f : Option Bool := (swagelaw24_some.f).bind fun (y1 : S28) => (fold_Block.f y1).bind fun (y11 : S28) => (fold_Op.f (⟨2, 3, 2, 1, 3, ([] : List Int)⟩ : S30) ([(⟨1, 0⟩ : S76)] : List S76)).bind fun (y28 : S30) => (swageref14_Same.f (⟨0, ([y11] : List S28)⟩ : S36) (⟨0, ([(⟨([(⟨1, 1, 0, 0, 4, ([] : List Int)⟩ : S30), (⟨1, 2, 0, 0, 4, ([] : List Int)⟩ : S30), (⟨1, 3, 0, 0, 8, ([] : List Int)⟩ : S30)] : List S30), (⟨1, 0, 1, 0⟩ : S25)⟩ : S28)] : List S28)⟩ : S36)).bind fun (y111 : Bool) => (if y111 = true then (swageref14_SameOp.f y28 (⟨1, 3, 0, 0, 0, ([] : List Int)⟩ : S30)).bind fun (y121 : Bool) => (if y121 = true then (fold_Neutral.f 6 (-1)).bind fun (y125 : Bool) => (if y125 = true then (fold_Neutral.f 6 1).bind fun (y129 : Bool) => some (!y129) else some false) else some false) else some false)
def swagelaw24_small.post (G : Gd)  (r : Bool) (v : Value) (G' : Gd) (Lr : List Ch) : Prop := v = .bool r ∧ Lr = []
theorem swagelaw24_small.calls {G : Gd} {r : Bool} (h : swagelaw24_small.f = some r) : Fn Try.prog 26 G [] [] (swagelaw24_small.post G  r) := by
 refine Fn.intro (e := []) 35 Try.func26 rfl Try.ntmps26 rfl rfl (Nat.le_of_ble_eq_true rfl) (fun L => ?_)
 unfold swagelaw24_small.f at h
 refine TC.seq ?_
 refine TC.region ?_
 refine TL.cons (TO.val rfl rfl rfl (Val.assign rfl) ?_)
 refine TL.nil ?_
 refine TQ.then_ ?_
 refine TC.seq ?_
 refine TC.region ?_
 obtain ⟨y1, hy2, h⟩ := bind_no h
 refine TL.cons (TL.callV (Lin := []) (args := []) rfl rfl rfl hbd51 rfl rfl (swagelaw24_some.calls hy2) rfl ?_)
 rintro _ _ _ _ ⟨rfl, A3, c4, rfl, rfl⟩
 refine TK.share (fun G6 e7 hs8 _ => ?_)
 have rd9 : Rd G6 k30 A3 y1.f0 := Rd.row hs8
 have le10 : y1.f0.length ≤ c4 := Row.le hs8
 obtain ⟨y11, hy12, h⟩ := bind_no h
 refine TL.cons (TL.callV (Lin := []) (args := [.agg #[.slice A3 y1.f0.length c4, .int .i64 y1.f1.f0, .int .i64 y1.f1.f1, .int .i64 y1.f1.f2, .int .i64 y1.f1.f3]]) rfl rfl rfl hbd28 rfl rfl (fold_Block.calls (a0 := y1) rd9 le10 hy12) rfl ?_)
 rintro _ G13 _ e14 ⟨A15, c16, rfl, rfl⟩
 refine TL.cons (TL.alloc (cs := [.slice none 0 0, .int .i64 0, .int .i64 0, .int .i64 0, .int .i64 0]) rfl rfl zr28 rfl (fun b18 => ?_))
 refine TL.cons (TL.store 0 (ds := [.slice A15 y11.f0.length c16, .int .i64 y11.f1.f0, .int .i64 y11.f1.f1, .int .i64 y11.f1.f2, .int .i64 y11.f1.f3]) (cs' := [.slice A15 y11.f0.length c16, .int .i64 y11.f1.f0, .int .i64 y11.f1.f1, .int .i64 y11.f1.f2, .int .i64 y11.f1.f3]) (L' := (Blk b18 [.slice A15 y11.f0.length c16, .int .i64 y11.f1.f0, .int .i64 y11.f1.f1, .int .i64 y11.f1.f2, .int .i64 y11.f1.f3] 28 :: Row (Sh G13 k30) 30 (.slice A15 y11.f0.length c16) y11.f0 :: L)) rfl fsz28 rfl rfl rfl rfl rfl (Nat.le_of_ble_eq_true rfl) rfl rfl ?_)
 refine TL.nil ?_
 refine TQ.then_ ?_
 refine TC.seq ?_
 refine TC.region ?_
 refine TL.cons (TO.val rfl rfl rfl (Val.build (cs := [.int .i64 1, .int .i64 1, .int .i64 0, .int .i64 0, .int .i64 4, .slice none 0 0]) (is := [0, 1, 4]) (xs := [.const (.int .i64 1), .const (.int .i64 1), .const (.int .i64 4)]) Try.underlying30 zr30 bld30 rfl rfl rfl rfl) ?_)
 refine TL.cons (TO.val rfl rfl rfl (Val.build (cs := [.int .i64 1, .int .i64 2, .int .i64 0, .int .i64 0, .int .i64 4, .slice none 0 0]) (is := [0, 1, 4]) (xs := [.const (.int .i64 1), .const (.int .i64 2), .const (.int .i64 4)]) Try.underlying30 zr30 bld30 rfl rfl rfl rfl) ?_)
 refine TL.cons (TO.val rfl rfl rfl (Val.build (cs := [.int .i64 1, .int .i64 3, .int .i64 0, .int .i64 0, .int .i64 8, .slice none 0 0]) (is := [0, 1, 4]) (xs := [.const (.int .i64 1), .const (.int .i64 3), .const (.int .i64 8)]) Try.underlying30 zr30 bld30 rfl rfl rfl rfl) ?_)
 refine TL.cons (TL.buildSlice (xs := [.tmp 6, .tmp 7, .tmp 8]) (vs := [.agg #[.int .i64 1, .int .i64 1, .int .i64 0, .int .i64 0, .int .i64 4, .slice none 0 0], .agg #[.int .i64 1, .int .i64 2, .int .i64 0, .int .i64 0, .int .i64 4, .slice none 0 0], .agg #[.int .i64 1, .int .i64 3, .int .i64 0, .int .i64 0, .int .i64 8, .slice none 0 0]]) (cs := [.int .i64 1, .int .i64 1, .int .i64 0, .int .i64 0, .int .i64 4, .slice none 0 0, .int .i64 1, .int .i64 2, .int .i64 0, .int .i64 0, .int .i64 4, .slice none 0 0, .int .i64 1, .int .i64 3, .int .i64 0, .int .i64 0, .int .i64 8, .slice none 0 0]) rfl rfl Try.underlying26 zs30 rfl rfl rfl rfl rfl rfl rfl rfl (fun b19 => ?_))
 refine TL.cons (TO.val rfl rfl rfl (Val.build (cs := [.int .i64 1, .int .i64 0, .int .i64 1, .int .i64 0]) (is := [0, 2]) (xs := [.const (.int .i64 1), .const (.int .i64 1)]) Try.underlying25 zr25 bld25 rfl rfl rfl rfl) ?_)
 refine TL.cons (TO.val rfl rfl rfl (Val.build (cs := [.slice (some ⟨b19, 0, none⟩) 3 3, .int .i64 1, .int .i64 0, .int .i64 1, .int .i64 0]) (is := [0, 1]) (xs := [.tmp 9, .tmp 10]) Try.underlying28 zr28 bld28 rfl rfl rfl rfl) ?_)
 refine TL.cons (TL.alloc (cs := [.slice none 0 0, .int .i64 0, .int .i64 0, .int .i64 0, .int .i64 0]) rfl rfl zr28 rfl (fun b20 => ?_))
 refine TL.cons (TL.store 0 (ds := [.slice (some ⟨b19, 0, none⟩) 3 3, .int .i64 1, .int .i64 0, .int .i64 1, .int .i64 0]) (cs' := [.slice (some ⟨b19, 0, none⟩) 3 3, .int .i64 1, .int .i64 0, .int .i64 1, .int .i64 0]) (L' := (Blk b20 [.slice (some ⟨b19, 0, none⟩) 3 3, .int .i64 1, .int .i64 0, .int .i64 1, .int .i64 0] 28 :: Blk b19 [.int .i64 1, .int .i64 1, .int .i64 0, .int .i64 0, .int .i64 4, .slice none 0 0, .int .i64 1, .int .i64 2, .int .i64 0, .int .i64 0, .int .i64 4, .slice none 0 0, .int .i64 1, .int .i64 3, .int .i64 0, .int .i64 0, .int .i64 8, .slice none 0 0] 30 :: Blk b18 [.slice A15 y11.f0.length c16, .int .i64 y11.f1.f0, .int .i64 y11.f1.f1, .int .i64 y11.f1.f2, .int .i64 y11.f1.f3] 28 :: Row (Sh G13 k30) 30 (.slice A15 y11.f0.length c16) y11.f0 :: L)) rfl fsz28 rfl rfl rfl rfl rfl (Nat.le_of_ble_eq_true rfl) rfl rfl ?_)
 refine TL.nil ?_
 refine TQ.then_ ?_
 refine TC.seq ?_
 refine TC.region ?_
 refine TL.cons (TO.val rfl rfl rfl (Val.build (cs := [.int .i64 2, .int .i64 3, .int .i64 2, .int .i64 1, .int .i64 3, .slice none 0 0]) (is := [0, 1, 2, 3, 4]) (xs := [.const (.int .i64 2), .const (.int .i64 3), .const (.int .i64 2), .const (.int .i64 1), .const (.int .i64 3)]) Try.underlying30 zr30 bld30 rfl rfl rfl rfl) ?_)
 refine TL.cons (TO.val rfl rfl rfl (Val.buildA (cs := [.int .i64 1, .int .i64 0]) (is := [0, 1]) (xs := [.const (.int .i64 1), .const (.int .i64 0)]) Try.underlying76 zr76 fsz3 rfl rfl rfl rfl) ?_)
 refine TL.cons (TL.buildSlice (xs := [.tmp 13]) (vs := [.agg #[.int .i64 1, .int .i64 0]]) (cs := [.int .i64 1, .int .i64 0]) rfl rfl Try.underlying77 zs76 rfl rfl rfl rfl rfl rfl rfl rfl (fun b21 => ?_))
 refine TK.new (Els.nil k76) ?_
 refine TK.new (El.of (k := k76) (xv := (⟨1, 0⟩ : S76)) (cs := [.int .i64 1, .int .i64 0]) (fun W B => k76_mkM W B _ _)) ?_
 refine TK.sel (Ls := [Els k76 [] [], El k76 (⟨1, 0⟩ : S76) [.int .i64 1, .int .i64 0], Blk b21 [.int .i64 1, .int .i64 0] 76, Blk b20 [.slice (some ⟨b19, 0, none⟩) 3 3, .int .i64 1, .int .i64 0, .int .i64 1, .int .i64 0] 28, Blk b19 [.int .i64 1, .int .i64 1, .int .i64 0, .int .i64 0, .int .i64 4, .slice none 0 0, .int .i64 1, .int .i64 2, .int .i64 0, .int .i64 0, .int .i64 4, .slice none 0 0, .int .i64 1, .int .i64 3, .int .i64 0, .int .i64 0, .int .i64 8, .slice none 0 0] 30, Blk b18 [.slice A15 y11.f0.length c16, .int .i64 y11.f1.f0, .int .i64 y11.f1.f1, .int .i64 y11.f1.f2, .int .i64 y11.f1.f3] 28, Row (Sh G13 k30) 30 (.slice A15 y11.f0.length c16) y11.f0]) [1, 0, 2, 3, 4, 5, 6] 7 rfl rfl rfl ?_
 refine TK.two (ch := Els k76 [(⟨1, 0⟩ : S76)] [.int .i64 1, .int .i64 0]) (Els.snoc k76) ?_
 refine TK.sel (Ls := [Blk b21 [.int .i64 1, .int .i64 0] 76, Els k76 [(⟨1, 0⟩ : S76)] [.int .i64 1, .int .i64 0], Blk b20 [.slice (some ⟨b19, 0, none⟩) 3 3, .int .i64 1, .int .i64 0, .int .i64 1, .int .i64 0] 28, Blk b19 [.int .i64 1, .int .i64 1, .int .i64 0, .int .i64 0, .int .i64 4, .slice none 0 0, .int .i64 1, .int .i64 2, .int .i64 0, .int .i64 0, .int .i64 4, .slice none 0 0, .int .i64 1, .int .i64 3, .int .i64 0, .int .i64 0, .int .i64 8, .slice none 0 0] 30, Blk b18 [.slice A15 y11.f0.length c16, .int .i64 y11.f1.f0, .int .i64 y11.f1.f1, .int .i64 y11.f1.f2, .int .i64 y11.f1.f3] 28, Row (Sh G13 k30) 30 (.slice A15 y11.f0.length c16) y11.f0]) [1, 0, 2, 3, 4, 5] 6 rfl rfl rfl ?_
 refine TK.two (ch := Row k76 76 (.slice (some ⟨b21, 0, none⟩) 1 1) ([(⟨1, 0⟩ : S76)] : List S76)) (Row.lit k76 rfl rfl) ?_
 refine TK.share (fun G23 e24 hs25 _ => ?_)
 have rd26 : Rd G23 k76 (some ⟨b21, 0, none⟩) ([(⟨1, 0⟩ : S76)] : List S76) := Rd.row hs25
 have le27 : ([(⟨1, 0⟩ : S76)] : List S76).length ≤ 1 := Row.le hs25
 obtain ⟨y28, hy29, h⟩ := bind_no h
 refine TL.cons (TL.callV (Lin := []) (args := [.agg #[.int .i64 2, .int .i64 3, .int .i64 2, .int .i64 1, .int .i64 3, .slice none 0 0], .slice (some ⟨b21, 0, none⟩) 1 1]) rfl rfl rfl hbd52 rfl rfl (fold_Op.calls (a0 := (⟨2, 3, 2, 1, 3, ([] : List Int)⟩ : S30)) (a1 := ([(⟨1, 0⟩ : S76)] : List S76)) (Rd.nil _ _) (Nat.le_refl 0) rd26 le27 hy29) rfl ?_)
 rintro _ G30 _ e31 ⟨A32, c33, rfl, rfl⟩
 refine TL.cons (TL.alloc (cs := [.int .i64 0, .int .i64 0, .int .i64 0, .int .i64 0, .int .i64 0, .slice none 0 0]) rfl rfl zr30 rfl (fun b35 => ?_))
 refine TL.cons (TL.store 0 (ds := [.int .i64 y28.f0, .int .i64 y28.f1, .int .i64 y28.f2, .int .i64 y28.f3, .int .i64 y28.f4, .slice A32 y28.f5.length c33]) (cs' := [.int .i64 y28.f0, .int .i64 y28.f1, .int .i64 y28.f2, .int .i64 y28.f3, .int .i64 y28.f4, .slice A32 y28.f5.length c33]) (L' := (Blk b35 [.int .i64 y28.f0, .int .i64 y28.f1, .int .i64 y28.f2, .int .i64 y28.f3, .int .i64 y28.f4, .slice A32 y28.f5.length c33] 30 :: Row (Kd.int .i64) 3 (.slice A32 y28.f5.length c33) y28.f5 :: Blk b20 [.slice (some ⟨b19, 0, none⟩) 3 3, .int .i64 1, .int .i64 0, .int .i64 1, .int .i64 0] 28 :: Blk b19 [.int .i64 1, .int .i64 1, .int .i64 0, .int .i64 0, .int .i64 4, .slice none 0 0, .int .i64 1, .int .i64 2, .int .i64 0, .int .i64 0, .int .i64 4, .slice none 0 0, .int .i64 1, .int .i64 3, .int .i64 0, .int .i64 0, .int .i64 8, .slice none 0 0] 30 :: Blk b18 [.slice A15 y11.f0.length c16, .int .i64 y11.f1.f0, .int .i64 y11.f1.f1, .int .i64 y11.f1.f2, .int .i64 y11.f1.f3] 28 :: Row (Sh G13 k30) 30 (.slice A15 y11.f0.length c16) y11.f0 :: L)) rfl fsz30 rfl rfl rfl rfl rfl (Nat.le_of_ble_eq_true rfl) rfl rfl ?_)
 refine TL.nil ?_
 refine TQ.then_ ?_
 refine TC.seq ?_
 refine TC.region ?_
 refine TL.cons (TO.val rfl rfl rfl (Val.loadsB 4 (cs := [.slice A15 y11.f0.length c16, .int .i64 y11.f1.f0, .int .i64 y11.f1.f1, .int .i64 y11.f1.f2, .int .i64 y11.f1.f3]) agg28 fsz28 rfl rfl rfl rfl) ?_)
 refine TL.cons (TL.buildSlice (xs := [.tmp 16]) (vs := [.agg #[.slice A15 y11.f0.length c16, .int .i64 y11.f1.f0, .int .i64 y11.f1.f1, .int .i64 y11.f1.f2, .int .i64 y11.f1.f3]]) (cs := [.slice A15 y11.f0.length c16, .int .i64 y11.f1.f0, .int .i64 y11.f1.f1, .int .i64 y11.f1.f2, .int .i64 y11.f1.f3]) rfl rfl Try.underlying34 zs28 rfl rfl rfl rfl rfl rfl rfl rfl (fun b85 => ?_))
 refine TL.cons (TO.val rfl rfl rfl (Val.build (cs := [.int .i64 0, .slice (some ⟨b85, 0, none⟩) 1 1]) (is := [1]) (xs := [.tmp 17]) Try.underlying36 zr36 bld36 rfl rfl rfl rfl) ?_)
 refine TL.cons (TO.val rfl rfl rfl (Val.loadsB 3 (cs := [.slice (some ⟨b19, 0, none⟩) 3 3, .int .i64 1, .int .i64 0, .int .i64 1, .int .i64 0]) agg28 fsz28 rfl rfl rfl rfl) ?_)
 refine TL.cons (TL.buildSlice (xs := [.tmp 19]) (vs := [.agg #[.slice (some ⟨b19, 0, none⟩) 3 3, .int .i64 1, .int .i64 0, .int .i64 1, .int .i64 0]]) (cs := [.slice (some ⟨b19, 0, none⟩) 3 3, .int .i64 1, .int .i64 0, .int .i64 1, .int .i64 0]) rfl rfl Try.underlying34 zs28 rfl rfl rfl rfl rfl rfl rfl rfl (fun b86 => ?_))
 refine TL.cons (TO.val rfl rfl rfl (Val.build (cs := [.int .i64 0, .slice (some ⟨b86, 0, none⟩) 1 1]) (is := [1]) (xs := [.tmp 20]) Try.underlying36 zr36 bld36 rfl rfl rfl rfl) ?_)
 refine TK.sel (Ls := [Row (Sh G13 k30) 30 (.slice A15 y11.f0.length c16) y11.f0, Blk b86 [.slice (some ⟨b19, 0, none⟩) 3 3, .int .i64 1, .int .i64 0, .int .i64 1, .int .i64 0] 28, Blk b85 [.slice A15 y11.f0.length c16, .int .i64 y11.f1.f0, .int .i64 y11.f1.f1, .int .i64 y11.f1.f2, .int .i64 y11.f1.f3] 28, Blk b35 [.int .i64 y28.f0, .int .i64 y28.f1, .int .i64 y28.f2, .int .i64 y28.f3, .int .i64 y28.f4, .slice A32 y28.f5.length c33] 30, Row (Kd.int .i64) 3 (.slice A32 y28.f5.length c33) y28.f5, Blk b20 [.slice (some ⟨b19, 0, none⟩) 3 3, .int .i64 1, .int .i64 0, .int .i64 1, .int .i64 0] 28, Blk b19 [.int .i64 1, .int .i64 1, .int .i64 0, .int .i64 0, .int .i64 4, .slice none 0 0, .int .i64 1, .int .i64 2, .int .i64 0, .int .i64 0, .int .i64 4, .slice none 0 0, .int .i64 1, .int .i64 3, .int .i64 0, .int .i64 0, .int .i64 8, .slice none 0 0] 30, Blk b18 [.slice A15 y11.f0.length c16, .int .i64 y11.f1.f0, .int .i64 y11.f1.f1, .int .i64 y11.f1.f2, .int .i64 y11.f1.f3] 28]) [7, 0, 1, 2, 3, 4, 5, 6] 8 rfl rfl rfl ?_
 refine TK.share (fun G87 e88 hs89 _ => ?_)
 have rd90 : Rd G87 k30 A15 y11.f0 := Rd.unsh (Rd.row hs89) (e24.trans (e31.trans e88))
 have le91 : y11.f0.length ≤ c16 := Row.le hs89
 refine TK.new (Els.nil (Sh G87 k28)) ?_
 refine TK.new (El.of (k := (Sh G87 k28)) (xv := y11) (cs := [.slice A15 y11.f0.length c16, .int .i64 y11.f1.f0, .int .i64 y11.f1.f1, .int .i64 y11.f1.f2, .int .i64 y11.f1.f3]) (fun W B => Sh.mk (fun W hW => k28_mk W y11 le91 (rd90 W hW)) W B _)) ?_
 refine TK.sel (Ls := [Els (Sh G87 k28) [] [], El (Sh G87 k28) y11 [.slice A15 y11.f0.length c16, .int .i64 y11.f1.f0, .int .i64 y11.f1.f1, .int .i64 y11.f1.f2, .int .i64 y11.f1.f3], Blk b86 [.slice (some ⟨b19, 0, none⟩) 3 3, .int .i64 1, .int .i64 0, .int .i64 1, .int .i64 0] 28, Blk b85 [.slice A15 y11.f0.length c16, .int .i64 y11.f1.f0, .int .i64 y11.f1.f1, .int .i64 y11.f1.f2, .int .i64 y11.f1.f3] 28, Blk b35 [.int .i64 y28.f0, .int .i64 y28.f1, .int .i64 y28.f2, .int .i64 y28.f3, .int .i64 y28.f4, .slice A32 y28.f5.length c33] 30, Row (Kd.int .i64) 3 (.slice A32 y28.f5.length c33) y28.f5, Blk b20 [.slice (some ⟨b19, 0, none⟩) 3 3, .int .i64 1, .int .i64 0, .int .i64 1, .int .i64 0] 28, Blk b19 [.int .i64 1, .int .i64 1, .int .i64 0, .int .i64 0, .int .i64 4, .slice none 0 0, .int .i64 1, .int .i64 2, .int .i64 0, .int .i64 0, .int .i64 4, .slice none 0 0, .int .i64 1, .int .i64 3, .int .i64 0, .int .i64 0, .int .i64 8, .slice none 0 0] 30, Blk b18 [.slice A15 y11.f0.length c16, .int .i64 y11.f1.f0, .int .i64 y11.f1.f1, .int .i64 y11.f1.f2, .int .i64 y11.f1.f3] 28]) [1, 0, 2, 3, 4, 5, 6, 7, 8] 9 rfl rfl rfl ?_
 refine TK.two (ch := Els (Sh G87 k28) [y11] [.slice A15 y11.f0.length c16, .int .i64 y11.f1.f0, .int .i64 y11.f1.f1, .int .i64 y11.f1.f2, .int .i64 y11.f1.f3]) (Els.snoc (Sh G87 k28)) ?_
 refine TK.sel (Ls := [Blk b85 [.slice A15 y11.f0.length c16, .int .i64 y11.f1.f0, .int .i64 y11.f1.f1, .int .i64 y11.f1.f2, .int .i64 y11.f1.f3] 28, Els (Sh G87 k28) [y11] [.slice A15 y11.f0.length c16, .int .i64 y11.f1.f0, .int .i64 y11.f1.f1, .int .i64 y11.f1.f2, .int .i64 y11.f1.f3], Blk b86 [.slice (some ⟨b19, 0, none⟩) 3 3, .int .i64 1, .int .i64 0, .int .i64 1, .int .i64 0] 28, Blk b35 [.int .i64 y28.f0, .int .i64 y28.f1, .int .i64 y28.f2, .int .i64 y28.f3, .int .i64 y28.f4, .slice A32 y28.f5.length c33] 30, Row (Kd.int .i64) 3 (.slice A32 y28.f5.length c33) y28.f5, Blk b20 [.slice (some ⟨b19, 0, none⟩) 3 3, .int .i64 1, .int .i64 0, .int .i64 1, .int .i64 0] 28, Blk b19 [.int .i64 1, .int .i64 1, .int .i64 0, .int .i64 0, .int .i64 4, .slice none 0 0, .int .i64 1, .int .i64 2, .int .i64 0, .int .i64 0, .int .i64 4, .slice none 0 0, .int .i64 1, .int .i64 3, .int .i64 0, .int .i64 0, .int .i64 8, .slice none 0 0] 30, Blk b18 [.slice A15 y11.f0.length c16, .int .i64 y11.f1.f0, .int .i64 y11.f1.f1, .int .i64 y11.f1.f2, .int .i64 y11.f1.f3] 28]) [2, 0, 1, 3, 4, 5, 6, 7] 8 rfl rfl rfl ?_
 refine TK.two (ch := Row (Sh G87 k28) 28 (.slice (some ⟨b85, 0, none⟩) 1 1) ([y11] : List S28)) (Row.lit (Sh G87 k28) rfl rfl) ?_
 refine TK.share (fun G93 e94 hs95 hb96 => ?_)
 have rd97 : Rd G93 k28 (some ⟨b85, 0, none⟩) ([y11] : List S28) := Rd.unsh (Rd.row hs95) e94
 have le98 : ([y11] : List S28).length ≤ 1 := Row.le hs95
 have rd99 := Rd.row hs95
 refine TK.new (Els.nil k30) ?_
 refine TK.new (Row.nil (Kd.int .i64) 3) ?_
 refine TK.conv (ch' := El k30 (⟨1, 1, 0, 0, 4, ([] : List Int)⟩ : S30) [.int .i64 1, .int .i64 1, .int .i64 0, .int .i64 0, .int .i64 4, .slice none 0 0]) (fun B W F hh => k30_mkM W B F (⟨1, 1, 0, 0, 4, ([] : List Int)⟩ : S30) hh) ?_
 refine TK.sel (Ls := [Els k30 [] [], El k30 (⟨1, 1, 0, 0, 4, ([] : List Int)⟩ : S30) [.int .i64 1, .int .i64 1, .int .i64 0, .int .i64 0, .int .i64 4, .slice none 0 0], Blk b86 [.slice (some ⟨b19, 0, none⟩) 3 3, .int .i64 1, .int .i64 0, .int .i64 1, .int .i64 0] 28, Blk b35 [.int .i64 y28.f0, .int .i64 y28.f1, .int .i64 y28.f2, .int .i64 y28.f3, .int .i64 y28.f4, .slice A32 y28.f5.length c33] 30, Row (Kd.int .i64) 3 (.slice A32 y28.f5.length c33) y28.f5, Blk b20 [.slice (some ⟨b19, 0, none⟩) 3 3, .int .i64 1, .int .i64 0, .int .i64 1, .int .i64 0] 28, Blk b19 [.int .i64 1, .int .i64 1, .int .i64 0, .int .i64 0, .int .i64 4, .slice none 0 0, .int .i64 1, .int .i64 2, .int .i64 0, .int .i64 0, .int .i64 4, .slice none 0 0, .int .i64 1, .int .i64 3, .int .i64 0, .int .i64 0, .int .i64 8, .slice none 0 0] 30, Blk b18 [.slice A15 y11.f0.length c16, .int .i64 y11.f1.f0, .int .i64 y11.f1.f1, .int .i64 y11.f1.f2, .int .i64 y11.f1.f3] 28]) [1, 0, 2, 3, 4, 5, 6, 7] 8 rfl rfl rfl ?_
 refine TK.two (ch := Els k30 [(⟨1, 1, 0, 0, 4, ([] : List Int)⟩ : S30)] [.int .i64 1, .int .i64 1, .int .i64 0, .int .i64 0, .int .i64 4, .slice none 0 0]) (Els.snoc k30) ?_
 refine TK.new (Row.nil (Kd.int .i64) 3) ?_
 refine TK.conv (ch' := El k30 (⟨1, 2, 0, 0, 4, ([] : List Int)⟩ : S30) [.int .i64 1, .int .i64 2, .int .i64 0, .int .i64 0, .int .i64 4, .slice none 0 0]) (fun B W F hh => k30_mkM W B F (⟨1, 2, 0, 0, 4, ([] : List Int)⟩ : S30) hh) ?_
 refine TK.sel (Ls := [Els k30 [(⟨1, 1, 0, 0, 4, ([] : List Int)⟩ : S30)] [.int .i64 1, .int .i64 1, .int .i64 0, .int .i64 0, .int .i64 4, .slice none 0 0], El k30 (⟨1, 2, 0, 0, 4, ([] : List Int)⟩ : S30) [.int .i64 1, .int .i64 2, .int .i64 0, .int .i64 0, .int .i64 4, .slice none 0 0], Blk b86 [.slice (some ⟨b19, 0, none⟩) 3 3, .int .i64 1, .int .i64 0, .int .i64 1, .int .i64 0] 28, Blk b35 [.int .i64 y28.f0, .int .i64 y28.f1, .int .i64 y28.f2, .int .i64 y28.f3, .int .i64 y28.f4, .slice A32 y28.f5.length c33] 30, Row (Kd.int .i64) 3 (.slice A32 y28.f5.length c33) y28.f5, Blk b20 [.slice (some ⟨b19, 0, none⟩) 3 3, .int .i64 1, .int .i64 0, .int .i64 1, .int .i64 0] 28, Blk b19 [.int .i64 1, .int .i64 1, .int .i64 0, .int .i64 0, .int .i64 4, .slice none 0 0, .int .i64 1, .int .i64 2, .int .i64 0, .int .i64 0, .int .i64 4, .slice none 0 0, .int .i64 1, .int .i64 3, .int .i64 0, .int .i64 0, .int .i64 8, .slice none 0 0] 30, Blk b18 [.slice A15 y11.f0.length c16, .int .i64 y11.f1.f0, .int .i64 y11.f1.f1, .int .i64 y11.f1.f2, .int .i64 y11.f1.f3] 28]) [1, 0, 2, 3, 4, 5, 6, 7] 8 rfl rfl rfl ?_
 refine TK.two (ch := Els k30 [(⟨1, 1, 0, 0, 4, ([] : List Int)⟩ : S30), (⟨1, 2, 0, 0, 4, ([] : List Int)⟩ : S30)] [.int .i64 1, .int .i64 1, .int .i64 0, .int .i64 0, .int .i64 4, .slice none 0 0, .int .i64 1, .int .i64 2, .int .i64 0, .int .i64 0, .int .i64 4, .slice none 0 0]) (Els.snoc k30) ?_
 refine TK.new (Row.nil (Kd.int .i64) 3) ?_
 refine TK.conv (ch' := El k30 (⟨1, 3, 0, 0, 8, ([] : List Int)⟩ : S30) [.int .i64 1, .int .i64 3, .int .i64 0, .int .i64 0, .int .i64 8, .slice none 0 0]) (fun B W F hh => k30_mkM W B F (⟨1, 3, 0, 0, 8, ([] : List Int)⟩ : S30) hh) ?_
 refine TK.sel (Ls := [Els k30 [(⟨1, 1, 0, 0, 4, ([] : List Int)⟩ : S30), (⟨1, 2, 0, 0, 4, ([] : List Int)⟩ : S30)] [.int .i64 1, .int .i64 1, .int .i64 0, .int .i64 0, .int .i64 4, .slice none 0 0, .int .i64 1, .int .i64 2, .int .i64 0, .int .i64 0, .int .i64 4, .slice none 0 0], El k30 (⟨1, 3, 0, 0, 8, ([] : List Int)⟩ : S30) [.int .i64 1, .int .i64 3, .int .i64 0, .int .i64 0, .int .i64 8, .slice none 0 0], Blk b86 [.slice (some ⟨b19, 0, none⟩) 3 3, .int .i64 1, .int .i64 0, .int .i64 1, .int .i64 0] 28, Blk b35 [.int .i64 y28.f0, .int .i64 y28.f1, .int .i64 y28.f2, .int .i64 y28.f3, .int .i64 y28.f4, .slice A32 y28.f5.length c33] 30, Row (Kd.int .i64) 3 (.slice A32 y28.f5.length c33) y28.f5, Blk b20 [.slice (some ⟨b19, 0, none⟩) 3 3, .int .i64 1, .int .i64 0, .int .i64 1, .int .i64 0] 28, Blk b19 [.int .i64 1, .int .i64 1, .int .i64 0, .int .i64 0, .int .i64 4, .slice none 0 0, .int .i64 1, .int .i64 2, .int .i64 0, .int .i64 0, .int .i64 4, .slice none 0 0, .int .i64 1, .int .i64 3, .int .i64 0, .int .i64 0, .int .i64 8, .slice none 0 0] 30, Blk b18 [.slice A15 y11.f0.length c16, .int .i64 y11.f1.f0, .int .i64 y11.f1.f1, .int .i64 y11.f1.f2, .int .i64 y11.f1.f3] 28]) [1, 0, 2, 3, 4, 5, 6, 7] 8 rfl rfl rfl ?_
 refine TK.two (ch := Els k30 [(⟨1, 1, 0, 0, 4, ([] : List Int)⟩ : S30), (⟨1, 2, 0, 0, 4, ([] : List Int)⟩ : S30), (⟨1, 3, 0, 0, 8, ([] : List Int)⟩ : S30)] [.int .i64 1, .int .i64 1, .int .i64 0, .int .i64 0, .int .i64 4, .slice none 0 0, .int .i64 1, .int .i64 2, .int .i64 0, .int .i64 0, .int .i64 4, .slice none 0 0, .int .i64 1, .int .i64 3, .int .i64 0, .int .i64 0, .int .i64 8, .slice none 0 0]) (Els.snoc k30) ?_
 refine TK.sel (Ls := [Blk b19 [.int .i64 1, .int .i64 1, .int .i64 0, .int .i64 0, .int .i64 4, .slice none 0 0, .int .i64 1, .int .i64 2, .int .i64 0, .int .i64 0, .int .i64 4, .slice none 0 0, .int .i64 1, .int .i64 3, .int .i64 0, .int .i64 0, .int .i64 8, .slice none 0 0] 30, Els k30 [(⟨1, 1, 0, 0, 4, ([] : List Int)⟩ : S30), (⟨1, 2, 0, 0, 4, ([] : List Int)⟩ : S30), (⟨1, 3, 0, 0, 8, ([] : List Int)⟩ : S30)] [.int .i64 1, .int .i64 1, .int .i64 0, .int .i64 0, .int .i64 4, .slice none 0 0, .int .i64 1, .int .i64 2, .int .i64 0, .int .i64 0, .int .i64 4, .slice none 0 0, .int .i64 1, .int .i64 3, .int .i64 0, .int .i64 0, .int .i64 8, .slice none 0 0], Blk b86 [.slice (some ⟨b19, 0, none⟩) 3 3, .int .i64 1, .int .i64 0, .int .i64 1, .int .i64 0] 28, Blk b35 [.int .i64 y28.f0, .int .i64 y28.f1, .int .i64 y28.f2, .int .i64 y28.f3, .int .i64 y28.f4, .slice A32 y28.f5.length c33] 30, Row (Kd.int .i64) 3 (.slice A32 y28.f5.length c33) y28.f5, Blk b20 [.slice (some ⟨b19, 0, none⟩) 3 3, .int .i64 1, .int .i64 0, .int .i64 1, .int .i64 0] 28, Blk b18 [.slice A15 y11.f0.length c16, .int .i64 y11.f1.f0, .int .i64 y11.f1.f1, .int .i64 y11.f1.f2, .int .i64 y11.f1.f3] 28]) [5, 0, 1, 2, 3, 4, 6] 7 rfl rfl rfl ?_
 refine TK.two (ch := Row k30 30 (.slice (some ⟨b19, 0, none⟩) 3 3) ([(⟨1, 1, 0, 0, 4, ([] : List Int)⟩ : S30), (⟨1, 2, 0, 0, 4, ([] : List Int)⟩ : S30), (⟨1, 3, 0, 0, 8, ([] : List Int)⟩ : S30)] : List S30)) (Row.lit k30 rfl rfl) ?_
 refine TK.new (Els.nil k28) ?_
 refine TK.sel (Ls := [Row k30 30 (.slice (some ⟨b19, 0, none⟩) 3 3) ([(⟨1, 1, 0, 0, 4, ([] : List Int)⟩ : S30), (⟨1, 2, 0, 0, 4, ([] : List Int)⟩ : S30), (⟨1, 3, 0, 0, 8, ([] : List Int)⟩ : S30)] : List S30), Els k28 [] [], Blk b86 [.slice (some ⟨b19, 0, none⟩) 3 3, .int .i64 1, .int .i64 0, .int .i64 1, .int .i64 0] 28, Blk b35 [.int .i64 y28.f0, .int .i64 y28.f1, .int .i64 y28.f2, .int .i64 y28.f3, .int .i64 y28.f4, .slice A32 y28.f5.length c33] 30, Row (Kd.int .i64) 3 (.slice A32 y28.f5.length c33) y28.f5, Blk b20 [.slice (some ⟨b19, 0, none⟩) 3 3, .int .i64 1, .int .i64 0, .int .i64 1, .int .i64 0] 28, Blk b18 [.slice A15 y11.f0.length c16, .int .i64 y11.f1.f0, .int .i64 y11.f1.f1, .int .i64 y11.f1.f2, .int .i64 y11.f1.f3] 28]) [1, 0, 2, 3, 4, 5, 6] 7 rfl rfl rfl ?_
 refine TK.conv (ch' := El k28 (⟨([(⟨1, 1, 0, 0, 4, ([] : List Int)⟩ : S30), (⟨1, 2, 0, 0, 4, ([] : List Int)⟩ : S30), (⟨1, 3, 0, 0, 8, ([] : List Int)⟩ : S30)] : List S30), (⟨1, 0, 1, 0⟩ : S25)⟩ : S28) [.slice (some ⟨b19, 0, none⟩) 3 3, .int .i64 1, .int .i64 0, .int .i64 1, .int .i64 0]) (fun B W F hh => k28_mkM W B F (⟨([(⟨1, 1, 0, 0, 4, ([] : List Int)⟩ : S30), (⟨1, 2, 0, 0, 4, ([] : List Int)⟩ : S30), (⟨1, 3, 0, 0, 8, ([] : List Int)⟩ : S30)] : List S30), (⟨1, 0, 1, 0⟩ : S25)⟩ : S28) hh) ?_
 refine TK.sel (Ls := [Els k28 [] [], El k28 (⟨([(⟨1, 1, 0, 0, 4, ([] : List Int)⟩ : S30), (⟨1, 2, 0, 0, 4, ([] : List Int)⟩ : S30), (⟨1, 3, 0, 0, 8, ([] : List Int)⟩ : S30)] : List S30), (⟨1, 0, 1, 0⟩ : S25)⟩ : S28) [.slice (some ⟨b19, 0, none⟩) 3 3, .int .i64 1, .int .i64 0, .int .i64 1, .int .i64 0], Blk b86 [.slice (some ⟨b19, 0, none⟩) 3 3, .int .i64 1, .int .i64 0, .int .i64 1, .int .i64 0] 28, Blk b35 [.int .i64 y28.f0, .int .i64 y28.f1, .int .i64 y28.f2, .int .i64 y28.f3, .int .i64 y28.f4, .slice A32 y28.f5.length c33] 30, Row (Kd.int .i64) 3 (.slice A32 y28.f5.length c33) y28.f5, Blk b20 [.slice (some ⟨b19, 0, none⟩) 3 3, .int .i64 1, .int .i64 0, .int .i64 1, .int .i64 0] 28, Blk b18 [.slice A15 y11.f0.length c16, .int .i64 y11.f1.f0, .int .i64 y11.f1.f1, .int .i64 y11.f1.f2, .int .i64 y11.f1.f3] 28]) [1, 0, 2, 3, 4, 5, 6] 7 rfl rfl rfl ?_
 refine TK.two (ch := Els k28 [(⟨([(⟨1, 1, 0, 0, 4, ([] : List Int)⟩ : S30), (⟨1, 2, 0, 0, 4, ([] : List Int)⟩ : S30), (⟨1, 3, 0, 0, 8, ([] : List Int)⟩ : S30)] : List S30), (⟨1, 0, 1, 0⟩ : S25)⟩ : S28)] [.slice (some ⟨b19, 0, none⟩) 3 3, .int .i64 1, .int .i64 0, .int .i64 1, .int .i64 0]) (Els.snoc k28) ?_
 refine TK.sel (Ls := [Blk b86 [.slice (some ⟨b19, 0, none⟩) 3 3, .int .i64 1, .int .i64 0, .int .i64 1, .int .i64 0] 28, Els k28 [(⟨([(⟨1, 1, 0, 0, 4, ([] : List Int)⟩ : S30), (⟨1, 2, 0, 0, 4, ([] : List Int)⟩ : S30), (⟨1, 3, 0, 0, 8, ([] : List Int)⟩ : S30)] : List S30), (⟨1, 0, 1, 0⟩ : S25)⟩ : S28)] [.slice (some ⟨b19, 0, none⟩) 3 3, .int .i64 1, .int .i64 0, .int .i64 1, .int .i64 0], Blk b35 [.int .i64 y28.f0, .int .i64 y28.f1, .int .i64 y28.f2, .int .i64 y28.f3, .int .i64 y28.f4, .slice A32 y28.f5.length c33] 30, Row (Kd.int .i64) 3 (.slice A32 y28.f5.length c33) y28.f5, Blk b20 [.slice (some ⟨b19, 0, none⟩) 3 3, .int .i64 1, .int .i64 0, .int .i64 1, .int .i64 0] 28, Blk b18 [.slice A15 y11.f0.length c16, .int .i64 y11.f1.f0, .int .i64 y11.f1.f1, .int .i64 y11.f1.f2, .int .i64 y11.f1.f3] 28]) [1, 0, 2, 3, 4, 5] 6 rfl rfl rfl ?_
 refine TK.two (ch := Row k28 28 (.slice (some ⟨b86, 0, none⟩) 1 1) ([(⟨([(⟨1, 1, 0, 0, 4, ([] : List Int)⟩ : S30), (⟨1, 2, 0, 0, 4, ([] : List Int)⟩ : S30), (⟨1, 3, 0, 0, 8, ([] : List Int)⟩ : S30)] : List S30), (⟨1, 0, 1, 0⟩ : S25)⟩ : S28)] : List S28)) (Row.lit k28 rfl rfl) ?_
 refine TK.share (fun G105 e106 hs107 hb108 => ?_)
 have rd109 : Rd G105 k28 (some ⟨b86, 0, none⟩) ([(⟨([(⟨1, 1, 0, 0, 4, ([] : List Int)⟩ : S30), (⟨1, 2, 0, 0, 4, ([] : List Int)⟩ : S30), (⟨1, 3, 0, 0, 8, ([] : List Int)⟩ : S30)] : List S30), (⟨1, 0, 1, 0⟩ : S25)⟩ : S28)] : List S28) := Rd.row hs107
 have le110 : ([(⟨([(⟨1, 1, 0, 0, 4, ([] : List Int)⟩ : S30), (⟨1, 2, 0, 0, 4, ([] : List Int)⟩ : S30), (⟨1, 3, 0, 0, 8, ([] : List Int)⟩ : S30)] : List S30), (⟨1, 0, 1, 0⟩ : S25)⟩ : S28)] : List S28).length ≤ 1 := Row.le hs107
 obtain ⟨y111, hy112, h⟩ := bind_no h
 refine TL.cons (TL.callV (Lin := []) (args := [.agg #[.int .i64 0, .slice (some ⟨b85, 0, none⟩) 1 1], .agg #[.int .i64 0, .slice (some ⟨b86, 0, none⟩) 1 1]]) rfl rfl rfl hbd16 rfl rfl (swageref14_Same.calls (a0 := (⟨0, ([y11] : List S28)⟩ : S36)) (a1 := (⟨0, ([(⟨([(⟨1, 1, 0, 0, 4, ([] : List Int)⟩ : S30), (⟨1, 2, 0, 0, 4, ([] : List Int)⟩ : S30), (⟨1, 3, 0, 0, 8, ([] : List Int)⟩ : S30)] : List S30), (⟨1, 0, 1, 0⟩ : S25)⟩ : S28)] : List S28)⟩ : S36)) (rd97.up e106) le98 rd109 le110 hy112) rfl ?_)
 rintro _ _ _ _ ⟨rfl, rfl, rfl⟩
 refine TL.cons (TO.val rfl rfl rfl (Val.move rfl) ?_)
 refine TK.split (p := y111 = true) h (fun hg113 h => ?_) (fun hg113 h => ?_)
 ·
  have hk114 : y111 = true := hg113
  refine TL.cons (TO.val (Wt.yes rfl rfl rfl hk114) rfl rfl (Val.loadsB 0 (cs := [.int .i64 y28.f0, .int .i64 y28.f1, .int .i64 y28.f2, .int .i64 y28.f3, .int .i64 y28.f4, .slice A32 y28.f5.length c33]) agg30 fsz30 rfl rfl rfl rfl) ?_)
  refine TL.cons (TO.val (Wt.yes rfl rfl rfl hk114) rfl rfl (Val.build (cs := [.int .i64 1, .int .i64 3, .int .i64 0, .int .i64 0, .int .i64 0, .slice none 0 0]) (is := [0, 1]) (xs := [.const (.int .i64 1), .const (.int .i64 3)]) Try.underlying30 zr30 bld30 rfl rfl rfl rfl) ?_)
  refine TK.sel (Ls := [Row (Kd.int .i64) 3 (.slice A32 y28.f5.length c33) y28.f5, Blk b35 [.int .i64 y28.f0, .int .i64 y28.f1, .int .i64 y28.f2, .int .i64 y28.f3, .int .i64 y28.f4, .slice A32 y28.f5.length c33] 30, Blk b20 [.slice (some ⟨b19, 0, none⟩) 3 3, .int .i64 1, .int .i64 0, .int .i64 1, .int .i64 0] 28, Blk b18 [.slice A15 y11.f0.length c16, .int .i64 y11.f1.f0, .int .i64 y11.f1.f1, .int .i64 y11.f1.f2, .int .i64 y11.f1.f3] 28]) [1, 0, 2, 3] 4 rfl rfl rfl ?_
  refine TK.share (fun G115 e116 hs117 hb118 => ?_)
  have rd119 : Rd G115 (Kd.int .i64) A32 y28.f5 := Rd.row hs117
  have le120 : y28.f5.length ≤ c33 := Row.le hs117
  obtain ⟨y121, hy122, h⟩ := bind_no h
  refine TL.cons (TL.callV (Lin := []) (args := [.agg #[.int .i64 y28.f0, .int .i64 y28.f1, .int .i64 y28.f2, .int .i64 y28.f3, .int .i64 y28.f4, .slice A32 y28.f5.length c33], .agg #[.int .i64 1, .int .i64 3, .int .i64 0, .int .i64 0, .int .i64 0, .slice none 0 0]]) (Wt.yes rfl rfl rfl hk114) rfl rfl hbd21 rfl rfl (swageref14_SameOp.calls (a0 := y28) (a1 := (⟨1, 3, 0, 0, 0, ([] : List Int)⟩ : S30)) rd119 le120 (Rd.nil _ _) (Nat.le_refl 0) hy122) rfl ?_)
  rintro _ _ _ _ ⟨rfl, rfl, rfl⟩
  refine TL.cons (TO.val rfl rfl rfl (Val.pickY rfl hk114 rfl) ?_)
  refine TL.cons (TO.val rfl rfl rfl (Val.move rfl) ?_)
  refine TK.split (p := y121 = true) h (fun hg123 h => ?_) (fun hg123 h => ?_)
  ·
   have hk124 : y121 = true := hg123
   obtain ⟨y125, hy126, h⟩ := bind_no h
   refine TL.cons (TL.callV (Lin := []) (args := [.int .i64 6, .int .i64 (-1)]) (Wt.yes rfl rfl rfl hk124) rfl rfl hbd53 rfl rfl (fold_Neutral.calls (a0 := 6) (a1 := (-1)) hy126) rfl ?_)
   rintro _ _ _ _ ⟨rfl, rfl, rfl⟩
   refine TL.cons (TO.val rfl rfl rfl (Val.pickY rfl hk124 rfl) ?_)
   refine TL.cons (TO.val rfl rfl rfl (Val.move rfl) ?_)
   refine TK.split (p := y125 = true) h (fun hg127 h => ?_) (fun hg127 h => ?_)
   ·
    have hk128 : y125 = true := hg127
    obtain ⟨y129, hy130, h⟩ := bind_no h
    refine TL.cons (TL.callV (Lin := []) (args := [.int .i64 6, .int .i64 1]) (Wt.yes rfl rfl rfl hk128) rfl rfl hbd53 rfl rfl (fold_Neutral.calls (a0 := 6) (a1 := 1) hy130) rfl ?_)
    rintro _ _ _ _ ⟨rfl, rfl, rfl⟩
    refine TL.cons (TO.val (Wt.yes rfl rfl rfl hk128) rfl rfl (Val.not_ rfl) ?_)
    refine TL.cons (TO.val rfl rfl rfl (Val.pickY rfl hk128 rfl) ?_)
    refine TL.cons (TO.val rfl rfl rfl (Val.assign rfl) ?_)
    refine TL.nil ?_
    refine TQ.then_ ?_
    refine TC.ret ?_
    refine TQ.back hb118 ?_
    refine TQ.back hb108 ?_
    refine TQ.back hb96 ?_
    obtain rfl := Option.some.inj h
    exact TQ.fin (.inl rfl) rfl Try.results26 (.tmp rfl .nil) rfl (FRel.mk (Ls := []) [] 6 (Gd.le.trans (Gd.le.trans (Gd.le.trans (Gd.le.trans e7 e14) e24) e31) e88) rfl rfl rfl ⟨rfl, rfl⟩)
   ·
    have hk131 : y125 = false := (by simpa using hg127)
    refine TL.cons (TL.not (Wt.no rfl rfl rfl hk131) rfl ?_)
    refine TL.cons (TL.not (Wt.no rfl rfl rfl hk131) rfl ?_)
    refine TL.cons (TO.val rfl rfl rfl (Val.pickN rfl hk131 rfl) ?_)
    refine TL.cons (TO.val rfl rfl rfl (Val.assign rfl) ?_)
    refine TL.nil ?_
    refine TQ.then_ ?_
    refine TC.ret ?_
    refine TQ.back hb118 ?_
    refine TQ.back hb108 ?_
    refine TQ.back hb96 ?_
    obtain rfl := Option.some.inj h
    exact TQ.fin (.inl rfl) rfl Try.results26 (.tmp rfl .nil) rfl (FRel.mk (Ls := []) [] 6 (Gd.le.trans (Gd.le.trans (Gd.le.trans (Gd.le.trans e7 e14) e24) e31) e88) rfl rfl rfl ⟨rfl, rfl⟩)
  ·
   have hk132 : y121 = false := (by simpa using hg123)
   refine TL.cons (TL.not (Wt.no rfl rfl rfl hk132) rfl ?_)
   refine TL.cons (TO.val rfl rfl rfl (Val.pickN rfl hk132 rfl) ?_)
   refine TL.cons (TO.val rfl rfl rfl (Val.move rfl) ?_)
   refine TL.cons (TL.not (Wt.no rfl rfl rfl rfl) rfl ?_)
   refine TL.cons (TL.not (Wt.no rfl rfl rfl rfl) rfl ?_)
   refine TL.cons (TO.val rfl rfl rfl (Val.pickN rfl rfl rfl) ?_)
   refine TL.cons (TO.val rfl rfl rfl (Val.assign rfl) ?_)
   refine TL.nil ?_
   refine TQ.then_ ?_
   refine TC.ret ?_
   refine TQ.back hb118 ?_
   refine TQ.back hb108 ?_
   refine TQ.back hb96 ?_
   obtain rfl := Option.some.inj h
   exact TQ.fin (.inl rfl) rfl Try.results26 (.tmp rfl .nil) rfl (FRel.mk (Ls := []) [] 6 (Gd.le.trans (Gd.le.trans (Gd.le.trans (Gd.le.trans e7 e14) e24) e31) e88) rfl rfl rfl ⟨rfl, rfl⟩)
 ·
  have hk133 : y111 = false := (by simpa using hg113)
  refine TL.cons (TL.not (Wt.no rfl rfl rfl hk133) rfl ?_)
  refine TL.cons (TL.not (Wt.no rfl rfl rfl hk133) rfl ?_)
  refine TL.cons (TL.not (Wt.no rfl rfl rfl hk133) rfl ?_)
  refine TL.cons (TO.val rfl rfl rfl (Val.pickN rfl hk133 rfl) ?_)
  refine TL.cons (TO.val rfl rfl rfl (Val.move rfl) ?_)
  refine TL.cons (TL.not (Wt.no rfl rfl rfl rfl) rfl ?_)
  refine TL.cons (TO.val rfl rfl rfl (Val.pickN rfl rfl rfl) ?_)
  refine TL.cons (TO.val rfl rfl rfl (Val.move rfl) ?_)
  refine TL.cons (TL.not (Wt.no rfl rfl rfl rfl) rfl ?_)
  refine TL.cons (TL.not (Wt.no rfl rfl rfl rfl) rfl ?_)
  refine TL.cons (TO.val rfl rfl rfl (Val.pickN rfl rfl rfl) ?_)
  refine TL.cons (TO.val rfl rfl rfl (Val.assign rfl) ?_)
  refine TL.nil ?_
  refine TQ.then_ ?_
  refine TC.ret ?_
  refine TQ.back hb108 ?_
  refine TQ.back hb96 ?_
  obtain rfl := Option.some.inj h
  exact TQ.fin (.inl rfl) rfl Try.results26 (.tmp rfl .nil) rfl (FRel.mk (Ls := []) [] 6 (Gd.le.trans (Gd.le.trans (Gd.le.trans (Gd.le.trans e7 e14) e24) e31) e88) rfl rfl rfl ⟨rfl, rfl⟩)
end Go.Proofs.Ytmacdhkfgoahcaa.Sy
set_option linter.unusedVariables false
set_option linter.unusedSimpArgs false
set_option maxRecDepth 100000
set_option maxHeartbeats 4000000
namespace Go.Proofs.Ytmacdhkfgoahcaa.Sy
open Go Go.RowKit Go.Proofs.YtmacdhkfgoahcaaW.PrintWords 
def slices_Index_int_int.l0 (a0 : (List Int)) (a1 : Int) : Nat → Int → Option (Sum Int (Unit))
 | 0, _ => none
 | n80 + 1, x54 => (if x54 < (a0.length : Int) then (at? a0 x54).bind fun y118 => (if a1 = y118 then some (.inl x54) else slices_Index_int_int.l0 a0 a1 n80 (IntKind.i64.wrap (x54 + 1))) else some (.inr ()))
def slices_Index_int_int.f (a0 : (List Int)) (a1 : Int) : Option Int := (slices_Index_int_int.l0 a0 a1 (a0.length + 1) 0).bind fun | .inl q_ => some q_ | .inr _ => (some (-1))
def slices_Index_int_int.post (G : Gd)  (r : Int) (v : Value) (G' : Gd) (Lr : List Ch) : Prop := G = G' ∧ v = .int .i64 r ∧ Lr = []
theorem slices_Index_int_int.calls {G : Gd} {r : Int} {a0 : (List Int)} {a1 : Int} {A1 : Option Addr} {c2 : Nat} (hr3 : Rd G (Kd.int .i64) A1 a0) (hl4 : a0.length ≤ c2) (h : slices_Index_int_int.f a0 a1 = some r) : Fn Try.prog 84 G [] [.slice A1 a0.length c2, .int .i64 a1] (slices_Index_int_int.post G  r) := by
 refine Fn.intro (e := [(0, .slice A1 a0.length c2), (1, .int .i64 a1)]) 19 Try.func84 rfl Try.ntmps84 rfl rfl (Nat.le_of_ble_eq_true rfl) (fun L => ?_)
 unfold slices_Index_int_int.f at h
 refine TC.seq ?_
 refine TC.region ?_
 refine TL.cons (TO.val rfl rfl rfl (Val.assign rfl) ?_)
 refine TL.nil ?_
 refine TQ.then_ ?_
 refine TC.seq ?_
 refine TC.seq ?_
 refine TC.region ?_
 refine TL.cons (TO.val rfl rfl rfl (Val.move rfl) ?_)
 refine TL.cons (TO.val rfl rfl rfl (Val.len Try.underlying22 rfl) ?_)
 refine TL.cons (TO.val rfl rfl rfl (Val.move rfl) ?_)
 refine TL.nil ?_
 refine TQ.then_ ?_
 obtain ⟨o79, ho79, ko79⟩ := bind_no h
 clear h
 refine TC.tail (fun a W => (.inr ()) = o79 ∧ Fr 19 a [] ∧ Own G (L) W) ?_ ?_
 ·
  rintro a W ⟨rfl, hF, hO⟩
  have h := ko79
  clear ko79 ho79
  refine TQ.use ?_ hF hO
  clear hF hO
  refine TQ.then_ ?_
  refine TC.seq ?_
  refine TC.region ?_
  refine TL.cons (TO.val rfl rfl rfl (Val.assign rfl) ?_)
  refine TL.nil ?_
  refine TQ.then_ ?_
  refine TC.ret ?_
  obtain rfl := Option.some.inj h
  exact TQ.fin (.inl rfl) rfl Try.results84 (.tmp rfl .nil) rfl (FRel.mk (Ls := []) [] 0 (Gd.le.refl _) rfl rfl rfl ⟨rfl, rfl, rfl⟩)
 ·
  refine TC.block ?_
  intro a W hF hO
  have hS : ∃ (x54 : Int), slices_Index_int_int.l0 a0 a1 (a0.length + 1) x54 = some o79 ∧ Fr 19 a [(0, .slice A1 a0.length c2), (1, .int .i64 a1), (7, .int .i64 (a0.length : Int)), (8, .int .i64 x54)] ∧ Own G (L) W := by
   exact ⟨0, ho79, hF.sub ⟨rfl, rfl, rfl, rfl, trivial⟩, hO.selT (Ls := []) [] 0 rfl rfl rfl⟩
  clear hF hO ho79
  refine TC.loop (fun n80 a W => ∃ (x54 : Int), slices_Index_int_int.l0 a0 a1 n80 x54 = some o79 ∧ Fr 19 a [(0, .slice A1 a0.length c2), (1, .int .i64 a1), (7, .int .i64 (a0.length : Int)), (8, .int .i64 x54)] ∧ Own G (L) W) ?_ ?_ hS
  ·
   rintro a W ⟨x54, h, hF, hO⟩
   exact none_no h
  ·
   clear hS
   rintro n80 a W ⟨x54, h, hF, hO⟩
   rw [slices_Index_int_int.l0] at h
   refine TC.use ?_ hF hO
   clear hF hO
   refine TC.seq ?_
   refine TC.region ?_
   refine TL.cons (TO.val rfl rfl rfl (Val.cmp rfl rfl run_lss) ?_)
   refine TL.nil ?_
   refine TQ.then_ ?_
   refine TC.seq ?_
   refine TC.cond_p rfl h (fun hc106 h => ?_) (fun hc106 h => ?_)
   ·
    refine TC.skip ?_
    refine TQ.then_ ?_
    refine TC.seq ?_
    refine TC.block ?_
    refine TC.seq ?_
    refine TC.region ?_
    refine TL.cons (TO.val rfl rfl rfl (Val.move rfl) ?_)
    refine TL.cons (TO.val rfl rfl rfl (Val.assign rfl) ?_)
    refine TL.nil ?_
    refine TQ.then_ ?_
    refine TC.seq ?_
    refine TC.region ?_
    refine TL.cons (TO.val rfl rfl rfl (Val.move rfl) ?_)
    refine TL.cons (TO.val rfl rfl rfl (Val.move rfl) ?_)
    refine TL.cons (TO.val rfl rfl rfl (Val.move rfl) ?_)
    obtain ⟨y118, hx119, h⟩ := bind_no h
    obtain ⟨ad120, cs126, hA121, hi122, hj123, hcl124, hK125⟩ := Rd.at hr3 hx119
    obtain rfl := RdK.int hK125
    refine TL.cons (TO.val rfl rfl rfl (Val.indexAddr Try.underlying22 fsz3 rfl hA121 rfl hi122 hj123) ?_)
    refine TL.cons (TO.val rfl rfl rfl (Val.loadS agg3 rfl (hcl124 0 _ rfl)) ?_)
    refine TL.cons (TO.val rfl rfl rfl (Val.cmp rfl rfl run_eql) ?_)
    refine TL.nil ?_
    refine TQ.then_ ?_
    refine TC.cond_p rfl h (fun hc128 h => ?_) (fun hc128 h => ?_)
    ·
     refine TC.seq ?_
     refine TC.region ?_
     refine TL.cons (TO.val rfl rfl rfl (Val.move rfl) ?_)
     refine TL.cons (TO.val rfl rfl rfl (Val.assign rfl) ?_)
     refine TL.nil ?_
     refine TQ.then_ ?_
     refine TC.ret ?_
     refine TQ.inBR ?_
     refine TQ.thenR ?_
     refine TQ.thenR ?_
     refine TQ.inBR ?_
     refine TQ.thenR ?_
     refine TQ.thenR ?_
     obtain rfl := Option.some.inj h
     have h := ko79
     obtain rfl := Option.some.inj h
     exact TQ.fin (.inl rfl) rfl Try.results84 (.tmp rfl .nil) rfl (FRel.mk (Ls := []) [] 0 (Gd.le.refl _) rfl rfl rfl ⟨rfl, rfl, rfl⟩)
    ·
     refine TC.skip ?_
     refine TQ.inB ?_
     refine TQ.then_ ?_
     refine TC.region ?_
     refine TL.cons (TO.val rfl rfl rfl (Val.cmp rfl rfl run_add) ?_)
     refine TL.cons (TO.val rfl rfl rfl (Val.move rfl) ?_)
     refine TL.nil ?_
     exact fun a W hF hO => ⟨IntKind.i64.wrap (x54 + 1), h, hF.sub ⟨rfl, rfl, rfl, rfl, trivial⟩, hO.selT (Ls := []) [] 0 rfl rfl rfl⟩
   ·
    refine TC.exit ?_
    refine TQ.thenX ?_
    refine TQ.thenX ?_
    refine TQ.inBX ?_
    exact fun a W hF hO => ⟨Option.some.inj h, hF.sub trivial, hO.selT (Ls := []) [] 0 rfl rfl rfl⟩
end Go.Proofs.Ytmacdhkfgoahcaa.Sy
set_option linter.unusedVariables false
set_option linter.unusedSimpArgs false
set_option maxRecDepth 100000
set_option maxHeartbeats 4000000
namespace Go.Proofs.Ytmacdhkfgoahcaa.Sy
open Go Go.RowKit Go.Proofs.YtmacdhkfgoahcaaW.PrintWords 
def slices_Contains_int_int.f (a0 : (List Int)) (a1 : Int) : Option Bool := (slices_Index_int_int.f a0 a1).bind fun (y5 : Int) => some (decide (0 ≤ y5))
def slices_Contains_int_int.post (G : Gd)  (r : Bool) (v : Value) (G' : Gd) (Lr : List Ch) : Prop := G = G' ∧ v = .bool r ∧ Lr = []
theorem slices_Contains_int_int.calls {G : Gd} {r : Bool} {a0 : (List Int)} {a1 : Int} {A1 : Option Addr} {c2 : Nat} (hr3 : Rd G (Kd.int .i64) A1 a0) (hl4 : a0.length ≤ c2) (h : slices_Contains_int_int.f a0 a1 = some r) : Fn Try.prog 62 G [] [.slice A1 a0.length c2, .int .i64 a1] (slices_Contains_int_int.post G  r) := by
 refine Fn.intro (e := [(0, .slice A1 a0.length c2), (1, .int .i64 a1)]) 9 Try.func62 rfl Try.ntmps62 rfl rfl (Nat.le_of_ble_eq_true rfl) (fun L => ?_)
 unfold slices_Contains_int_int.f at h
 refine TC.seq ?_
 refine TC.region ?_
 refine TL.cons (TO.val rfl rfl rfl (Val.assign rfl) ?_)
 refine TL.nil ?_
 refine TQ.then_ ?_
 refine TC.seq ?_
 refine TC.region ?_
 refine TL.cons (TO.val rfl rfl rfl (Val.move rfl) ?_)
 refine TL.cons (TO.val rfl rfl rfl (Val.move rfl) ?_)
 obtain ⟨y5, hy6, h⟩ := bind_no h
 refine TL.cons (TL.callV (Lin := []) (args := [.slice A1 a0.length c2, .int .i64 a1]) rfl rfl rfl hbd84 rfl rfl (slices_Index_int_int.calls (a0 := a0) (a1 := a1) hr3 hl4 hy6) rfl ?_)
 rintro _ _ _ _ ⟨rfl, rfl, rfl⟩
 refine TL.cons (TO.val rfl rfl rfl (Val.cmp rfl rfl run_geq) ?_)
 refine TL.cons (TO.val rfl rfl rfl (Val.assign rfl) ?_)
 refine TL.nil ?_
 refine TQ.then_ ?_
 refine TC.ret ?_
 obtain rfl := Option.some.inj h
 exact TQ.fin (.inl rfl) rfl Try.results62 (.tmp rfl .nil) rfl (FRel.mk (Ls := []) [] 0 (Gd.le.refl _) rfl rfl rfl ⟨rfl, rfl, rfl⟩)
end Go.Proofs.Ytmacdhkfgoahcaa.Sy
set_option linter.unusedVariables false
set_option linter.unusedSimpArgs false
set_option maxRecDepth 100000
set_option maxHeartbeats 4000000
namespace Go.Proofs.Ytmacdhkfgoahcaa.Sy
open Go Go.RowKit Go.Proofs.YtmacdhkfgoahcaaW.PrintWords 
def code_Pure.f (a0 : S30) : Option Bool := jn (γ := Bool) (fun (x46 : Bool) => (if x46 = true then some true else (if a0.f0 = 2 then (slices_Contains_int_int.f ([4, 5, 9, 10] : List Int) a0.f4).bind fun (y81 : Bool) => some (!y81) else some false))) (fun (j47 : (Bool → Option Bool)) => (if a0.f0 = 1 then j47 (decide (a0.f0 = 1)) else j47 (decide (a0.f0 = 3))))
def code_Pure.post (G : Gd)  (r : Bool) (v : Value) (G' : Gd) (Lr : List Ch) : Prop := G = G' ∧ v = .bool r ∧ Lr = []
theorem code_Pure.calls {G : Gd} {r : Bool} {a0 : S30} {A1 : Option Addr} {c2 : Nat} (hr3 : Rd G (Kd.int .i64) A1 a0.f5) (hl4 : a0.f5.length ≤ c2) (h : code_Pure.f a0 = some r) : Fn Try.prog 32 G [] [.agg #[.int .i64 a0.f0, .int .i64 a0.f1, .int .i64 a0.f2, .int .i64 a0.f3, .int .i64 a0.f4, .slice A1 a0.f5.length c2]] (code_Pure.post G  r) := by
 refine Fn.intro (e := [(0, .agg #[.int .i64 a0.f0, .int .i64 a0.f1, .int .i64 a0.f2, .int .i64 a0.f3, .int .i64 a0.f4, .slice A1 a0.f5.length c2])]) 15 Try.func32 rfl Try.ntmps32 rfl rfl (Nat.le_of_ble_eq_true rfl) (fun L => ?_)
 unfold code_Pure.f at h
 refine TC.seq ?_
 refine TC.region ?_
 refine TL.cons (TL.box (cs := [.int .i64 a0.f0, .int .i64 a0.f1, .int .i64 a0.f2, .int .i64 a0.f3, .int .i64 a0.f4, .slice A1 a0.f5.length c2]) rfl rfl rfl rfl (fun b5 => ?_))
 refine TL.cons (TO.val rfl rfl rfl (Val.assign rfl) ?_)
 refine TL.nil ?_
 refine TQ.then_ ?_
 refine TC.seq ?_
 refine TC.seq ?_
 refine TC.region ?_
 refine TL.cons (TO.val rfl rfl rfl (Val.fieldAddrB Try.underlying30 rfl fsz3 rfl rfl rfl) ?_)
 refine TL.cons (TO.val rfl rfl rfl (Val.loadB 0 agg3 rfl rfl rfl) ?_)
 refine TL.nil ?_
 refine TQ.then_ ?_
 refine TC.block ?_
 refine TC.seq ?_
 refine TC.seq ?_
 refine TC.region ?_
 refine TL.cons (TO.val rfl rfl rfl (Val.cmp rfl rfl run_eql) ?_)
 refine TL.cons (TO.val rfl rfl rfl (Val.assign rfl) ?_)
 refine TL.nil ?_
 refine TQ.then_ ?_
 obtain ⟨j47, hj47, h⟩ := jn_no h
 refine TC.tail (fun a W => ∃ (x46 : Bool), j47 x46 = some r ∧ Fr 15 a [(1, .pointer (some ⟨b5, 0, none⟩)), (4, .int .i64 a0.f0), (5, .bool x46)] ∧ Own G (Blk b5 [.int .i64 a0.f0, .int .i64 a0.f1, .int .i64 a0.f2, .int .i64 a0.f3, .int .i64 a0.f4, .slice A1 a0.f5.length c2] 30 :: L) W) ?_ ?_
 ·
  rintro a W ⟨x46, h, hF, hO⟩
  rw [hj47] at h
  refine TQ.use ?_ hF hO
  clear hF hO
  refine TQ.then_ ?_
  refine TC.cond_b rfl h (fun hc60 h => ?_) (fun hc60 h => ?_)
  ·
   refine TC.seq ?_
   refine TC.region ?_
   refine TL.cons (TO.val rfl rfl rfl (Val.assign rfl) ?_)
   refine TL.nil ?_
   refine TQ.then_ ?_
   refine TC.ret ?_
   refine TQ.inBR ?_
   refine TQ.thenR ?_
   obtain rfl := Option.some.inj h
   exact TQ.fin (.inl rfl) rfl Try.results32 (.tmp rfl .nil) rfl (FRel.mk (Ls := []) [] 1 (Gd.le.refl _) rfl rfl rfl ⟨rfl, rfl, rfl⟩)
  ·
   refine TC.seq ?_
   refine TC.region ?_
   refine TL.cons (TO.val rfl rfl rfl (Val.cmp rfl rfl run_eql) ?_)
   refine TL.cons (TO.val rfl rfl rfl (Val.assign rfl) ?_)
   refine TL.nil ?_
   refine TQ.then_ ?_
   refine TC.cond_p rfl h (fun hc72 h => ?_) (fun hc72 h => ?_)
   ·
    refine TC.seq ?_
    refine TC.region ?_
    refine TL.cons (TL.buildSlice (xs := [.const (.int .i64 4), .const (.int .i64 5), .const (.int .i64 9), .const (.int .i64 10)]) (vs := [.int .i64 4, .int .i64 5, .int .i64 9, .int .i64 10]) (cs := [.int .i64 4, .int .i64 5, .int .i64 9, .int .i64 10]) rfl rfl Try.underlying22 zs3 rfl rfl rfl rfl rfl rfl rfl rfl (fun b73 => ?_))
    refine TL.cons (TO.val rfl rfl rfl (Val.fieldAddrB Try.underlying30 rfl fsz3 rfl rfl rfl) ?_)
    refine TL.cons (TO.val rfl rfl rfl (Val.loadB 1 agg3 rfl rfl rfl) ?_)
    refine TK.new (Els.nil (Kd.int .i64)) ?_
    refine TK.new (El.of (k := (Kd.int .i64)) (xv := 4) (cs := [.int .i64 4]) (fun W B => rfl)) ?_
    refine TK.sel (Ls := [Els (Kd.int .i64) [] [], El (Kd.int .i64) 4 [.int .i64 4], Blk b73 [.int .i64 4, .int .i64 5, .int .i64 9, .int .i64 10] 3, Blk b5 [.int .i64 a0.f0, .int .i64 a0.f1, .int .i64 a0.f2, .int .i64 a0.f3, .int .i64 a0.f4, .slice A1 a0.f5.length c2] 30]) [1, 0, 2, 3] 4 rfl rfl rfl ?_
    refine TK.two (ch := Els (Kd.int .i64) [4] [.int .i64 4]) (Els.snoc (Kd.int .i64)) ?_
    refine TK.new (El.of (k := (Kd.int .i64)) (xv := 5) (cs := [.int .i64 5]) (fun W B => rfl)) ?_
    refine TK.sel (Ls := [Els (Kd.int .i64) [4] [.int .i64 4], El (Kd.int .i64) 5 [.int .i64 5], Blk b73 [.int .i64 4, .int .i64 5, .int .i64 9, .int .i64 10] 3, Blk b5 [.int .i64 a0.f0, .int .i64 a0.f1, .int .i64 a0.f2, .int .i64 a0.f3, .int .i64 a0.f4, .slice A1 a0.f5.length c2] 30]) [1, 0, 2, 3] 4 rfl rfl rfl ?_
    refine TK.two (ch := Els (Kd.int .i64) [4, 5] [.int .i64 4, .int .i64 5]) (Els.snoc (Kd.int .i64)) ?_
    refine TK.new (El.of (k := (Kd.int .i64)) (xv := 9) (cs := [.int .i64 9]) (fun W B => rfl)) ?_
    refine TK.sel (Ls := [Els (Kd.int .i64) [4, 5] [.int .i64 4, .int .i64 5], El (Kd.int .i64) 9 [.int .i64 9], Blk b73 [.int .i64 4, .int .i64 5, .int .i64 9, .int .i64 10] 3, Blk b5 [.int .i64 a0.f0, .int .i64 a0.f1, .int .i64 a0.f2, .int .i64 a0.f3, .int .i64 a0.f4, .slice A1 a0.f5.length c2] 30]) [1, 0, 2, 3] 4 rfl rfl rfl ?_
    refine TK.two (ch := Els (Kd.int .i64) [4, 5, 9] [.int .i64 4, .int .i64 5, .int .i64 9]) (Els.snoc (Kd.int .i64)) ?_
    refine TK.new (El.of (k := (Kd.int .i64)) (xv := 10) (cs := [.int .i64 10]) (fun W B => rfl)) ?_
    refine TK.sel (Ls := [Els (Kd.int .i64) [4, 5, 9] [.int .i64 4, .int .i64 5, .int .i64 9], El (Kd.int .i64) 10 [.int .i64 10], Blk b73 [.int .i64 4, .int .i64 5, .int .i64 9, .int .i64 10] 3, Blk b5 [.int .i64 a0.f0, .int .i64 a0.f1, .int .i64 a0.f2, .int .i64 a0.f3, .int .i64 a0.f4, .slice A1 a0.f5.length c2] 30]) [1, 0, 2, 3] 4 rfl rfl rfl ?_
    refine TK.two (ch := Els (Kd.int .i64) [4, 5, 9, 10] [.int .i64 4, .int .i64 5, .int .i64 9, .int .i64 10]) (Els.snoc (Kd.int .i64)) ?_
    refine TK.sel (Ls := [Blk b73 [.int .i64 4, .int .i64 5, .int .i64 9, .int .i64 10] 3, Els (Kd.int .i64) [4, 5, 9, 10] [.int .i64 4, .int .i64 5, .int .i64 9, .int .i64 10], Blk b5 [.int .i64 a0.f0, .int .i64 a0.f1, .int .i64 a0.f2, .int .i64 a0.f3, .int .i64 a0.f4, .slice A1 a0.f5.length c2] 30]) [1, 0, 2] 3 rfl rfl rfl ?_
    refine TK.two (ch := Row (Kd.int .i64) 3 (.slice (some ⟨b73, 0, none⟩) 4 4) ([4, 5, 9, 10] : List Int)) (Row.lit (Kd.int .i64) rfl rfl) ?_
    refine TK.share (fun G75 e76 hs77 hb78 => ?_)
    have rd79 : Rd G75 (Kd.int .i64) (some ⟨b73, 0, none⟩) ([4, 5, 9, 10] : List Int) := Rd.row hs77
    have le80 : ([4, 5, 9, 10] : List Int).length ≤ 4 := Row.le hs77
    obtain ⟨y81, hy82, h⟩ := bind_no h
    refine TL.cons (TL.callV (Lin := []) (args := [.slice (some ⟨b73, 0, none⟩) 4 4, .int .i64 a0.f4]) rfl rfl rfl hbd62 rfl rfl (slices_Contains_int_int.calls (a0 := ([4, 5, 9, 10] : List Int)) (a1 := a0.f4) rd79 le80 hy82) rfl ?_)
    rintro _ _ _ _ ⟨rfl, rfl, rfl⟩
    refine TL.cons (TO.val rfl rfl rfl (Val.not_ rfl) ?_)
    refine TL.cons (TO.val rfl rfl rfl (Val.assign rfl) ?_)
    refine TL.nil ?_
    refine TQ.then_ ?_
    refine TC.ret ?_
    refine TQ.inBR ?_
    refine TQ.thenR ?_
    refine TQ.back hb78 ?_
    obtain rfl := Option.some.inj h
    exact TQ.fin (.inl rfl) rfl Try.results32 (.tmp rfl .nil) rfl (FRel.mk (Ls := []) [] 2 (Gd.le.refl _) rfl rfl rfl ⟨rfl, rfl, rfl⟩)
   ·
    refine TC.skip ?_
    refine TQ.inB ?_
    refine TQ.then_ ?_
    refine TC.seq ?_
    refine TC.region ?_
    refine TL.cons (TO.val rfl rfl rfl (Val.assign rfl) ?_)
    refine TL.nil ?_
    refine TQ.then_ ?_
    refine TC.ret ?_
    obtain rfl := Option.some.inj h
    exact TQ.fin (.inl rfl) rfl Try.results32 (.tmp rfl .nil) rfl (FRel.mk (Ls := []) [] 1 (Gd.le.refl _) rfl rfl rfl ⟨rfl, rfl, rfl⟩)
 ·
  refine TC.cond_p rfl h (fun hc83 h => ?_) (fun hc83 h => ?_)
  ·
   refine TC.skip ?_
   exact fun a W hF hO => ⟨decide (a0.f0 = 1), h, hF.sub ⟨rfl, rfl, rfl, trivial⟩, hO.selT (Ls := [Blk b5 [.int .i64 a0.f0, .int .i64 a0.f1, .int .i64 a0.f2, .int .i64 a0.f3, .int .i64 a0.f4, .slice A1 a0.f5.length c2] 30]) [0] 1 rfl rfl rfl⟩
  ·
   refine TC.region ?_
   refine TL.cons (TO.val rfl rfl rfl (Val.cmp rfl rfl run_eql) ?_)
   refine TL.cons (TO.val rfl rfl rfl (Val.assign rfl) ?_)
   refine TL.nil ?_
   exact fun a W hF hO => ⟨decide (a0.f0 = 3), h, hF.sub ⟨rfl, rfl, rfl, trivial⟩, hO.selT (Ls := [Blk b5 [.int .i64 a0.f0, .int .i64 a0.f1, .int .i64 a0.f2, .int .i64 a0.f3, .int .i64 a0.f4, .slice A1 a0.f5.length c2] 30]) [0] 1 rfl rfl rfl⟩
end Go.Proofs.Ytmacdhkfgoahcaa.Sy
set_option linter.unusedVariables false
set_option linter.unusedSimpArgs false
set_option maxRecDepth 100000
set_option maxHeartbeats 4000000
namespace Go.Proofs.Ytmacdhkfgoahcaa.Sy
open Go Go.RowKit Go.Proofs.YtmacdhkfgoahcaaW.PrintWords 
def swagelaw24_FoldCounts.l1 (a0 : S36) (y23 : S36) (x5196 : Int) : Nat → Int → Option (Sum (Sum Bool (Unit)) (Unit))
 | 0, _ => none
 | n14465 + 1, x13713 => (at? a0.f1 x5196).bind fun y15207 => (if x13713 < (y15207.f0.length : Int) then (at? y15207.f0 x13713).bind fun y15586 => (at? y23.f1 x5196).bind fun y15600 => (at? y15600.f0 x13713).bind fun y15613 => jn (γ := (Sum (Sum Bool (Unit)) (Unit))) (fun (x15787 : Bool) => (if x15787 = true then some (.inl (.inl false)) else swagelaw24_FoldCounts.l1 a0 y23 x5196 n14465 (IntKind.i64.wrap (x13713 + 1)))) (fun (j15789 : (Bool → Option (Sum (Sum Bool (Unit)) (Unit)))) => (code_Sets.f y15586).bind fun (y15871 : Int) => (code_Sets.f y15613).bind fun (y15873 : Int) => (if (!decide (y15871 = y15873)) = true then j15789 true else (if y15586.f0 = 1 then (swageref14_SameOp.f y15586 y15613).bind fun (y15880 : Bool) => (if (!y15880) = true then j15789 true else (code_Pure.f y15586).bind fun (y15885 : Bool) => (if (!y15885) = true then (if (!decide (y15586.f0 = 2)) = true then (if (!decide (y15586.f0 = y15613.f0)) = true then j15789 true else (code_Pure.f y15586).bind fun (y15894 : Bool) => (if y15894 = true then (code_Pure.f y15613).bind fun (y15898 : Bool) => j15789 (!y15898) else j15789 false)) else (code_Pure.f y15586).bind fun (y15902 : Bool) => (if y15902 = true then (code_Pure.f y15613).bind fun (y15906 : Bool) => j15789 (!y15906) else j15789 false)) else (code_Pure.f y15586).bind fun (y15910 : Bool) => (if y15910 = true then (code_Pure.f y15613).bind fun (y15914 : Bool) => j15789 (!y15914) else j15789 false))) else (code_Pure.f y15586).bind fun (y15918 : Bool) => (if (!y15918) = true then (if (!decide (y15586.f0 = 2)) = true then (if (!decide (y15586.f0 = y15613.f0)) = true then j15789 true else (code_Pure.f y15586).bind fun (y15927 : Bool) => (if y15927 = true then (code_Pure.f y15613).bind fun (y15931 : Bool) => j15789 (!y15931) else j15789 false)) else (code_Pure.f y15586).bind fun (y15935 : Bool) => (if y15935 = true then (code_Pure.f y15613).bind fun (y15939 : Bool) => j15789 (!y15939) else j15789 false)) else (code_Pure.f y15586).bind fun (y15943 : Bool) => (if y15943 = true then (code_Pure.f y15613).bind fun (y15947 : Bool) => j15789 (!y15947) else j15789 false))))) else some (.inr ()))
def swagelaw24_FoldCounts.l0 (a0 : S36) (y23 : S36) : Nat → Int → Option (Sum Bool (Unit))
 | 0, _ => none
 | n7769 + 1, x5196 => (if x5196 < (a0.f1.length : Int) then (at? y23.f1 x5196).bind fun y12190 => (at? a0.f1 x5196).bind fun y12203 => (if (!decide ((y12190.f0.length : Int) = (y12203.f0.length : Int))) = true then some (.inl false) else (swagelaw24_FoldCounts.l1 a0 y23 x5196 ((at? a0.f1 x5196).elim 0 (fun vy14466 => vy14466.f0.length) + 1) 0).bind fun | .inl q_ => some q_ | .inr _ => (swagelaw24_FoldCounts.l0 a0 y23 n7769 (IntKind.i64.wrap (x5196 + 1)))) else some (.inr ()))
def swagelaw24_FoldCounts.f (a0 : S36) : Option Bool := (swagelaw24_small.f).bind fun (y6 : Bool) => (swagelaw14_Few.f a0).bind fun (y10 : Bool) => jn (γ := Bool) (fun (x19 : Bool) => (if x19 = true then some y6 else (fold_Func.f a0).bind fun (y23 : S36) => jn (γ := Bool) (fun (x46 : Bool) => (if x46 = true then some false else (swagelaw24_FoldCounts.l0 a0 y23 (a0.f1.length + 1) 0).bind fun | .inl q_ => some q_ | .inr _ => (some y6))) (fun (j51 : (Bool → Option Bool)) => (code_Right.f y23 256).bind fun (y15955 : Bool) => (if (!y15955) = true then j51 true else (if (!decide ((y23.f1.length : Int) = (a0.f1.length : Int))) = true then j51 true else j51 (!decide (y23.f0 = a0.f0))))))) (fun (j20 : (Bool → Option Bool)) => (if (!y10) = true then j20 true else (code_Right.f a0 256).bind fun (y15966 : Bool) => j20 (!y15966)))
def swagelaw24_FoldCounts.post (G : Gd)  (r : Bool) (v : Value) (G' : Gd) (Lr : List Ch) : Prop := v = .bool r ∧ Lr = []
theorem swagelaw24_FoldCounts.calls {G : Gd} {r : Bool} {a0 : S36} {A1 : Option Addr} {c2 : Nat} (hr3 : Rd G k28 A1 a0.f1) (hl4 : a0.f1.length ≤ c2) (h : swagelaw24_FoldCounts.f a0 = some r) : Fn Try.prog 8 G [] [.agg #[.int .i64 a0.f0, .slice A1 a0.f1.length c2]] (swagelaw24_FoldCounts.post G  r) := by
 refine Fn.intro (e := [(0, .agg #[.int .i64 a0.f0, .slice A1 a0.f1.length c2])]) 136 Try.func8 rfl Try.ntmps8 rfl rfl (Nat.le_of_ble_eq_true rfl) (fun L => ?_)
 unfold swagelaw24_FoldCounts.f at h
 refine TC.seq ?_
 refine TC.region ?_
 refine TL.cons (TL.box (cs := [.int .i64 a0.f0, .slice A1 a0.f1.length c2]) rfl rfl rfl rfl (fun b5 => ?_))
 refine TL.cons (TO.val rfl rfl rfl (Val.assign rfl) ?_)
 refine TL.nil ?_
 refine TQ.then_ ?_
 refine TC.seq ?_
 refine TC.region ?_
 obtain ⟨y6, hy7, h⟩ := bind_no h
 refine TL.cons (TL.callV (Lin := []) (args := []) rfl rfl rfl hbd26 rfl rfl (swagelaw24_small.calls hy7) rfl ?_)
 rintro _ G8 _ e9 ⟨rfl, rfl⟩
 refine TL.cons (TO.val rfl rfl rfl (Val.assign rfl) ?_)
 refine TL.nil ?_
 refine TQ.then_ ?_
 refine TC.seq ?_
 refine TC.region ?_
 refine TL.cons (TO.val rfl rfl rfl (Val.loadsB 0 (cs := [.int .i64 a0.f0, .slice A1 a0.f1.length c2]) agg36 fsz36 rfl rfl rfl rfl) ?_)
 obtain ⟨y10, hy11, h⟩ := bind_no h
 refine TL.cons (TL.callV (Lin := []) (args := [.agg #[.int .i64 a0.f0, .slice A1 a0.f1.length c2]]) rfl rfl rfl hbd13 rfl rfl (swagelaw14_Few.calls (a0 := a0) (hr3.up e9) hl4 hy11) rfl ?_)
 rintro _ _ _ _ ⟨rfl, rfl, rfl⟩
 refine TL.cons (TO.val rfl rfl rfl (Val.assign rfl) ?_)
 refine TL.nil ?_
 refine TQ.then_ ?_
 refine TC.seq ?_
 refine TC.seq ?_
 obtain ⟨j20, hj20, h⟩ := jn_no h
 refine TC.tail (fun a W => ∃ (x19 : Bool) (G17 : Gd), j20 x19 = some r ∧ G.le G17 ∧ Fr 136 a [(1, .pointer (some ⟨b5, 0, none⟩)), (3, .bool y6), (19, .bool x19)] ∧ Own G17 (Blk b5 [.int .i64 a0.f0, .slice A1 a0.f1.length c2] 36 :: L) W) ?_ ?_
 ·
  rintro a W ⟨x19, G17, h, e18, hF, hO⟩
  rw [hj20] at h
  refine TQ.use ?_ hF hO
  clear hF hO
  refine TQ.then_ ?_
  refine TC.cond_b rfl h (fun hc22 h => ?_) (fun hc22 h => ?_)
  ·
   refine TC.seq ?_
   refine TC.region ?_
   refine TL.cons (TO.val rfl rfl rfl (Val.move rfl) ?_)
   refine TL.cons (TO.val rfl rfl rfl (Val.assign rfl) ?_)
   refine TL.nil ?_
   refine TQ.then_ ?_
   refine TC.ret ?_
   refine TQ.thenR ?_
   obtain rfl := Option.some.inj h
   exact TQ.fin (.inl rfl) rfl Try.results8 (.tmp rfl .nil) rfl (FRel.mk (Ls := []) [] 1 e18 rfl rfl rfl ⟨rfl, rfl⟩)
  ·
   refine TC.skip ?_
   refine TQ.then_ ?_
   refine TC.seq ?_
   refine TC.region ?_
   refine TL.cons (TO.val rfl rfl rfl (Val.loadsB 0 (cs := [.int .i64 a0.f0, .slice A1 a0.f1.length c2]) agg36 fsz36 rfl rfl rfl rfl) ?_)
   obtain ⟨y23, hy24, h⟩ := bind_no h
   refine TL.cons (TL.callV (Lin := []) (args := [.agg #[.int .i64 a0.f0, .slice A1 a0.f1.length c2]]) rfl rfl rfl hbd30 rfl rfl (fold_Func.calls (a0 := a0) (hr3.up e18) hl4 hy24) rfl ?_)
   rintro _ G25 _ e26 ⟨A27, c28, rfl, rfl⟩
   refine TL.cons (TL.alloc (cs := [.int .i64 0, .slice none 0 0]) rfl rfl zr36 rfl (fun b30 => ?_))
   refine TL.cons (TL.store 0 (ds := [.int .i64 y23.f0, .slice A27 y23.f1.length c28]) (cs' := [.int .i64 y23.f0, .slice A27 y23.f1.length c28]) (L' := (Blk b30 [.int .i64 y23.f0, .slice A27 y23.f1.length c28] 36 :: Row (Sh G25 k28) 28 (.slice A27 y23.f1.length c28) y23.f1 :: Blk b5 [.int .i64 a0.f0, .slice A1 a0.f1.length c2] 36 :: L)) rfl fsz36 rfl rfl rfl rfl rfl (Nat.le_of_ble_eq_true rfl) rfl rfl ?_)
   refine TL.nil ?_
   refine TQ.then_ ?_
   refine TC.seq ?_
   refine TC.seq ?_
   obtain ⟨j51, hj51, h⟩ := jn_no h
   refine TC.tail (fun a W => ∃ (x46 : Bool) (G44 : Gd) (A47 : Option Addr) (c48 : Nat), j51 x46 = some r ∧ G.le G44 ∧ Rd G44 k28 A47 y23.f1 ∧ y23.f1.length ≤ c48 ∧ Fr 136 a [(1, .pointer (some ⟨b5, 0, none⟩)), (3, .bool y6), (5, .pointer (some ⟨b30, 0, none⟩)), (41, .bool x46)] ∧ Own G44 (Blk b30 [.int .i64 y23.f0, .slice A47 y23.f1.length c48] 36 :: Blk b5 [.int .i64 a0.f0, .slice A1 a0.f1.length c2] 36 :: L) W) ?_ ?_
   ·
    rintro a W ⟨x46, G44, A47, c48, h, e45, hr49, hl50, hF, hO⟩
    rw [hj51] at h
    refine TQ.use ?_ hF hO
    clear hF hO
    refine TQ.then_ ?_
    refine TC.cond_b rfl h (fun hc53 h => ?_) (fun hc53 h => ?_)
    ·
     refine TC.seq ?_
     refine TC.region ?_
     refine TL.cons (TO.val rfl rfl rfl (Val.assign rfl) ?_)
     refine TL.nil ?_
     refine TQ.then_ ?_
     refine TC.ret ?_
     refine TQ.thenR ?_
     obtain rfl := Option.some.inj h
     exact TQ.fin (.inl rfl) rfl Try.results8 (.tmp rfl .nil) rfl (FRel.mk (Ls := []) [] 2 e45 rfl rfl rfl ⟨rfl, rfl⟩)
    ·
     refine TC.skip ?_
     refine TQ.then_ ?_
     refine TC.seq ?_
     refine TC.seq ?_
     refine TC.region ?_
     refine TL.cons (TO.val rfl rfl rfl (Val.assign rfl) ?_)
     refine TL.nil ?_
     refine TQ.then_ ?_
     obtain ⟨o7768, ho7768, ko7768⟩ := bind_no h
     clear h
     refine TC.tail (fun a W => ∃ (G7766 : Gd), (.inr ()) = o7768 ∧ G.le G7766 ∧ Fr 136 a [(3, .bool y6)] ∧ Own G7766 (L) W) ?_ ?_
     ·
      rintro a W ⟨G7766, rfl, e7767, hF, hO⟩
      have h := ko7768
      clear ko7768 ho7768
      refine TQ.use ?_ hF hO
      clear hF hO
      refine TQ.then_ ?_
      refine TC.seq ?_
      refine TC.region ?_
      refine TL.cons (TO.val rfl rfl rfl (Val.move rfl) ?_)
      refine TL.cons (TO.val rfl rfl rfl (Val.assign rfl) ?_)
      refine TL.nil ?_
      refine TQ.then_ ?_
      refine TC.ret ?_
      obtain rfl := Option.some.inj h
      exact TQ.fin (.inl rfl) rfl Try.results8 (.tmp rfl .nil) rfl (FRel.mk (Ls := []) [] 0 e7767 rfl rfl rfl ⟨rfl, rfl⟩)
     ·
      refine TC.block ?_
      intro a W hF hO
      have hS : ∃ (x5196 : Int) (G5194 : Gd) (A5197 : Option Addr) (c5198 : Nat), swagelaw24_FoldCounts.l0 a0 y23 (a0.f1.length + 1) x5196 = some o7768 ∧ G.le G5194 ∧ Rd G5194 k28 A5197 y23.f1 ∧ y23.f1.length ≤ c5198 ∧ Fr 136 a [(1, .pointer (some ⟨b5, 0, none⟩)), (3, .bool y6), (5, .pointer (some ⟨b30, 0, none⟩)), (6, .int .i64 x5196)] ∧ Own G5194 (Blk b30 [.int .i64 y23.f0, .slice A5197 y23.f1.length c5198] 36 :: Blk b5 [.int .i64 a0.f0, .slice A1 a0.f1.length c2] 36 :: L) W := by
       exact ⟨0, G44, A47, c48, ho7768, e45, hr49, hl50, hF.sub ⟨rfl, rfl, rfl, rfl, trivial⟩, hO.selT (Ls := [Blk b30 [.int .i64 y23.f0, .slice A47 y23.f1.length c48] 36, Blk b5 [.int .i64 a0.f0, .slice A1 a0.f1.length c2] 36]) [0, 1] 2 rfl rfl rfl⟩
      clear hF hO ho7768
      refine TC.loop (fun n7769 a W => ∃ (x5196 : Int) (G5194 : Gd) (A5197 : Option Addr) (c5198 : Nat), swagelaw24_FoldCounts.l0 a0 y23 n7769 x5196 = some o7768 ∧ G.le G5194 ∧ Rd G5194 k28 A5197 y23.f1 ∧ y23.f1.length ≤ c5198 ∧ Fr 136 a [(1, .pointer (some ⟨b5, 0, none⟩)), (3, .bool y6), (5, .pointer (some ⟨b30, 0, none⟩)), (6, .int .i64 x5196)] ∧ Own G5194 (Blk b30 [.int .i64 y23.f0, .slice A5197 y23.f1.length c5198] 36 :: Blk b5 [.int .i64 a0.f0, .slice A1 a0.f1.length c2] 36 :: L) W) ?_ ?_ hS
      ·
       rintro a W ⟨x5196, G5194, A5197, c5198, h, e5195, hr5199, hl5200, hF, hO⟩
       exact none_no h
      ·
       clear hS
       rintro n7769 a W ⟨x5196, G5194, A5197, c5198, h, e5195, hr5199, hl5200, hF, hO⟩
       rw [swagelaw24_FoldCounts.l0] at h
       refine TC.use ?_ hF hO
       clear hF hO
       refine TC.seq ?_
       refine TC.seq ?_
       refine TC.region ?_
       refine TL.cons (TO.val rfl rfl rfl (Val.move rfl) ?_)
       refine TL.cons (TO.val rfl rfl rfl (Val.fieldAddrB Try.underlying36 rfl fsz34 rfl rfl rfl) ?_)
       refine TL.cons (TO.val rfl rfl rfl (Val.loadB 1 agg34 rfl rfl rfl) ?_)
       refine TL.cons (TO.val rfl rfl rfl (Val.len Try.underlying34 rfl) ?_)
       refine TL.cons (TO.val rfl rfl rfl (Val.cmp rfl rfl run_lss) ?_)
       refine TL.nil ?_
       refine TQ.then_ ?_
       refine TC.cond_p rfl h (fun hc10328 h => ?_) (fun hc10328 h => ?_)
       ·
        refine TC.skip ?_
        refine TQ.then_ ?_
        refine TC.seq ?_
        refine TC.block ?_
        refine TC.seq ?_
        refine TC.seq ?_
        refine TC.regionAny [] [0, 1, 2, 3, 4, 5, 6, 7, 8, 9, 10, 11, 12, 13, 14] mixed (by kernel_rfl) ?_
        refine TA.take 0 rfl (by kernel_rfl) rfl (PQ.then_ (PQ.then_ (PQ.inB (PQ.then_ (PQ.then_ (PQ.inB (PQ.then_ (PQ.then_ PQ.body)))))))) rfl (Val.fieldAddrB Try.underlying36 rfl fsz34 rfl rfl rfl) (fun W hO => hO) ?_
        refine TA.take 1 rfl (by kernel_rfl) rfl (PQ.then_ (PQ.then_ (PQ.inB (PQ.then_ (PQ.then_ (PQ.inB (PQ.then_ (PQ.then_ PQ.body)))))))) rfl (Val.loadB 0 agg34 rfl rfl rfl) (fun W hO => hO) ?_
        refine TA.take 2 rfl (by kernel_rfl) rfl (PQ.then_ (PQ.then_ (PQ.inB (PQ.then_ (PQ.then_ (PQ.inB (PQ.then_ (PQ.then_ PQ.body)))))))) rfl (Val.move rfl) (fun W hO => hO) ?_
        obtain ⟨y12190, hx12191, h⟩ := bind_no h
        obtain ⟨ad12192, cs12198, hA12193, hi12194, hj12195, hcl12196, hK12197⟩ := Rd.at hr5199 hx12191
        obtain ⟨A12199, c12200, rfl, hr12201, hl12202⟩ := k28_openR hK12197
        refine TA.take 3 rfl (by kernel_rfl) rfl (PQ.then_ (PQ.then_ (PQ.inB (PQ.then_ (PQ.then_ (PQ.inB (PQ.then_ (PQ.then_ PQ.body)))))))) rfl (Val.indexAddr Try.underlying34 fsz28 rfl hA12193 rfl hi12194 hj12195) (fun W hO => hO) ?_
        refine TA.take 4 rfl (by kernel_rfl) rfl (PQ.then_ (PQ.then_ (PQ.inB (PQ.then_ (PQ.then_ (PQ.inB (PQ.then_ (PQ.then_ PQ.body)))))))) rfl (Val.fieldAddrE Try.underlying28 rfl fsz26 rfl rfl) (fun W hO => hO) ?_
        refine TA.take 5 rfl (by kernel_rfl) rfl (PQ.then_ (PQ.then_ (PQ.inB (PQ.then_ (PQ.then_ (PQ.inB (PQ.then_ (PQ.then_ PQ.body)))))))) rfl (Val.loadS agg26 rfl (hcl12196 0 _ rfl)) (fun W hO => hO) ?_
        refine TA.take 6 rfl (by kernel_rfl) rfl (PQ.then_ (PQ.then_ (PQ.inB (PQ.then_ (PQ.then_ (PQ.inB (PQ.then_ (PQ.then_ PQ.body)))))))) rfl (Val.len Try.underlying26 rfl) (fun W hO => hO) ?_
        refine TA.take 7 rfl (by kernel_rfl) rfl (PQ.then_ (PQ.then_ (PQ.inB (PQ.then_ (PQ.then_ (PQ.inB (PQ.then_ (PQ.then_ PQ.body)))))))) rfl (Val.fieldAddrB Try.underlying36 rfl fsz34 rfl rfl rfl) (fun W hO => hO) ?_
        refine TA.take 8 rfl (by kernel_rfl) rfl (PQ.then_ (PQ.then_ (PQ.inB (PQ.then_ (PQ.then_ (PQ.inB (PQ.then_ (PQ.then_ PQ.body)))))))) rfl (Val.loadB 1 agg34 rfl rfl rfl) (fun W hO => hO) ?_
        refine TA.take 9 rfl (by kernel_rfl) rfl (PQ.then_ (PQ.then_ (PQ.inB (PQ.then_ (PQ.then_ (PQ.inB (PQ.then_ (PQ.then_ PQ.body)))))))) rfl (Val.move rfl) (fun W hO => hO) ?_
        obtain ⟨y12203, hx12204, h⟩ := bind_no h
        obtain ⟨ad12205, cs12211, hA12206, hi12207, hj12208, hcl12209, hK12210⟩ := Rd.at (hr3.up e5195) hx12204
        obtain ⟨A12212, c12213, rfl, hr12214, hl12215⟩ := k28_openR hK12210
        refine TA.take 10 rfl (by kernel_rfl) rfl (PQ.then_ (PQ.then_ (PQ.inB (PQ.then_ (PQ.then_ (PQ.inB (PQ.then_ (PQ.then_ PQ.body)))))))) rfl (Val.indexAddr Try.underlying34 fsz28 rfl hA12206 rfl hi12207 hj12208) (fun W hO => hO) ?_
        refine TA.take 11 rfl (by kernel_rfl) rfl (PQ.then_ (PQ.then_ (PQ.inB (PQ.then_ (PQ.then_ (PQ.inB (PQ.then_ (PQ.then_ PQ.body)))))))) rfl (Val.fieldAddrE Try.underlying28 rfl fsz26 rfl rfl) (fun W hO => hO) ?_
        refine TA.take 12 rfl (by kernel_rfl) rfl (PQ.then_ (PQ.then_ (PQ.inB (PQ.then_ (PQ.then_ (PQ.inB (PQ.then_ (PQ.then_ PQ.body)))))))) rfl (Val.loadS agg26 rfl (hcl12209 0 _ rfl)) (fun W hO => hO) ?_
        refine TA.take 13 rfl (by kernel_rfl) rfl (PQ.then_ (PQ.then_ (PQ.inB (PQ.then_ (PQ.then_ (PQ.inB (PQ.then_ (PQ.then_ PQ.body)))))))) rfl (Val.len Try.underlying26 rfl) (fun W hO => hO) ?_
        refine TA.take 14 rfl (by kernel_rfl) rfl (PQ.then_ (PQ.then_ (PQ.inB (PQ.then_ (PQ.then_ (PQ.inB (PQ.then_ (PQ.then_ PQ.body)))))))) rfl (Val.cmp rfl rfl run_neq) (fun W hO => hO) ?_
        refine TA.done (by kernel_rfl) ?_
        refine TQ.then_ ?_
        refine TC.cond_b rfl h (fun hc12217 h => ?_) (fun hc12217 h => ?_)
        ·
         refine TC.seq ?_
         refine TC.region ?_
         refine TL.cons (TO.val rfl rfl rfl (Val.assign rfl) ?_)
         refine TL.nil ?_
         refine TQ.then_ ?_
         refine TC.ret ?_
         refine TQ.thenR ?_
         refine TQ.inBR ?_
         refine TQ.thenR ?_
         refine TQ.thenR ?_
         refine TQ.inBR ?_
         refine TQ.thenR ?_
         refine TQ.thenR ?_
         obtain rfl := Option.some.inj h
         have h := ko7768
         obtain rfl := Option.some.inj h
         exact TQ.fin (.inl rfl) rfl Try.results8 (.tmp rfl .nil) rfl (FRel.mk (Ls := []) [] 2 e5195 rfl rfl rfl ⟨rfl, rfl⟩)
        ·
         refine TC.skip ?_
         refine TQ.then_ ?_
         refine TC.seq ?_
         refine TC.region ?_
         refine TL.cons (TO.val rfl rfl rfl (Val.assign rfl) ?_)
         refine TL.nil ?_
         refine TQ.then_ ?_
         obtain ⟨o14464, ho14464, ko14464⟩ := bind_no h
         clear h
         refine TC.tail (fun a W => ∃ (G14458 : Gd) (A14460 : Option Addr) (c14461 : Nat), (.inr ()) = o14464 ∧ G.le G14458 ∧ Rd G14458 k28 A14460 y23.f1 ∧ y23.f1.length ≤ c14461 ∧ Fr 136 a [(1, .pointer (some ⟨b5, 0, none⟩)), (3, .bool y6), (5, .pointer (some ⟨b30, 0, none⟩)), (6, .int .i64 x5196)] ∧ Own G14458 (Blk b30 [.int .i64 y23.f0, .slice A14460 y23.f1.length c14461] 36 :: Blk b5 [.int .i64 a0.f0, .slice A1 a0.f1.length c2] 36 :: L) W) ?_ ?_
         ·
          rintro a W ⟨G14458, A14460, c14461, rfl, e14459, hr14462, hl14463, hF, hO⟩
          have h := ko14464
          clear ko14464 ho14464
          refine TQ.use ?_ hF hO
          clear hF hO
          refine TQ.inB ?_
          refine TQ.then_ ?_
          refine TC.region ?_
          refine TL.cons (TO.val rfl rfl rfl (Val.move rfl) ?_)
          refine TL.cons (TO.val rfl rfl rfl (Val.cmp rfl rfl run_add) ?_)
          refine TL.cons (TO.val rfl rfl rfl (Val.assign rfl) ?_)
          refine TL.nil ?_
          exact fun a W hF hO => ⟨IntKind.i64.wrap (x5196 + 1), G14458, A14460, c14461, h, e14459, hr14462, hl14463, hF.sub ⟨rfl, rfl, rfl, rfl, trivial⟩, hO.selT (Ls := [Blk b30 [.int .i64 y23.f0, .slice A14460 y23.f1.length c14461] 36, Blk b5 [.int .i64 a0.f0, .slice A1 a0.f1.length c2] 36]) [0, 1] 2 rfl rfl rfl⟩
         ·
          refine TC.block ?_
          intro a W hF hO
          have hS : ∃ (x13713 : Int) (G13711 : Gd), swagelaw24_FoldCounts.l1 a0 y23 x5196 ((at? a0.f1 x5196).elim 0 (fun vy14466 => vy14466.f0.length) + 1) x13713 = some o14464 ∧ G.le G13711 ∧ Rd G13711 k28 A5197 y23.f1 ∧ Fr 136 a [(1, .pointer (some ⟨b5, 0, none⟩)), (3, .bool y6), (5, .pointer (some ⟨b30, 0, none⟩)), (6, .int .i64 x5196), (7, .int .i64 x13713)] ∧ Own G13711 (Blk b30 [.int .i64 y23.f0, .slice A5197 y23.f1.length c5198] 36 :: Blk b5 [.int .i64 a0.f0, .slice A1 a0.f1.length c2] 36 :: L) W := by
           exact ⟨0, G5194, ho14464, e5195, hr5199, hF.sub ⟨rfl, rfl, rfl, rfl, rfl, trivial⟩, hO.selT (Ls := [Blk b30 [.int .i64 y23.f0, .slice A5197 y23.f1.length c5198] 36, Blk b5 [.int .i64 a0.f0, .slice A1 a0.f1.length c2] 36]) [0, 1] 2 rfl rfl rfl⟩
          clear hF hO ho14464
          refine TC.loop (fun n14465 a W => ∃ (x13713 : Int) (G13711 : Gd), swagelaw24_FoldCounts.l1 a0 y23 x5196 n14465 x13713 = some o14464 ∧ G.le G13711 ∧ Rd G13711 k28 A5197 y23.f1 ∧ Fr 136 a [(1, .pointer (some ⟨b5, 0, none⟩)), (3, .bool y6), (5, .pointer (some ⟨b30, 0, none⟩)), (6, .int .i64 x5196), (7, .int .i64 x13713)] ∧ Own G13711 (Blk b30 [.int .i64 y23.f0, .slice A5197 y23.f1.length c5198] 36 :: Blk b5 [.int .i64 a0.f0, .slice A1 a0.f1.length c2] 36 :: L) W) ?_ ?_ hS
          ·
           rintro a W ⟨x13713, G13711, h, e13712, hr13714, hF, hO⟩
           exact none_no h
          ·
           clear hS
           rintro n14465 a W ⟨x13713, G13711, h, e13712, hr13714, hF, hO⟩
           rw [swagelaw24_FoldCounts.l1] at h
           refine TC.use ?_ hF hO
           clear hF hO
           refine TC.seq ?_
           refine TC.seq ?_
           refine TC.region ?_
           refine TL.cons (TO.val rfl rfl rfl (Val.move rfl) ?_)
           refine TL.cons (TO.val rfl rfl rfl (Val.fieldAddrB Try.underlying36 rfl fsz34 rfl rfl rfl) ?_)
           refine TL.cons (TO.val rfl rfl rfl (Val.loadB 1 agg34 rfl rfl rfl) ?_)
           refine TL.cons (TO.val rfl rfl rfl (Val.move rfl) ?_)
           obtain ⟨y15207, hx15208, h⟩ := bind_no h
           obtain ⟨ad15209, cs15215, hA15210, hi15211, hj15212, hcl15213, hK15214⟩ := Rd.at (hr3.up e13712) hx15208
           obtain ⟨A15216, c15217, rfl, hr15218, hl15219⟩ := k28_openR hK15214
           refine TL.cons (TO.val rfl rfl rfl (Val.indexAddr Try.underlying34 fsz28 rfl hA15210 rfl hi15211 hj15212) ?_)
           refine TL.cons (TO.val rfl rfl rfl (Val.fieldAddrE Try.underlying28 rfl fsz26 rfl rfl) ?_)
           refine TL.cons (TO.val rfl rfl rfl (Val.loadS agg26 rfl (hcl15213 0 _ rfl)) ?_)
           refine TL.cons (TO.val rfl rfl rfl (Val.len Try.underlying26 rfl) ?_)
           refine TL.cons (TO.val rfl rfl rfl (Val.cmp rfl rfl run_lss) ?_)
           refine TL.nil ?_
           refine TQ.then_ ?_
           refine TC.cond_p rfl h (fun hc15221 h => ?_) (fun hc15221 h => ?_)
           ·
            refine TC.skip ?_
            refine TQ.then_ ?_
            refine TC.seq ?_
            refine TC.block ?_
            refine TC.seq ?_
            refine TC.region ?_
            refine TL.cons (TO.val rfl rfl rfl (Val.fieldAddrB Try.underlying36 rfl fsz34 rfl rfl rfl) ?_)
            refine TL.cons (TO.val rfl rfl rfl (Val.loadB 1 agg34 rfl rfl rfl) ?_)
            refine TL.cons (TO.val rfl rfl rfl (Val.move rfl) ?_)
            refine TL.cons (TO.val rfl rfl rfl (Val.indexAddr Try.underlying34 fsz28 rfl hA15210 rfl hi15211 hj15212) ?_)
            refine TL.cons (TO.val rfl rfl rfl (Val.fieldAddrE Try.underlying28 rfl fsz26 rfl rfl) ?_)
            refine TL.cons (TO.val rfl rfl rfl (Val.loadS agg26 rfl (hcl15213 0 _ rfl)) ?_)
            refine TL.cons (TO.val rfl rfl rfl (Val.move rfl) ?_)
            obtain ⟨y15586, hx15587, h⟩ := bind_no h
            obtain ⟨ad15588, cs15594, hA15589, hi15590, hj15591, hcl15592, hK15593⟩ := Rd.at hr15218 hx15587
            obtain ⟨A15595, c15596, rfl, hr15597, hl15598⟩ := k30_openR hK15593
            refine TL.cons (TO.val rfl rfl rfl (Val.indexAddr Try.underlying26 fsz30 rfl hA15589 rfl hi15590 hj15591) ?_)
            refine TL.cons (TO.val rfl rfl rfl (Val.loadsS (cs := [.int .i64 y15586.f0, .int .i64 y15586.f1, .int .i64 y15586.f2, .int .i64 y15586.f3, .int .i64 y15586.f4, .slice A15595 y15586.f5.length c15596]) agg30 fsz30 rfl rfl (Cl.sub (off := 0) (n := 6) hcl15592 rfl)) ?_)
            refine TL.cons (TL.alloc (cs := [.int .i64 0, .int .i64 0, .int .i64 0, .int .i64 0, .int .i64 0, .slice none 0 0]) rfl rfl zr30 rfl (fun b15599 => ?_))
            refine TL.cons (TL.store 0 (ds := [.int .i64 y15586.f0, .int .i64 y15586.f1, .int .i64 y15586.f2, .int .i64 y15586.f3, .int .i64 y15586.f4, .slice A15595 y15586.f5.length c15596]) (cs' := [.int .i64 y15586.f0, .int .i64 y15586.f1, .int .i64 y15586.f2, .int .i64 y15586.f3, .int .i64 y15586.f4, .slice A15595 y15586.f5.length c15596]) (L' := (Blk b15599 [.int .i64 y15586.f0, .int .i64 y15586.f1, .int .i64 y15586.f2, .int .i64 y15586.f3, .int .i64 y15586.f4, .slice A15595 y15586.f5.length c15596] 30 :: Blk b30 [.int .i64 y23.f0, .slice A5197 y23.f1.length c5198] 36 :: Blk b5 [.int .i64 a0.f0, .slice A1 a0.f1.length c2] 36 :: L)) rfl fsz30 rfl rfl rfl rfl rfl (Nat.le_of_ble_eq_true rfl) rfl rfl ?_)
            refine TL.nil ?_
            refine TQ.then_ ?_
            refine TC.seq ?_
            refine TC.region ?_
            refine TL.cons (TO.val rfl rfl rfl (Val.fieldAddrB Try.underlying36 rfl fsz34 rfl rfl rfl) ?_)
            refine TL.cons (TO.val rfl rfl rfl (Val.loadB 1 agg34 rfl rfl rfl) ?_)
            refine TL.cons (TO.val rfl rfl rfl (Val.move rfl) ?_)
            obtain ⟨y15600, hx15601, h⟩ := bind_no h
            obtain ⟨ad15602, cs15608, hA15603, hi15604, hj15605, hcl15606, hK15607⟩ := Rd.at hr13714 hx15601
            obtain ⟨A15609, c15610, rfl, hr15611, hl15612⟩ := k28_openR hK15607
            refine TL.cons (TO.val rfl rfl rfl (Val.indexAddr Try.underlying34 fsz28 rfl hA15603 rfl hi15604 hj15605) ?_)
            refine TL.cons (TO.val rfl rfl rfl (Val.fieldAddrE Try.underlying28 rfl fsz26 rfl rfl) ?_)
            refine TL.cons (TO.val rfl rfl rfl (Val.loadS agg26 rfl (hcl15606 0 _ rfl)) ?_)
            refine TL.cons (TO.val rfl rfl rfl (Val.move rfl) ?_)
            obtain ⟨y15613, hx15614, h⟩ := bind_no h
            obtain ⟨ad15615, cs15621, hA15616, hi15617, hj15618, hcl15619, hK15620⟩ := Rd.at hr15611 hx15614
            obtain ⟨A15622, c15623, rfl, hr15624, hl15625⟩ := k30_openR hK15620
            refine TL.cons (TO.val rfl rfl rfl (Val.indexAddr Try.underlying26 fsz30 rfl hA15616 rfl hi15617 hj15618) ?_)
            refine TL.cons (TO.val rfl rfl rfl (Val.loadsS (cs := [.int .i64 y15613.f0, .int .i64 y15613.f1, .int .i64 y15613.f2, .int .i64 y15613.f3, .int .i64 y15613.f4, .slice A15622 y15613.f5.length c15623]) agg30 fsz30 rfl rfl (Cl.sub (off := 0) (n := 6) hcl15619 rfl)) ?_)
            refine TL.cons (TL.alloc (cs := [.int .i64 0, .int .i64 0, .int .i64 0, .int .i64 0, .int .i64 0, .slice none 0 0]) rfl rfl zr30 rfl (fun b15626 => ?_))
            refine TL.cons (TL.store 0 (ds := [.int .i64 y15613.f0, .int .i64 y15613.f1, .int .i64 y15613.f2, .int .i64 y15613.f3, .int .i64 y15613.f4, .slice A15622 y15613.f5.length c15623]) (cs' := [.int .i64 y15613.f0, .int .i64 y15613.f1, .int .i64 y15613.f2, .int .i64 y15613.f3, .int .i64 y15613.f4, .slice A15622 y15613.f5.length c15623]) (L' := (Blk b15626 [.int .i64 y15613.f0, .int .i64 y15613.f1, .int .i64 y15613.f2, .int .i64 y15613.f3, .int .i64 y15613.f4, .slice A15622 y15613.f5.length c15623] 30 :: Blk b15599 [.int .i64 y15586.f0, .int .i64 y15586.f1, .int .i64 y15586.f2, .int .i64 y15586.f3, .int .i64 y15586.f4, .slice A15595 y15586.f5.length c15596] 30 :: Blk b30 [.int .i64 y23.f0, .slice A5197 y23.f1.length c5198] 36 :: Blk b5 [.int .i64 a0.f0, .slice A1 a0.f1.length c2] 36 :: L)) rfl fsz30 rfl rfl rfl rfl rfl (Nat.le_of_ble_eq_true rfl) rfl rfl ?_)
            refine TL.nil ?_
            refine TQ.then_ ?_
            refine TC.seq ?_
            obtain ⟨j15789, hj15789, h⟩ := jn_no h
            refine TC.tail (fun a W => ∃ (x15787 : Bool) (G15785 : Gd), j15789 x15787 = some o14464 ∧ G.le G15785 ∧ Rd G15785 k28 A5197 y23.f1 ∧ Fr 136 a [(1, .pointer (some ⟨b5, 0, none⟩)), (3, .bool y6), (5, .pointer (some ⟨b30, 0, none⟩)), (6, .int .i64 x5196), (7, .int .i64 x13713), (134, .bool x15787)] ∧ Own G15785 (Blk b30 [.int .i64 y23.f0, .slice A5197 y23.f1.length c5198] 36 :: Blk b5 [.int .i64 a0.f0, .slice A1 a0.f1.length c2] 36 :: L) W) ?_ ?_
            ·
             rintro a W ⟨x15787, G15785, h, e15786, hr15788, hF, hO⟩
             rw [hj15789] at h
             refine TQ.use ?_ hF hO
             clear hF hO
             refine TQ.then_ ?_
             refine TC.cond_b rfl h (fun hc15791 h => ?_) (fun hc15791 h => ?_)
             ·
              refine TC.seq ?_
              refine TC.region ?_
              refine TL.cons (TO.val rfl rfl rfl (Val.assign rfl) ?_)
              refine TL.nil ?_
              refine TQ.then_ ?_
              refine TC.ret ?_
              refine TQ.inBR ?_
              refine TQ.thenR ?_
              refine TQ.thenR ?_
              refine TQ.inBR ?_
              refine TQ.thenR ?_
              refine TQ.inBR ?_
              refine TQ.thenR ?_
              refine TQ.thenR ?_
              refine TQ.inBR ?_
              refine TQ.thenR ?_
              refine TQ.thenR ?_
              obtain rfl := Option.some.inj h
              have h := ko14464
              obtain rfl := Option.some.inj h
              have h := ko7768
              obtain rfl := Option.some.inj h
              exact TQ.fin (.inl rfl) rfl Try.results8 (.tmp rfl .nil) rfl (FRel.mk (Ls := []) [] 2 e15786 rfl rfl rfl ⟨rfl, rfl⟩)
             ·
              refine TC.skip ?_
              refine TQ.inB ?_
              refine TQ.then_ ?_
              refine TC.region ?_
              refine TL.cons (TO.val rfl rfl rfl (Val.move rfl) ?_)
              refine TL.cons (TO.val rfl rfl rfl (Val.cmp rfl rfl run_add) ?_)
              refine TL.cons (TO.val rfl rfl rfl (Val.assign rfl) ?_)
              refine TL.nil ?_
              exact fun a W hF hO => ⟨IntKind.i64.wrap (x13713 + 1), G15785, h, e15786, hr15788, hF.sub ⟨rfl, rfl, rfl, rfl, rfl, trivial⟩, hO.selT (Ls := [Blk b30 [.int .i64 y23.f0, .slice A5197 y23.f1.length c5198] 36, Blk b5 [.int .i64 a0.f0, .slice A1 a0.f1.length c2] 36]) [0, 1] 2 rfl rfl rfl⟩
            ·
             refine TC.regionAny [] [0, 2, 4, 5, 6, 7, 8, 9, 10, 11, 12, 13, 14, 15, 16, 17, 18, 19, 20, 21, 22, 23, 24, 25, 26, 27, 28, 29, 30, 31, 32, 33, 34, 35, 36, 37, 38, 39, 40, 41] mixed (by kernel_rfl) ?_
             refine TA.take 0 rfl (by kernel_rfl) rfl (PQ.then_ (PQ.then_ (PQ.inB (PQ.then_ (PQ.then_ (PQ.inB (PQ.then_ (PQ.inB (PQ.then_ (PQ.then_ (PQ.inB (PQ.then_ (PQ.then_ PQ.body))))))))))))) rfl (Val.loadsB 1 (cs := [.int .i64 y15586.f0, .int .i64 y15586.f1, .int .i64 y15586.f2, .int .i64 y15586.f3, .int .i64 y15586.f4, .slice A15595 y15586.f5.length c15596]) agg30 fsz30 rfl rfl rfl rfl) (fun W hO => hO) ?_
             refine TA.take 2 rfl (by kernel_rfl) rfl (PQ.then_ (PQ.then_ (PQ.inB (PQ.then_ (PQ.then_ (PQ.inB (PQ.then_ (PQ.inB (PQ.then_ (PQ.then_ (PQ.inB (PQ.then_ (PQ.then_ PQ.body))))))))))))) rfl (Val.loadsB 0 (cs := [.int .i64 y15613.f0, .int .i64 y15613.f1, .int .i64 y15613.f2, .int .i64 y15613.f3, .int .i64 y15613.f4, .slice A15622 y15613.f5.length c15623]) agg30 fsz30 rfl rfl rfl rfl) (fun W hO => hO) ?_
             obtain ⟨y15871, hy15872, h⟩ := bind_no h
             refine TA.eff 1 rfl (by kernel_rfl) rfl (TL.callV (Lin := []) (args := [.agg #[.int .i64 y15586.f0, .int .i64 y15586.f1, .int .i64 y15586.f2, .int .i64 y15586.f3, .int .i64 y15586.f4, .slice A15595 y15586.f5.length c15596]]) rfl rfl rfl hbd31 rfl rfl (code_Sets.calls (a0 := y15586) hr15597 hl15598 hy15872) rfl ?_)
             rintro _ _ _ _ ⟨rfl, rfl, rfl⟩
             refine TA.next (fun W hO => hO) ?_
             obtain ⟨y15873, hy15874, h⟩ := bind_no h
             refine TA.eff 3 rfl (by kernel_rfl) rfl (TL.callV (Lin := []) (args := [.agg #[.int .i64 y15613.f0, .int .i64 y15613.f1, .int .i64 y15613.f2, .int .i64 y15613.f3, .int .i64 y15613.f4, .slice A15622 y15613.f5.length c15623]]) rfl rfl rfl hbd31 rfl rfl (code_Sets.calls (a0 := y15613) hr15624 hl15625 hy15874) rfl ?_)
             rintro _ _ _ _ ⟨rfl, rfl, rfl⟩
             refine TA.next (fun W hO => hO) ?_
             refine TA.take 4 rfl (by kernel_rfl) rfl (PQ.then_ (PQ.then_ (PQ.inB (PQ.then_ (PQ.then_ (PQ.inB (PQ.then_ (PQ.inB (PQ.then_ (PQ.then_ (PQ.inB (PQ.then_ (PQ.then_ PQ.body))))))))))))) rfl (Val.cmp rfl rfl run_neq) (fun W hO => hO) ?_
             refine TA.take 5 rfl (by kernel_rfl) rfl (PQ.then_ (PQ.then_ (PQ.inB (PQ.then_ (PQ.then_ (PQ.inB (PQ.then_ (PQ.inB (PQ.then_ (PQ.then_ (PQ.inB (PQ.then_ (PQ.then_ PQ.body))))))))))))) rfl (Val.move rfl) (fun W hO => hO) ?_
             refine TK.split (p := (!decide (y15871 = y15873)) = true) h (fun hg15875 h => ?_) (fun hg15875 h => ?_)
             ·
              have hk15876 : (!decide (y15871 = y15873)) = true := hg15875
              refine TA.not 6 rfl (by kernel_rfl) rfl (PQ.then_ (PQ.then_ (PQ.inB (PQ.then_ (PQ.then_ (PQ.inB (PQ.then_ (PQ.inB (PQ.then_ (PQ.then_ (PQ.inB (PQ.then_ (PQ.then_ PQ.body))))))))))))) (Wt.no rfl rfl rfl hk15876) (fun W hO => hO) ?_
              refine TA.not 7 rfl (by kernel_rfl) rfl (PQ.then_ (PQ.then_ (PQ.inB (PQ.then_ (PQ.then_ (PQ.inB (PQ.then_ (PQ.inB (PQ.then_ (PQ.then_ (PQ.inB (PQ.then_ (PQ.then_ PQ.body))))))))))))) (Wt.no rfl rfl rfl hk15876) (fun W hO => hO) ?_
              refine TA.not 8 rfl (by kernel_rfl) rfl (PQ.then_ (PQ.then_ (PQ.inB (PQ.then_ (PQ.then_ (PQ.inB (PQ.then_ (PQ.inB (PQ.then_ (PQ.then_ (PQ.inB (PQ.then_ (PQ.then_ PQ.body))))))))))))) (Wt.no rfl rfl rfl hk15876) (fun W hO => hO) ?_
              refine TA.not 9 rfl (by kernel_rfl) rfl (PQ.then_ (PQ.then_ (PQ.inB (PQ.then_ (PQ.then_ (PQ.inB (PQ.then_ (PQ.inB (PQ.then_ (PQ.then_ (PQ.inB (PQ.then_ (PQ.then_ PQ.body))))))))))))) (Wt.no rfl rfl rfl hk15876) (fun W hO => hO) ?_
              refine TA.not 10 rfl (by kernel_rfl) rfl (PQ.then_ (PQ.then_ (PQ.inB (PQ.then_ (PQ.then_ (PQ.inB (PQ.then_ (PQ.inB (PQ.then_ (PQ.then_ (PQ.inB (PQ.then_ (PQ.then_ PQ.body))))))))))))) rfl (fun W hO => hO) ?_
              refine TA.not 11 rfl (by kernel_rfl) rfl (PQ.then_ (PQ.then_ (PQ.inB (PQ.then_ (PQ.then_ (PQ.inB (PQ.then_ (PQ.inB (PQ.then_ (PQ.then_ (PQ.inB (PQ.then_ (PQ.then_ PQ.body))))))))))))) rfl (fun W hO => hO) ?_
              refine TA.not 12 rfl (by kernel_rfl) rfl (PQ.then_ (PQ.then_ (PQ.inB (PQ.then_ (PQ.then_ (PQ.inB (PQ.then_ (PQ.inB (PQ.then_ (PQ.then_ (PQ.inB (PQ.then_ (PQ.then_ PQ.body))))))))))))) rfl (fun W hO => hO) ?_
              refine TA.not 13 rfl (by kernel_rfl) rfl (PQ.then_ (PQ.then_ (PQ.inB (PQ.then_ (PQ.then_ (PQ.inB (PQ.then_ (PQ.inB (PQ.then_ (PQ.then_ (PQ.inB (PQ.then_ (PQ.then_ PQ.body))))))))))))) rfl (fun W hO => hO) ?_
              refine TA.not 14 rfl (by kernel_rfl) rfl (PQ.then_ (PQ.then_ (PQ.inB (PQ.then_ (PQ.then_ (PQ.inB (PQ.then_ (PQ.inB (PQ.then_ (PQ.then_ (PQ.inB (PQ.then_ (PQ.then_ PQ.body))))))))))))) (Wt.no rfl rfl rfl hk15876) (fun W hO => hO) ?_
              refine TA.take 15 rfl (by kernel_rfl) rfl (PQ.then_ (PQ.then_ (PQ.inB (PQ.then_ (PQ.then_ (PQ.inB (PQ.then_ (PQ.inB (PQ.then_ (PQ.then_ (PQ.inB (PQ.then_ (PQ.then_ PQ.body))))))))))))) rfl (Val.pickY rfl hk15876 rfl) (fun W hO => hO) ?_
              refine TA.take 16 rfl (by kernel_rfl) rfl (PQ.then_ (PQ.then_ (PQ.inB (PQ.then_ (PQ.then_ (PQ.inB (PQ.then_ (PQ.inB (PQ.then_ (PQ.then_ (PQ.inB (PQ.then_ (PQ.then_ PQ.body))))))))))))) rfl (Val.move rfl) (fun W hO => hO) ?_
              refine TA.not 17 rfl (by kernel_rfl) rfl (PQ.then_ (PQ.then_ (PQ.inB (PQ.then_ (PQ.then_ (PQ.inB (PQ.then_ (PQ.inB (PQ.then_ (PQ.then_ (PQ.inB (PQ.then_ (PQ.then_ PQ.body))))))))))))) (Wt.no rfl rfl rfl rfl) (fun W hO => hO) ?_
              refine TA.not 18 rfl (by kernel_rfl) rfl (PQ.then_ (PQ.then_ (PQ.inB (PQ.then_ (PQ.then_ (PQ.inB (PQ.then_ (PQ.inB (PQ.then_ (PQ.then_ (PQ.inB (PQ.then_ (PQ.then_ PQ.body))))))))))))) (Wt.no rfl rfl rfl rfl) (fun W hO => hO) ?_
              refine TA.not 19 rfl (by kernel_rfl) rfl (PQ.then_ (PQ.then_ (PQ.inB (PQ.then_ (PQ.then_ (PQ.inB (PQ.then_ (PQ.inB (PQ.then_ (PQ.then_ (PQ.inB (PQ.then_ (PQ.then_ PQ.body))))))))))))) (Wt.no rfl rfl rfl rfl) (fun W hO => hO) ?_
              refine TA.not 20 rfl (by kernel_rfl) rfl (PQ.then_ (PQ.then_ (PQ.inB (PQ.then_ (PQ.then_ (PQ.inB (PQ.then_ (PQ.inB (PQ.then_ (PQ.then_ (PQ.inB (PQ.then_ (PQ.then_ PQ.body))))))))))))) (Wt.no rfl rfl rfl rfl) (fun W hO => hO) ?_
              refine TA.not 21 rfl (by kernel_rfl) rfl (PQ.then_ (PQ.then_ (PQ.inB (PQ.then_ (PQ.then_ (PQ.inB (PQ.then_ (PQ.inB (PQ.then_ (PQ.then_ (PQ.inB (PQ.then_ (PQ.then_ PQ.body))))))))))))) rfl (fun W hO => hO) ?_
              refine TA.not 22 rfl (by kernel_rfl) rfl (PQ.then_ (PQ.then_ (PQ.inB (PQ.then_ (PQ.then_ (PQ.inB (PQ.then_ (PQ.inB (PQ.then_ (PQ.then_ (PQ.inB (PQ.then_ (PQ.then_ PQ.body))))))))))))) rfl (fun W hO => hO) ?_
              refine TA.not 23 rfl (by kernel_rfl) rfl (PQ.then_ (PQ.then_ (PQ.inB (PQ.then_ (PQ.then_ (PQ.inB (PQ.then_ (PQ.inB (PQ.then_ (PQ.then_ (PQ.inB (PQ.then_ (PQ.then_ PQ.body))))))))))))) rfl (fun W hO => hO) ?_
              refine TA.not 24 rfl (by kernel_rfl) rfl (PQ.then_ (PQ.then_ (PQ.inB (PQ.then_ (PQ.then_ (PQ.inB (PQ.then_ (PQ.inB (PQ.then_ (PQ.then_ (PQ.inB (PQ.then_ (PQ.then_ PQ.body))))))))))))) (Wt.no rfl rfl rfl rfl) (fun W hO => hO) ?_
              refine TA.not 25 rfl (by kernel_rfl) rfl (PQ.then_ (PQ.then_ (PQ.inB (PQ.then_ (PQ.then_ (PQ.inB (PQ.then_ (PQ.inB (PQ.then_ (PQ.then_ (PQ.inB (PQ.then_ (PQ.then_ PQ.body))))))))))))) (Wt.no rfl rfl rfl rfl) (fun W hO => hO) ?_
              refine TA.not 26 rfl (by kernel_rfl) rfl (PQ.then_ (PQ.then_ (PQ.inB (PQ.then_ (PQ.then_ (PQ.inB (PQ.then_ (PQ.inB (PQ.then_ (PQ.then_ (PQ.inB (PQ.then_ (PQ.then_ PQ.body))))))))))))) rfl (fun W hO => hO) ?_
              refine TA.not 27 rfl (by kernel_rfl) rfl (PQ.then_ (PQ.then_ (PQ.inB (PQ.then_ (PQ.then_ (PQ.inB (PQ.then_ (PQ.inB (PQ.then_ (PQ.then_ (PQ.inB (PQ.then_ (PQ.then_ PQ.body))))))))))))) rfl (fun W hO => hO) ?_
              refine TA.not 28 rfl (by kernel_rfl) rfl (PQ.then_ (PQ.then_ (PQ.inB (PQ.then_ (PQ.then_ (PQ.inB (PQ.then_ (PQ.inB (PQ.then_ (PQ.then_ (PQ.inB (PQ.then_ (PQ.then_ PQ.body))))))))))))) rfl (fun W hO => hO) ?_
              refine TA.not 29 rfl (by kernel_rfl) rfl (PQ.then_ (PQ.then_ (PQ.inB (PQ.then_ (PQ.then_ (PQ.inB (PQ.then_ (PQ.inB (PQ.then_ (PQ.then_ (PQ.inB (PQ.then_ (PQ.then_ PQ.body))))))))))))) rfl (fun W hO => hO) ?_
              refine TA.not 30 rfl (by kernel_rfl) rfl (PQ.then_ (PQ.then_ (PQ.inB (PQ.then_ (PQ.then_ (PQ.inB (PQ.then_ (PQ.inB (PQ.then_ (PQ.then_ (PQ.inB (PQ.then_ (PQ.then_ PQ.body))))))))))))) rfl (fun W hO => hO) ?_
              refine TA.not 31 rfl (by kernel_rfl) rfl (PQ.then_ (PQ.then_ (PQ.inB (PQ.then_ (PQ.then_ (PQ.inB (PQ.then_ (PQ.inB (PQ.then_ (PQ.then_ (PQ.inB (PQ.then_ (PQ.then_ PQ.body))))))))))))) (Wt.no rfl rfl rfl rfl) (fun W hO => hO) ?_
              refine TA.take 32 rfl (by kernel_rfl) rfl (PQ.then_ (PQ.then_ (PQ.inB (PQ.then_ (PQ.then_ (PQ.inB (PQ.then_ (PQ.inB (PQ.then_ (PQ.then_ (PQ.inB (PQ.then_ (PQ.then_ PQ.body))))))))))))) rfl (Val.pickY rfl rfl rfl) (fun W hO => hO) ?_
              refine TA.take 33 rfl (by kernel_rfl) rfl (PQ.then_ (PQ.then_ (PQ.inB (PQ.then_ (PQ.then_ (PQ.inB (PQ.then_ (PQ.inB (PQ.then_ (PQ.then_ (PQ.inB (PQ.then_ (PQ.then_ PQ.body))))))))))))) rfl (Val.move rfl) (fun W hO => hO) ?_
              refine TA.not 34 rfl (by kernel_rfl) rfl (PQ.then_ (PQ.then_ (PQ.inB (PQ.then_ (PQ.then_ (PQ.inB (PQ.then_ (PQ.inB (PQ.then_ (PQ.then_ (PQ.inB (PQ.then_ (PQ.then_ PQ.body))))))))))))) (Wt.no rfl rfl rfl rfl) (fun W hO => hO) ?_
              refine TA.not 35 rfl (by kernel_rfl) rfl (PQ.then_ (PQ.then_ (PQ.inB (PQ.then_ (PQ.then_ (PQ.inB (PQ.then_ (PQ.inB (PQ.then_ (PQ.then_ (PQ.inB (PQ.then_ (PQ.then_ PQ.body))))))))))))) (Wt.no rfl rfl rfl rfl) (fun W hO => hO) ?_
              refine TA.not 36 rfl (by kernel_rfl) rfl (PQ.then_ (PQ.then_ (PQ.inB (PQ.then_ (PQ.then_ (PQ.inB (PQ.then_ (PQ.inB (PQ.then_ (PQ.then_ (PQ.inB (PQ.then_ (PQ.then_ PQ.body))))))))))))) (Wt.no rfl rfl rfl rfl) (fun W hO => hO) ?_
              refine TA.not 37 rfl (by kernel_rfl) rfl (PQ.then_ (PQ.then_ (PQ.inB (PQ.then_ (PQ.then_ (PQ.inB (PQ.then_ (PQ.inB (PQ.then_ (PQ.then_ (PQ.inB (PQ.then_ (PQ.then_ PQ.body))))))))))))) rfl (fun W hO => hO) ?_
              refine TA.not 38 rfl (by kernel_rfl) rfl (PQ.then_ (PQ.then_ (PQ.inB (PQ.then_ (PQ.then_ (PQ.inB (PQ.then_ (PQ.inB (PQ.then_ (PQ.then_ (PQ.inB (PQ.then_ (PQ.then_ PQ.body))))))))))))) rfl (fun W hO => hO) ?_
              refine TA.not 39 rfl (by kernel_rfl) rfl (PQ.then_ (PQ.then_ (PQ.inB (PQ.then_ (PQ.then_ (PQ.inB (PQ.then_ (PQ.inB (PQ.then_ (PQ.then_ (PQ.inB (PQ.then_ (PQ.then_ PQ.body))))))))))))) rfl (fun W hO => hO) ?_
              refine TA.not 40 rfl (by kernel_rfl) rfl (PQ.then_ (PQ.then_ (PQ.inB (PQ.then_ (PQ.then_ (PQ.inB (PQ.then_ (PQ.inB (PQ.then_ (PQ.then_ (PQ.inB (PQ.then_ (PQ.then_ PQ.body))))))))))))) (Wt.no rfl rfl rfl rfl) (fun W hO => hO) ?_
              refine TA.take 41 rfl (by kernel_rfl) rfl (PQ.then_ (PQ.then_ (PQ.inB (PQ.then_ (PQ.then_ (PQ.inB (PQ.then_ (PQ.inB (PQ.then_ (PQ.then_ (PQ.inB (PQ.then_ (PQ.then_ PQ.body))))))))))))) rfl (Val.pickY rfl rfl rfl) (fun W hO => hO) ?_
              refine TA.done (by kernel_rfl) ?_
              exact fun a W hF hO => ⟨true, G13711, h, e13712, hr13714, hF.sub ⟨rfl, rfl, rfl, rfl, rfl, rfl, trivial⟩, hO.selT (Ls := [Blk b30 [.int .i64 y23.f0, .slice A5197 y23.f1.length c5198] 36, Blk b5 [.int .i64 a0.f0, .slice A1 a0.f1.length c2] 36]) [2, 3] 4 rfl rfl rfl⟩
             ·
              have hk15877 : (!decide (y15871 = y15873)) = false := (by simpa using hg15875)
              refine TA.take 6 rfl (by kernel_rfl) rfl (PQ.then_ (PQ.then_ (PQ.inB (PQ.then_ (PQ.then_ (PQ.inB (PQ.then_ (PQ.inB (PQ.then_ (PQ.then_ (PQ.inB (PQ.then_ (PQ.then_ PQ.body))))))))))))) (Wt.yes rfl rfl rfl hk15877) (Val.fieldAddrB Try.underlying30 rfl fsz3 rfl rfl rfl) (fun W hO => hO) ?_
              refine TA.take 7 rfl (by kernel_rfl) rfl (PQ.then_ (PQ.then_ (PQ.inB (PQ.then_ (PQ.then_ (PQ.inB (PQ.then_ (PQ.inB (PQ.then_ (PQ.then_ (PQ.inB (PQ.then_ (PQ.then_ PQ.body))))))))))))) (Wt.yes rfl rfl rfl hk15877) (Val.loadB 1 agg3 rfl rfl rfl) (fun W hO => hO) ?_
              refine TA.take 8 rfl (by kernel_rfl) rfl (PQ.then_ (PQ.then_ (PQ.inB (PQ.then_ (PQ.then_ (PQ.inB (PQ.then_ (PQ.inB (PQ.then_ (PQ.then_ (PQ.inB (PQ.then_ (PQ.then_ PQ.body))))))))))))) (Wt.yes rfl rfl rfl hk15877) (Val.cmp rfl rfl run_eql) (fun W hO => hO) ?_
              refine TA.take 9 rfl (by kernel_rfl) rfl (PQ.then_ (PQ.then_ (PQ.inB (PQ.then_ (PQ.then_ (PQ.inB (PQ.then_ (PQ.inB (PQ.then_ (PQ.then_ (PQ.inB (PQ.then_ (PQ.then_ PQ.body))))))))))))) (Wt.yes rfl rfl rfl hk15877) (Val.move rfl) (fun W hO => hO) ?_
              refine TK.split (p := y15586.f0 = 1) h (fun hg15878 h => ?_) (fun hg15878 h => ?_)
              ·
               have hk15879 : decide (y15586.f0 = 1) = true := decide_eq_true hg15878
               refine TA.take 10 rfl (by kernel_rfl) rfl (PQ.then_ (PQ.then_ (PQ.inB (PQ.then_ (PQ.then_ (PQ.inB (PQ.then_ (PQ.inB (PQ.then_ (PQ.then_ (PQ.inB (PQ.then_ (PQ.then_ PQ.body))))))))))))) (Wt.yes rfl rfl rfl hk15879) (Val.loadsB 1 (cs := [.int .i64 y15586.f0, .int .i64 y15586.f1, .int .i64 y15586.f2, .int .i64 y15586.f3, .int .i64 y15586.f4, .slice A15595 y15586.f5.length c15596]) agg30 fsz30 rfl rfl rfl rfl) (fun W hO => hO) ?_
               refine TA.take 11 rfl (by kernel_rfl) rfl (PQ.then_ (PQ.then_ (PQ.inB (PQ.then_ (PQ.then_ (PQ.inB (PQ.then_ (PQ.inB (PQ.then_ (PQ.then_ (PQ.inB (PQ.then_ (PQ.then_ PQ.body))))))))))))) (Wt.yes rfl rfl rfl hk15879) (Val.loadsB 0 (cs := [.int .i64 y15613.f0, .int .i64 y15613.f1, .int .i64 y15613.f2, .int .i64 y15613.f3, .int .i64 y15613.f4, .slice A15622 y15613.f5.length c15623]) agg30 fsz30 rfl rfl rfl rfl) (fun W hO => hO) ?_
               obtain ⟨y15880, hy15881, h⟩ := bind_no h
               refine TA.eff 12 rfl (by kernel_rfl) rfl (TL.callV (Lin := []) (args := [.agg #[.int .i64 y15586.f0, .int .i64 y15586.f1, .int .i64 y15586.f2, .int .i64 y15586.f3, .int .i64 y15586.f4, .slice A15595 y15586.f5.length c15596], .agg #[.int .i64 y15613.f0, .int .i64 y15613.f1, .int .i64 y15613.f2, .int .i64 y15613.f3, .int .i64 y15613.f4, .slice A15622 y15613.f5.length c15623]]) (Wt.yes rfl rfl rfl hk15879) rfl rfl hbd21 rfl rfl (swageref14_SameOp.calls (a0 := y15586) (a1 := y15613) hr15597 hl15598 hr15624 hl15625 hy15881) rfl ?_)
               rintro _ _ _ _ ⟨rfl, rfl, rfl⟩
               refine TA.next (fun W hO => hO) ?_
               refine TA.take 13 rfl (by kernel_rfl) rfl (PQ.then_ (PQ.then_ (PQ.inB (PQ.then_ (PQ.then_ (PQ.inB (PQ.then_ (PQ.inB (PQ.then_ (PQ.then_ (PQ.inB (PQ.then_ (PQ.then_ PQ.body))))))))))))) (Wt.yes rfl rfl rfl hk15879) (Val.not_ rfl) (fun W hO => hO) ?_
               refine TA.take 14 rfl (by kernel_rfl) rfl (PQ.then_ (PQ.then_ (PQ.inB (PQ.then_ (PQ.then_ (PQ.inB (PQ.then_ (PQ.inB (PQ.then_ (PQ.then_ (PQ.inB (PQ.then_ (PQ.then_ PQ.body))))))))))))) (Wt.yes rfl rfl rfl hk15877) (Val.pickY rfl hk15879 rfl) (fun W hO => hO) ?_
               refine TA.take 15 rfl (by kernel_rfl) rfl (PQ.then_ (PQ.then_ (PQ.inB (PQ.then_ (PQ.then_ (PQ.inB (PQ.then_ (PQ.inB (PQ.then_ (PQ.then_ (PQ.inB (PQ.then_ (PQ.then_ PQ.body))))))))))))) rfl (Val.pickN rfl hk15877 rfl) (fun W hO => hO) ?_
               refine TA.take 16 rfl (by kernel_rfl) rfl (PQ.then_ (PQ.then_ (PQ.inB (PQ.then_ (PQ.then_ (PQ.inB (PQ.then_ (PQ.inB (PQ.then_ (PQ.then_ (PQ.inB (PQ.then_ (PQ.then_ PQ.body))))))))))))) rfl (Val.move rfl) (fun W hO => hO) ?_
               refine TK.split (p := (!y15880) = true) h (fun hg15882 h => ?_) (fun hg15882 h => ?_)
               ·
                have hk15883 : (!y15880) = true := hg15882
                refine TA.not 17 rfl (by kernel_rfl) rfl (PQ.then_ (PQ.then_ (PQ.inB (PQ.then_ (PQ.then_ (PQ.inB (PQ.then_ (PQ.inB (PQ.then_ (PQ.then_ (PQ.inB (PQ.then_ (PQ.then_ PQ.body))))))))))))) (Wt.no rfl rfl rfl hk15883) (fun W hO => hO) ?_
                refine TA.not 18 rfl (by kernel_rfl) rfl (PQ.then_ (PQ.then_ (PQ.inB (PQ.then_ (PQ.then_ (PQ.inB (PQ.then_ (PQ.inB (PQ.then_ (PQ.then_ (PQ.inB (PQ.then_ (PQ.then_ PQ.body))))))))))))) (Wt.no rfl rfl rfl hk15883) (fun W hO => hO) ?_
                refine TA.not 19 rfl (by kernel_rfl) rfl (PQ.then_ (PQ.then_ (PQ.inB (PQ.then_ (PQ.then_ (PQ.inB (PQ.then_ (PQ.inB (PQ.then_ (PQ.then_ (PQ.inB (PQ.then_ (PQ.then_ PQ.body))))))))))))) (Wt.no rfl rfl rfl hk15883) (fun W hO => hO) ?_
                refine TA.not 20 rfl (by kernel_rfl) rfl (PQ.then_ (PQ.then_ (PQ.inB (PQ.then_ (PQ.then_ (PQ.inB (PQ.then_ (PQ.inB (PQ.then_ (PQ.then_ (PQ.inB (PQ.then_ (PQ.then_ PQ.body))))))))))))) (Wt.no rfl rfl rfl hk15883) (fun W hO => hO) ?_
                refine TA.not 21 rfl (by kernel_rfl) rfl (PQ.then_ (PQ.then_ (PQ.inB (PQ.then_ (PQ.then_ (PQ.inB (PQ.then_ (PQ.inB (PQ.then_ (PQ.then_ (PQ.inB (PQ.then_ (PQ.then_ PQ.body))))))))))))) rfl (fun W hO => hO) ?_
                refine TA.not 22 rfl (by kernel_rfl) rfl (PQ.then_ (PQ.then_ (PQ.inB (PQ.then_ (PQ.then_ (PQ.inB (PQ.then_ (PQ.inB (PQ.then_ (PQ.then_ (PQ.inB (PQ.then_ (PQ.then_ PQ.body))))))))))))) rfl (fun W hO => hO) ?_
                refine TA.not 23 rfl (by kernel_rfl) rfl (PQ.then_ (PQ.then_ (PQ.inB (PQ.then_ (PQ.then_ (PQ.inB (PQ.then_ (PQ.inB (PQ.then_ (PQ.then_ (PQ.inB (PQ.then_ (PQ.then_ PQ.body))))))))))))) rfl (fun W hO => hO) ?_
                refine TA.not 24 rfl (by kernel_rfl) rfl (PQ.then_ (PQ.then_ (PQ.inB (PQ.then_ (PQ.then_ (PQ.inB (PQ.then_ (PQ.inB (PQ.then_ (PQ.then_ (PQ.inB (PQ.then_ (PQ.then_ PQ.body))))))))))))) (Wt.no rfl rfl rfl hk15883) (fun W hO => hO) ?_
                refine TA.not 25 rfl (by kernel_rfl) rfl (PQ.then_ (PQ.then_ (PQ.inB (PQ.then_ (PQ.then_ (PQ.inB (PQ.then_ (PQ.inB (PQ.then_ (PQ.then_ (PQ.inB (PQ.then_ (PQ.then_ PQ.body))))))))))))) (Wt.no rfl rfl rfl hk15883) (fun W hO => hO) ?_
                refine TA.not 26 rfl (by kernel_rfl) rfl (PQ.then_ (PQ.then_ (PQ.inB (PQ.then_ (PQ.then_ (PQ.inB (PQ.then_ (PQ.inB (PQ.then_ (PQ.then_ (PQ.inB (PQ.then_ (PQ.then_ PQ.body))))))))))))) rfl (fun W hO => hO) ?_
                refine TA.not 27 rfl (by kernel_rfl) rfl (PQ.then_ (PQ.then_ (PQ.inB (PQ.then_ (PQ.then_ (PQ.inB (PQ.then_ (PQ.inB (PQ.then_ (PQ.then_ (PQ.inB (PQ.then_ (PQ.then_ PQ.body))))))))))))) rfl (fun W hO => hO) ?_
                refine TA.not 28 rfl (by kernel_rfl) rfl (PQ.then_ (PQ.then_ (PQ.inB (PQ.then_ (PQ.then_ (PQ.inB (PQ.then_ (PQ.inB (PQ.then_ (PQ.then_ (PQ.inB (PQ.then_ (PQ.then_ PQ.body))))))))))))) rfl (fun W hO => hO) ?_
                refine TA.not 29 rfl (by kernel_rfl) rfl (PQ.then_ (PQ.then_ (PQ.inB (PQ.then_ (PQ.then_ (PQ.inB (PQ.then_ (PQ.inB (PQ.then_ (PQ.then_ (PQ.inB (PQ.then_ (PQ.then_ PQ.body))))))))))))) rfl (fun W hO => hO) ?_
                refine TA.not 30 rfl (by kernel_rfl) rfl (PQ.then_ (PQ.then_ (PQ.inB (PQ.then_ (PQ.then_ (PQ.inB (PQ.then_ (PQ.inB (PQ.then_ (PQ.then_ (PQ.inB (PQ.then_ (PQ.then_ PQ.body))))))))))))) rfl (fun W hO => hO) ?_
                refine TA.not 31 rfl (by kernel_rfl) rfl (PQ.then_ (PQ.then_ (PQ.inB (PQ.then_ (PQ.then_ (PQ.inB (PQ.then_ (PQ.inB (PQ.then_ (PQ.then_ (PQ.inB (PQ.then_ (PQ.then_ PQ.body))))))))))))) (Wt.no rfl rfl rfl hk15883) (fun W hO => hO) ?_
                refine TA.take 32 rfl (by kernel_rfl) rfl (PQ.then_ (PQ.then_ (PQ.inB (PQ.then_ (PQ.then_ (PQ.inB (PQ.then_ (PQ.inB (PQ.then_ (PQ.then_ (PQ.inB (PQ.then_ (PQ.then_ PQ.body))))))))))))) rfl (Val.pickY rfl hk15883 rfl) (fun W hO => hO) ?_
                refine TA.take 33 rfl (by kernel_rfl) rfl (PQ.then_ (PQ.then_ (PQ.inB (PQ.then_ (PQ.then_ (PQ.inB (PQ.then_ (PQ.inB (PQ.then_ (PQ.then_ (PQ.inB (PQ.then_ (PQ.then_ PQ.body))))))))))))) rfl (Val.move rfl) (fun W hO => hO) ?_
                refine TA.not 34 rfl (by kernel_rfl) rfl (PQ.then_ (PQ.then_ (PQ.inB (PQ.then_ (PQ.then_ (PQ.inB (PQ.then_ (PQ.inB (PQ.then_ (PQ.then_ (PQ.inB (PQ.then_ (PQ.then_ PQ.body))))))))))))) (Wt.no rfl rfl rfl rfl) (fun W hO => hO) ?_
                refine TA.not 35 rfl (by kernel_rfl) rfl (PQ.then_ (PQ.then_ (PQ.inB (PQ.then_ (PQ.then_ (PQ.inB (PQ.then_ (PQ.inB (PQ.then_ (PQ.then_ (PQ.inB (PQ.then_ (PQ.then_ PQ.body))))))))))))) (Wt.no rfl rfl rfl rfl) (fun W hO => hO) ?_
                refine TA.not 36 rfl (by kernel_rfl) rfl (PQ.then_ (PQ.then_ (PQ.inB (PQ.then_ (PQ.then_ (PQ.inB (PQ.then_ (PQ.inB (PQ.then_ (PQ.then_ (PQ.inB (PQ.then_ (PQ.then_ PQ.body))))))))))))) (Wt.no rfl rfl rfl rfl) (fun W hO => hO) ?_
                refine TA.not 37 rfl (by kernel_rfl) rfl (PQ.then_ (PQ.then_ (PQ.inB (PQ.then_ (PQ.then_ (PQ.inB (PQ.then_ (PQ.inB (PQ.then_ (PQ.then_ (PQ.inB (PQ.then_ (PQ.then_ PQ.body))))))))))))) rfl (fun W hO => hO) ?_
                refine TA.not 38 rfl (by kernel_rfl) rfl (PQ.then_ (PQ.then_ (PQ.inB (PQ.then_ (PQ.then_ (PQ.inB (PQ.then_ (PQ.inB (PQ.then_ (PQ.then_ (PQ.inB (PQ.then_ (PQ.then_ PQ.body))))))))))))) rfl (fun W hO => hO) ?_
                refine TA.not 39 rfl (by kernel_rfl) rfl (PQ.then_ (PQ.then_ (PQ.inB (PQ.then_ (PQ.then_ (PQ.inB (PQ.then_ (PQ.inB (PQ.then_ (PQ.then_ (PQ.inB (PQ.then_ (PQ.then_ PQ.body))))))))))))) rfl (fun W hO => hO) ?_
                refine TA.not 40 rfl (by kernel_rfl) rfl (PQ.then_ (PQ.then_ (PQ.inB (PQ.then_ (PQ.then_ (PQ.inB (PQ.then_ (PQ.inB (PQ.then_ (PQ.then_ (PQ.inB (PQ.then_ (PQ.then_ PQ.body))))))))))))) (Wt.no rfl rfl rfl rfl) (fun W hO => hO) ?_
                refine TA.take 41 rfl (by kernel_rfl) rfl (PQ.then_ (PQ.then_ (PQ.inB (PQ.then_ (PQ.then_ (PQ.inB (PQ.then_ (PQ.inB (PQ.then_ (PQ.then_ (PQ.inB (PQ.then_ (PQ.then_ PQ.body))))))))))))) rfl (Val.pickY rfl rfl rfl) (fun W hO => hO) ?_
                refine TA.done (by kernel_rfl) ?_
                exact fun a W hF hO => ⟨true, G13711, h, e13712, hr13714, hF.sub ⟨rfl, rfl, rfl, rfl, rfl, rfl, trivial⟩, hO.selT (Ls := [Blk b30 [.int .i64 y23.f0, .slice A5197 y23.f1.length c5198] 36, Blk b5 [.int .i64 a0.f0, .slice A1 a0.f1.length c2] 36]) [2, 3] 4 rfl rfl rfl⟩
               ·
                have hk15884 : (!y15880) = false := (by simpa using hg15882)
                refine TA.take 17 rfl (by kernel_rfl) rfl (PQ.then_ (PQ.then_ (PQ.inB (PQ.then_ (PQ.then_ (PQ.inB (PQ.then_ (PQ.inB (PQ.then_ (PQ.then_ (PQ.inB (PQ.then_ (PQ.then_ PQ.body))))))))))))) (Wt.yes rfl rfl rfl hk15884) (Val.loadsB 1 (cs := [.int .i64 y15586.f0, .int .i64 y15586.f1, .int .i64 y15586.f2, .int .i64 y15586.f3, .int .i64 y15586.f4, .slice A15595 y15586.f5.length c15596]) agg30 fsz30 rfl rfl rfl rfl) (fun W hO => hO) ?_
                obtain ⟨y15885, hy15886, h⟩ := bind_no h
                refine TA.eff 18 rfl (by kernel_rfl) rfl (TL.callV (Lin := []) (args := [.agg #[.int .i64 y15586.f0, .int .i64 y15586.f1, .int .i64 y15586.f2, .int .i64 y15586.f3, .int .i64 y15586.f4, .slice A15595 y15586.f5.length c15596]]) (Wt.yes rfl rfl rfl hk15884) rfl rfl hbd32 rfl rfl (code_Pure.calls (a0 := y15586) hr15597 hl15598 hy15886) rfl ?_)
                rintro _ _ _ _ ⟨rfl, rfl, rfl⟩
                refine TA.next (fun W hO => hO) ?_
                refine TA.take 19 rfl (by kernel_rfl) rfl (PQ.then_ (PQ.then_ (PQ.inB (PQ.then_ (PQ.then_ (PQ.inB (PQ.then_ (PQ.inB (PQ.then_ (PQ.then_ (PQ.inB (PQ.then_ (PQ.then_ PQ.body))))))))))))) (Wt.yes rfl rfl rfl hk15884) (Val.not_ rfl) (fun W hO => hO) ?_
                refine TA.take 20 rfl (by kernel_rfl) rfl (PQ.then_ (PQ.then_ (PQ.inB (PQ.then_ (PQ.then_ (PQ.inB (PQ.then_ (PQ.inB (PQ.then_ (PQ.then_ (PQ.inB (PQ.then_ (PQ.then_ PQ.body))))))))))))) (Wt.yes rfl rfl rfl hk15884) (Val.move rfl) (fun W hO => hO) ?_
                refine TK.split (p := (!y15885) = true) h (fun hg15887 h => ?_) (fun hg15887 h => ?_)
                ·
                 have hk15888 : (!y15885) = true := hg15887
                 refine TA.take 21 rfl (by kernel_rfl) rfl (PQ.then_ (PQ.then_ (PQ.inB (PQ.then_ (PQ.then_ (PQ.inB (PQ.then_ (PQ.inB (PQ.then_ (PQ.then_ (PQ.inB (PQ.then_ (PQ.then_ PQ.body))))))))))))) (Wt.yes rfl rfl rfl hk15888) (Val.fieldAddrB Try.underlying30 rfl fsz3 rfl rfl rfl) (fun W hO => hO) ?_
                 refine TA.take 22 rfl (by kernel_rfl) rfl (PQ.then_ (PQ.then_ (PQ.inB (PQ.then_ (PQ.then_ (PQ.inB (PQ.then_ (PQ.inB (PQ.then_ (PQ.then_ (PQ.inB (PQ.then_ (PQ.then_ PQ.body))))))))))))) (Wt.yes rfl rfl rfl hk15888) (Val.loadB 1 agg3 rfl rfl rfl) (fun W hO => hO) ?_
                 refine TA.take 23 rfl (by kernel_rfl) rfl (PQ.then_ (PQ.then_ (PQ.inB (PQ.then_ (PQ.then_ (PQ.inB (PQ.then_ (PQ.inB (PQ.then_ (PQ.then_ (PQ.inB (PQ.then_ (PQ.then_ PQ.body))))))))))))) (Wt.yes rfl rfl rfl hk15888) (Val.cmp rfl rfl run_neq) (fun W hO => hO) ?_
                 refine TA.take 24 rfl (by kernel_rfl) rfl (PQ.then_ (PQ.then_ (PQ.inB (PQ.then_ (PQ.then_ (PQ.inB (PQ.then_ (PQ.inB (PQ.then_ (PQ.then_ (PQ.inB (PQ.then_ (PQ.then_ PQ.body))))))))))))) (Wt.yes rfl rfl rfl hk15884) (Val.pickY rfl hk15888 rfl) (fun W hO => hO) ?_
                 refine TA.take 25 rfl (by kernel_rfl) rfl (PQ.then_ (PQ.then_ (PQ.inB (PQ.then_ (PQ.then_ (PQ.inB (PQ.then_ (PQ.inB (PQ.then_ (PQ.then_ (PQ.inB (PQ.then_ (PQ.then_ PQ.body))))))))))))) (Wt.yes rfl rfl rfl hk15884) (Val.move rfl) (fun W hO => hO) ?_
                 refine TK.split (p := (!decide (y15586.f0 = 2)) = true) h (fun hg15889 h => ?_) (fun hg15889 h => ?_)
                 ·
                  have hk15890 : (!decide (y15586.f0 = 2)) = true := hg15889
                  refine TA.take 26 rfl (by kernel_rfl) rfl (PQ.then_ (PQ.then_ (PQ.inB (PQ.then_ (PQ.then_ (PQ.inB (PQ.then_ (PQ.inB (PQ.then_ (PQ.then_ (PQ.inB (PQ.then_ (PQ.then_ PQ.body))))))))))))) (Wt.yes rfl rfl rfl hk15890) (Val.fieldAddrB Try.underlying30 rfl fsz3 rfl rfl rfl) (fun W hO => hO) ?_
                  refine TA.take 27 rfl (by kernel_rfl) rfl (PQ.then_ (PQ.then_ (PQ.inB (PQ.then_ (PQ.then_ (PQ.inB (PQ.then_ (PQ.inB (PQ.then_ (PQ.then_ (PQ.inB (PQ.then_ (PQ.then_ PQ.body))))))))))))) (Wt.yes rfl rfl rfl hk15890) (Val.loadB 1 agg3 rfl rfl rfl) (fun W hO => hO) ?_
                  refine TA.take 28 rfl (by kernel_rfl) rfl (PQ.then_ (PQ.then_ (PQ.inB (PQ.then_ (PQ.then_ (PQ.inB (PQ.then_ (PQ.inB (PQ.then_ (PQ.then_ (PQ.inB (PQ.then_ (PQ.then_ PQ.body))))))))))))) (Wt.yes rfl rfl rfl hk15890) (Val.fieldAddrB Try.underlying30 rfl fsz3 rfl rfl rfl) (fun W hO => hO) ?_
                  refine TA.take 29 rfl (by kernel_rfl) rfl (PQ.then_ (PQ.then_ (PQ.inB (PQ.then_ (PQ.then_ (PQ.inB (PQ.then_ (PQ.inB (PQ.then_ (PQ.then_ (PQ.inB (PQ.then_ (PQ.then_ PQ.body))))))))))))) (Wt.yes rfl rfl rfl hk15890) (Val.loadB 0 agg3 rfl rfl rfl) (fun W hO => hO) ?_
                  refine TA.take 30 rfl (by kernel_rfl) rfl (PQ.then_ (PQ.then_ (PQ.inB (PQ.then_ (PQ.then_ (PQ.inB (PQ.then_ (PQ.inB (PQ.then_ (PQ.then_ (PQ.inB (PQ.then_ (PQ.then_ PQ.body))))))))))))) (Wt.yes rfl rfl rfl hk15890) (Val.cmp rfl rfl run_neq) (fun W hO => hO) ?_
                  refine TA.take 31 rfl (by kernel_rfl) rfl (PQ.then_ (PQ.then_ (PQ.inB (PQ.then_ (PQ.then_ (PQ.inB (PQ.then_ (PQ.inB (PQ.then_ (PQ.then_ (PQ.inB (PQ.then_ (PQ.then_ PQ.body))))))))))))) (Wt.yes rfl rfl rfl hk15884) (Val.pickY rfl hk15890 rfl) (fun W hO => hO) ?_
                  refine TA.take 32 rfl (by kernel_rfl) rfl (PQ.then_ (PQ.then_ (PQ.inB (PQ.then_ (PQ.then_ (PQ.inB (PQ.then_ (PQ.inB (PQ.then_ (PQ.then_ (PQ.inB (PQ.then_ (PQ.then_ PQ.body))))))))))))) rfl (Val.pickN rfl hk15884 rfl) (fun W hO => hO) ?_
                  refine TA.take 33 rfl (by kernel_rfl) rfl (PQ.then_ (PQ.then_ (PQ.inB (PQ.then_ (PQ.then_ (PQ.inB (PQ.then_ (PQ.inB (PQ.then_ (PQ.then_ (PQ.inB (PQ.then_ (PQ.then_ PQ.body))))))))))))) rfl (Val.move rfl) (fun W hO => hO) ?_
                  refine TK.split (p := (!decide (y15586.f0 = y15613.f0)) = true) h (fun hg15891 h => ?_) (fun hg15891 h => ?_)
                  ·
                   have hk15892 : (!decide (y15586.f0 = y15613.f0)) = true := hg15891
                   refine TA.not 34 rfl (by kernel_rfl) rfl (PQ.then_ (PQ.then_ (PQ.inB (PQ.then_ (PQ.then_ (PQ.inB (PQ.then_ (PQ.inB (PQ.then_ (PQ.then_ (PQ.inB (PQ.then_ (PQ.then_ PQ.body))))))))))))) (Wt.no rfl rfl rfl hk15892) (fun W hO => hO) ?_
                   refine TA.not 35 rfl (by kernel_rfl) rfl (PQ.then_ (PQ.then_ (PQ.inB (PQ.then_ (PQ.then_ (PQ.inB (PQ.then_ (PQ.inB (PQ.then_ (PQ.then_ (PQ.inB (PQ.then_ (PQ.then_ PQ.body))))))))))))) (Wt.no rfl rfl rfl hk15892) (fun W hO => hO) ?_
                   refine TA.not 36 rfl (by kernel_rfl) rfl (PQ.then_ (PQ.then_ (PQ.inB (PQ.then_ (PQ.then_ (PQ.inB (PQ.then_ (PQ.inB (PQ.then_ (PQ.then_ (PQ.inB (PQ.then_ (PQ.then_ PQ.body))))))))))))) (Wt.no rfl rfl rfl hk15892) (fun W hO => hO) ?_
                   refine TA.not 37 rfl (by kernel_rfl) rfl (PQ.then_ (PQ.then_ (PQ.inB (PQ.then_ (PQ.then_ (PQ.inB (PQ.then_ (PQ.inB (PQ.then_ (PQ.then_ (PQ.inB (PQ.then_ (PQ.then_ PQ.body))))))))))))) rfl (fun W hO => hO) ?_
                   refine TA.not 38 rfl (by kernel_rfl) rfl (PQ.then_ (PQ.then_ (PQ.inB (PQ.then_ (PQ.then_ (PQ.inB (PQ.then_ (PQ.inB (PQ.then_ (PQ.then_ (PQ.inB (PQ.then_ (PQ.then_ PQ.body))))))))))))) rfl (fun W hO => hO) ?_
                   refine TA.not 39 rfl (by kernel_rfl) rfl (PQ.then_ (PQ.then_ (PQ.inB (PQ.then_ (PQ.then_ (PQ.inB (PQ.then_ (PQ.inB (PQ.then_ (PQ.then_ (PQ.inB (PQ.then_ (PQ.then_ PQ.body))))))))))))) rfl (fun W hO => hO) ?_
                   refine TA.not 40 rfl (by kernel_rfl) rfl (PQ.then_ (PQ.then_ (PQ.inB (PQ.then_ (PQ.then_ (PQ.inB (PQ.then_ (PQ.inB (PQ.then_ (PQ.then_ (PQ.inB (PQ.then_ (PQ.then_ PQ.body))))))))))))) (Wt.no rfl rfl rfl hk15892) (fun W hO => hO) ?_
                   refine TA.take 41 rfl (by kernel_rfl) rfl (PQ.then_ (PQ.then_ (PQ.inB (PQ.then_ (PQ.then_ (PQ.inB (PQ.then_ (PQ.inB (PQ.then_ (PQ.then_ (PQ.inB (PQ.then_ (PQ.then_ PQ.body))))))))))))) rfl (Val.pickY rfl hk15892 rfl) (fun W hO => hO) ?_
                   refine TA.done (by kernel_rfl) ?_
                   exact fun a W hF hO => ⟨true, G13711, h, e13712, hr13714, hF.sub ⟨rfl, rfl, rfl, rfl, rfl, rfl, trivial⟩, hO.selT (Ls := [Blk b30 [.int .i64 y23.f0, .slice A5197 y23.f1.length c5198] 36, Blk b5 [.int .i64 a0.f0, .slice A1 a0.f1.length c2] 36]) [2, 3] 4 rfl rfl rfl⟩
                  ·
                   have hk15893 : (!decide (y15586.f0 = y15613.f0)) = false := (by simpa using hg15891)
                   refine TA.take 34 rfl (by kernel_rfl) rfl (PQ.then_ (PQ.then_ (PQ.inB (PQ.then_ (PQ.then_ (PQ.inB (PQ.then_ (PQ.inB (PQ.then_ (PQ.then_ (PQ.inB (PQ.then_ (PQ.then_ PQ.body))))))))))))) (Wt.yes rfl rfl rfl hk15893) (Val.loadsB 1 (cs := [.int .i64 y15586.f0, .int .i64 y15586.f1, .int .i64 y15586.f2, .int .i64 y15586.f3, .int .i64 y15586.f4, .slice A15595 y15586.f5.length c15596]) agg30 fsz30 rfl rfl rfl rfl) (fun W hO => hO) ?_
                   obtain ⟨y15894, hy15895, h⟩ := bind_no h
                   refine TA.eff 35 rfl (by kernel_rfl) rfl (TL.callV (Lin := []) (args := [.agg #[.int .i64 y15586.f0, .int .i64 y15586.f1, .int .i64 y15586.f2, .int .i64 y15586.f3, .int .i64 y15586.f4, .slice A15595 y15586.f5.length c15596]]) (Wt.yes rfl rfl rfl hk15893) rfl rfl hbd32 rfl rfl (code_Pure.calls (a0 := y15586) hr15597 hl15598 hy15895) rfl ?_)
                   rintro _ _ _ _ ⟨rfl, rfl, rfl⟩
                   refine TA.next (fun W hO => hO) ?_
                   refine TA.take 36 rfl (by kernel_rfl) rfl (PQ.then_ (PQ.then_ (PQ.inB (PQ.then_ (PQ.then_ (PQ.inB (PQ.then_ (PQ.inB (PQ.then_ (PQ.then_ (PQ.inB (PQ.then_ (PQ.then_ PQ.body))))))))))))) (Wt.yes rfl rfl rfl hk15893) (Val.move rfl) (fun W hO => hO) ?_
                   refine TK.split (p := y15894 = true) h (fun hg15896 h => ?_) (fun hg15896 h => ?_)
                   ·
                    have hk15897 : y15894 = true := hg15896
                    refine TA.take 37 rfl (by kernel_rfl) rfl (PQ.then_ (PQ.then_ (PQ.inB (PQ.then_ (PQ.then_ (PQ.inB (PQ.then_ (PQ.inB (PQ.then_ (PQ.then_ (PQ.inB (PQ.then_ (PQ.then_ PQ.body))))))))))))) (Wt.yes rfl rfl rfl hk15897) (Val.loadsB 0 (cs := [.int .i64 y15613.f0, .int .i64 y15613.f1, .int .i64 y15613.f2, .int .i64 y15613.f3, .int .i64 y15613.f4, .slice A15622 y15613.f5.length c15623]) agg30 fsz30 rfl rfl rfl rfl) (fun W hO => hO) ?_
                    obtain ⟨y15898, hy15899, h⟩ := bind_no h
                    refine TA.eff 38 rfl (by kernel_rfl) rfl (TL.callV (Lin := []) (args := [.agg #[.int .i64 y15613.f0, .int .i64 y15613.f1, .int .i64 y15613.f2, .int .i64 y15613.f3, .int .i64 y15613.f4, .slice A15622 y15613.f5.length c15623]]) (Wt.yes rfl rfl rfl hk15897) rfl rfl hbd32 rfl rfl (code_Pure.calls (a0 := y15613) hr15624 hl15625 hy15899) rfl ?_)
                    rintro _ _ _ _ ⟨rfl, rfl, rfl⟩
                    refine TA.next (fun W hO => hO) ?_
                    refine TA.take 39 rfl (by kernel_rfl) rfl (PQ.then_ (PQ.then_ (PQ.inB (PQ.then_ (PQ.then_ (PQ.inB (PQ.then_ (PQ.inB (PQ.then_ (PQ.then_ (PQ.inB (PQ.then_ (PQ.then_ PQ.body))))))))))))) (Wt.yes rfl rfl rfl hk15897) (Val.not_ rfl) (fun W hO => hO) ?_
                    refine TA.take 40 rfl (by kernel_rfl) rfl (PQ.then_ (PQ.then_ (PQ.inB (PQ.then_ (PQ.then_ (PQ.inB (PQ.then_ (PQ.inB (PQ.then_ (PQ.then_ (PQ.inB (PQ.then_ (PQ.then_ PQ.body))))))))))))) (Wt.yes rfl rfl rfl hk15893) (Val.pickY rfl hk15897 rfl) (fun W hO => hO) ?_
                    refine TA.take 41 rfl (by kernel_rfl) rfl (PQ.then_ (PQ.then_ (PQ.inB (PQ.then_ (PQ.then_ (PQ.inB (PQ.then_ (PQ.inB (PQ.then_ (PQ.then_ (PQ.inB (PQ.then_ (PQ.then_ PQ.body))))))))))))) rfl (Val.pickN rfl hk15893 rfl) (fun W hO => hO) ?_
                    refine TA.done (by kernel_rfl) ?_
                    exact fun a W hF hO => ⟨(!y15898), G13711, h, e13712, hr13714, hF.sub ⟨rfl, rfl, rfl, rfl, rfl, rfl, trivial⟩, hO.selT (Ls := [Blk b30 [.int .i64 y23.f0, .slice A5197 y23.f1.length c5198] 36, Blk b5 [.int .i64 a0.f0, .slice A1 a0.f1.length c2] 36]) [2, 3] 4 rfl rfl rfl⟩
                   ·
                    have hk15900 : y15894 = false := (by simpa using hg15896)
                    refine TA.not 37 rfl (by kernel_rfl) rfl (PQ.then_ (PQ.then_ (PQ.inB (PQ.then_ (PQ.then_ (PQ.inB (PQ.then_ (PQ.inB (PQ.then_ (PQ.then_ (PQ.inB (PQ.then_ (PQ.then_ PQ.body))))))))))))) (Wt.no rfl rfl rfl hk15900) (fun W hO => hO) ?_
                    refine TA.not 38 rfl (by kernel_rfl) rfl (PQ.then_ (PQ.then_ (PQ.inB (PQ.then_ (PQ.then_ (PQ.inB (PQ.then_ (PQ.inB (PQ.then_ (PQ.then_ (PQ.inB (PQ.then_ (PQ.then_ PQ.body))))))))))))) (Wt.no rfl rfl rfl hk15900) (fun W hO => hO) ?_
                    refine TA.not 39 rfl (by kernel_rfl) rfl (PQ.then_ (PQ.then_ (PQ.inB (PQ.then_ (PQ.then_ (PQ.inB (PQ.then_ (PQ.inB (PQ.then_ (PQ.then_ (PQ.inB (PQ.then_ (PQ.then_ PQ.body))))))))))))) (Wt.no rfl rfl rfl hk15900) (fun W hO => hO) ?_
                    refine TA.take 40 rfl (by kernel_rfl) rfl (PQ.then_ (PQ.then_ (PQ.inB (PQ.then_ (PQ.then_ (PQ.inB (PQ.then_ (PQ.inB (PQ.then_ (PQ.then_ (PQ.inB (PQ.then_ (PQ.then_ PQ.body))))))))))))) (Wt.yes rfl rfl rfl hk15893) (Val.pickN rfl hk15900 rfl) (fun W hO => hO) ?_
                    refine TA.take 41 rfl (by kernel_rfl) rfl (PQ.then_ (PQ.then_ (PQ.inB (PQ.then_ (PQ.then_ (PQ.inB (PQ.then_ (PQ.inB (PQ.then_ (PQ.then_ (PQ.inB (PQ.then_ (PQ.then_ PQ.body))))))))))))) rfl (Val.pickN rfl hk15893 rfl) (fun W hO => hO) ?_
                    refine TA.done (by kernel_rfl) ?_
                    exact fun a W hF hO => ⟨false, G13711, h, e13712, hr13714, hF.sub ⟨rfl, rfl, rfl, rfl, rfl, rfl, trivial⟩, hO.selT (Ls := [Blk b30 [.int .i64 y23.f0, .slice A5197 y23.f1.length c5198] 36, Blk b5 [.int .i64 a0.f0, .slice A1 a0.f1.length c2] 36]) [2, 3] 4 rfl rfl rfl⟩
                 ·
                  have hk15901 : (!decide (y15586.f0 = 2)) = false := (by simpa using hg15889)
                  refine TA.not 26 rfl (by kernel_rfl) rfl (PQ.then_ (PQ.then_ (PQ.inB (PQ.then_ (PQ.then_ (PQ.inB (PQ.then_ (PQ.inB (PQ.then_ (PQ.then_ (PQ.inB (PQ.then_ (PQ.then_ PQ.body))))))))))))) (Wt.no rfl rfl rfl hk15901) (fun W hO => hO) ?_
                  refine TA.not 27 rfl (by kernel_rfl) rfl (PQ.then_ (PQ.then_ (PQ.inB (PQ.then_ (PQ.then_ (PQ.inB (PQ.then_ (PQ.inB (PQ.then_ (PQ.then_ (PQ.inB (PQ.then_ (PQ.then_ PQ.body))))))))))))) (Wt.no rfl rfl rfl hk15901) (fun W hO => hO) ?_
                  refine TA.not 28 rfl (by kernel_rfl) rfl (PQ.then_ (PQ.then_ (PQ.inB (PQ.then_ (PQ.then_ (PQ.inB (PQ.then_ (PQ.inB (PQ.then_ (PQ.then_ (PQ.inB (PQ.then_ (PQ.then_ PQ.body))))))))))))) (Wt.no rfl rfl rfl hk15901) (fun W hO => hO) ?_
                  refine TA.not 29 rfl (by kernel_rfl) rfl (PQ.then_ (PQ.then_ (PQ.inB (PQ.then_ (PQ.then_ (PQ.inB (PQ.then_ (PQ.inB (PQ.then_ (PQ.then_ (PQ.inB (PQ.then_ (PQ.then_ PQ.body))))))))))))) (Wt.no rfl rfl rfl hk15901) (fun W hO => hO) ?_
                  refine TA.not 30 rfl (by kernel_rfl) rfl (PQ.then_ (PQ.then_ (PQ.inB (PQ.then_ (PQ.then_ (PQ.inB (PQ.then_ (PQ.inB (PQ.then_ (PQ.then_ (PQ.inB (PQ.then_ (PQ.then_ PQ.body))))))))))))) (Wt.no rfl rfl rfl hk15901) (fun W hO => hO) ?_
                  refine TA.take 31 rfl (by kernel_rfl) rfl (PQ.then_ (PQ.then_ (PQ.inB (PQ.then_ (PQ.then_ (PQ.inB (PQ.then_ (PQ.inB (PQ.then_ (PQ.then_ (PQ.inB (PQ.then_ (PQ.then_ PQ.body))))))))))))) (Wt.yes rfl rfl rfl hk15884) (Val.pickN rfl hk15901 rfl) (fun W hO => hO) ?_
                  refine TA.take 32 rfl (by kernel_rfl) rfl (PQ.then_ (PQ.then_ (PQ.inB (PQ.then_ (PQ.then_ (PQ.inB (PQ.then_ (PQ.inB (PQ.then_ (PQ.then_ (PQ.inB (PQ.then_ (PQ.then_ PQ.body))))))))))))) rfl (Val.pickN rfl hk15884 rfl) (fun W hO => hO) ?_
                  refine TA.take 33 rfl (by kernel_rfl) rfl (PQ.then_ (PQ.then_ (PQ.inB (PQ.then_ (PQ.then_ (PQ.inB (PQ.then_ (PQ.inB (PQ.then_ (PQ.then_ (PQ.inB (PQ.then_ (PQ.then_ PQ.body))))))))))))) rfl (Val.move rfl) (fun W hO => hO) ?_
                  refine TA.take 34 rfl (by kernel_rfl) rfl (PQ.then_ (PQ.then_ (PQ.inB (PQ.then_ (PQ.then_ (PQ.inB (PQ.then_ (PQ.inB (PQ.then_ (PQ.then_ (PQ.inB (PQ.then_ (PQ.then_ PQ.body))))))))))))) (Wt.yes rfl rfl rfl rfl) (Val.loadsB 1 (cs := [.int .i64 y15586.f0, .int .i64 y15586.f1, .int .i64 y15586.f2, .int .i64 y15586.f3, .int .i64 y15586.f4, .slice A15595 y15586.f5.length c15596]) agg30 fsz30 rfl rfl rfl rfl) (fun W hO => hO) ?_
                  obtain ⟨y15902, hy15903, h⟩ := bind_no h
                  refine TA.eff 35 rfl (by kernel_rfl) rfl (TL.callV (Lin := []) (args := [.agg #[.int .i64 y15586.f0, .int .i64 y15586.f1, .int .i64 y15586.f2, .int .i64 y15586.f3, .int .i64 y15586.f4, .slice A15595 y15586.f5.length c15596]]) (Wt.yes rfl rfl rfl rfl) rfl rfl hbd32 rfl rfl (code_Pure.calls (a0 := y15586) hr15597 hl15598 hy15903) rfl ?_)
                  rintro _ _ _ _ ⟨rfl, rfl, rfl⟩
                  refine TA.next (fun W hO => hO) ?_
                  refine TA.take 36 rfl (by kernel_rfl) rfl (PQ.then_ (PQ.then_ (PQ.inB (PQ.then_ (PQ.then_ (PQ.inB (PQ.then_ (PQ.inB (PQ.then_ (PQ.then_ (PQ.inB (PQ.then_ (PQ.then_ PQ.body))))))))))))) (Wt.yes rfl rfl rfl rfl) (Val.move rfl) (fun W hO => hO) ?_
                  refine TK.split (p := y15902 = true) h (fun hg15904 h => ?_) (fun hg15904 h => ?_)
                  ·
                   have hk15905 : y15902 = true := hg15904
                   refine TA.take 37 rfl (by kernel_rfl) rfl (PQ.then_ (PQ.then_ (PQ.inB (PQ.then_ (PQ.then_ (PQ.inB (PQ.then_ (PQ.inB (PQ.then_ (PQ.then_ (PQ.inB (PQ.then_ (PQ.then_ PQ.body))))))))))))) (Wt.yes rfl rfl rfl hk15905) (Val.loadsB 0 (cs := [.int .i64 y15613.f0, .int .i64 y15613.f1, .int .i64 y15613.f2, .int .i64 y15613.f3, .int .i64 y15613.f4, .slice A15622 y15613.f5.length c15623]) agg30 fsz30 rfl rfl rfl rfl) (fun W hO => hO) ?_
                   obtain ⟨y15906, hy15907, h⟩ := bind_no h
                   refine TA.eff 38 rfl (by kernel_rfl) rfl (TL.callV (Lin := []) (args := [.agg #[.int .i64 y15613.f0, .int .i64 y15613.f1, .int .i64 y15613.f2, .int .i64 y15613.f3, .int .i64 y15613.f4, .slice A15622 y15613.f5.length c15623]]) (Wt.yes rfl rfl rfl hk15905) rfl rfl hbd32 rfl rfl (code_Pure.calls (a0 := y15613) hr15624 hl15625 hy15907) rfl ?_)
                   rintro _ _ _ _ ⟨rfl, rfl, rfl⟩
                   refine TA.next (fun W hO => hO) ?_
                   refine TA.take 39 rfl (by kernel_rfl) rfl (PQ.then_ (PQ.then_ (PQ.inB (PQ.then_ (PQ.then_ (PQ.inB (PQ.then_ (PQ.inB (PQ.then_ (PQ.then_ (PQ.inB (PQ.then_ (PQ.then_ PQ.body))))))))))))) (Wt.yes rfl rfl rfl hk15905) (Val.not_ rfl) (fun W hO => hO) ?_
                   refine TA.take 40 rfl (by kernel_rfl) rfl (PQ.then_ (PQ.then_ (PQ.inB (PQ.then_ (PQ.then_ (PQ.inB (PQ.then_ (PQ.inB (PQ.then_ (PQ.then_ (PQ.inB (PQ.then_ (PQ.then_ PQ.body))))))))))))) (Wt.yes rfl rfl rfl rfl) (Val.pickY rfl hk15905 rfl) (fun W hO => hO) ?_
                   refine TA.take 41 rfl (by kernel_rfl) rfl (PQ.then_ (PQ.then_ (PQ.inB (PQ.then_ (PQ.then_ (PQ.inB (PQ.then_ (PQ.inB (PQ.then_ (PQ.then_ (PQ.inB (PQ.then_ (PQ.then_ PQ.body))))))))))))) rfl (Val.pickN rfl rfl rfl) (fun W hO => hO) ?_
                   refine TA.done (by kernel_rfl) ?_
                   exact fun a W hF hO => ⟨(!y15906), G13711, h, e13712, hr13714, hF.sub ⟨rfl, rfl, rfl, rfl, rfl, rfl, trivial⟩, hO.selT (Ls := [Blk b30 [.int .i64 y23.f0, .slice A5197 y23.f1.length c5198] 36, Blk b5 [.int .i64 a0.f0, .slice A1 a0.f1.length c2] 36]) [2, 3] 4 rfl rfl rfl⟩
                  ·
                   have hk15908 : y15902 = false := (by simpa using hg15904)
                   refine TA.not 37 rfl (by kernel_rfl) rfl (PQ.then_ (PQ.then_ (PQ.inB (PQ.then_ (PQ.then_ (PQ.inB (PQ.then_ (PQ.inB (PQ.then_ (PQ.then_ (PQ.inB (PQ.then_ (PQ.then_ PQ.body))))))))))))) (Wt.no rfl rfl rfl hk15908) (fun W hO => hO) ?_
                   refine TA.not 38 rfl (by kernel_rfl) rfl (PQ.then_ (PQ.then_ (PQ.inB (PQ.then_ (PQ.then_ (PQ.inB (PQ.then_ (PQ.inB (PQ.then_ (PQ.then_ (PQ.inB (PQ.then_ (PQ.then_ PQ.body))))))))))))) (Wt.no rfl rfl rfl hk15908) (fun W hO => hO) ?_
                   refine TA.not 39 rfl (by kernel_rfl) rfl (PQ.then_ (PQ.then_ (PQ.inB (PQ.then_ (PQ.then_ (PQ.inB (PQ.then_ (PQ.inB (PQ.then_ (PQ.then_ (PQ.inB (PQ.then_ (PQ.then_ PQ.body))))))))))))) (Wt.no rfl rfl rfl hk15908) (fun W hO => hO) ?_
                   refine TA.take 40 rfl (by kernel_rfl) rfl (PQ.then_ (PQ.then_ (PQ.inB (PQ.then_ (PQ.then_ (PQ.inB (PQ.then_ (PQ.inB (PQ.then_ (PQ.then_ (PQ.inB (PQ.then_ (PQ.then_ PQ.body))))))))))))) (Wt.yes rfl rfl rfl rfl) (Val.pickN rfl hk15908 rfl) (fun W hO => hO) ?_
                   refine TA.take 41 rfl (by kernel_rfl) rfl (PQ.then_ (PQ.then_ (PQ.inB (PQ.then_ (PQ.then_ (PQ.inB (PQ.then_ (PQ.inB (PQ.then_ (PQ.then_ (PQ.inB (PQ.then_ (PQ.then_ PQ.body))))))))))))) rfl (Val.pickN rfl rfl rfl) (fun W hO => hO) ?_
                   refine TA.done (by kernel_rfl) ?_
                   exact fun a W hF hO => ⟨false, G13711, h, e13712, hr13714, hF.sub ⟨rfl, rfl, rfl, rfl, rfl, rfl, trivial⟩, hO.selT (Ls := [Blk b30 [.int .i64 y23.f0, .slice A5197 y23.f1.length c5198] 36, Blk b5 [.int .i64 a0.f0, .slice A1 a0.f1.length c2] 36]) [2, 3] 4 rfl rfl rfl⟩
                ·
                 have hk15909 : (!y15885) = false := (by simpa using hg15887)
                 refine TA.not 21 rfl (by kernel_rfl) rfl (PQ.then_ (PQ.then_ (PQ.inB (PQ.then_ (PQ.then_ (PQ.inB (PQ.then_ (PQ.inB (PQ.then_ (PQ.then_ (PQ.inB (PQ.then_ (PQ.then_ PQ.body))))))))))))) (Wt.no rfl rfl rfl hk15909) (fun W hO => hO) ?_
                 refine TA.not 22 rfl (by kernel_rfl) rfl (PQ.then_ (PQ.then_ (PQ.inB (PQ.then_ (PQ.then_ (PQ.inB (PQ.then_ (PQ.inB (PQ.then_ (PQ.then_ (PQ.inB (PQ.then_ (PQ.then_ PQ.body))))))))))))) (Wt.no rfl rfl rfl hk15909) (fun W hO => hO) ?_
                 refine TA.not 23 rfl (by kernel_rfl) rfl (PQ.then_ (PQ.then_ (PQ.inB (PQ.then_ (PQ.then_ (PQ.inB (PQ.then_ (PQ.inB (PQ.then_ (PQ.then_ (PQ.inB (PQ.then_ (PQ.then_ PQ.body))))))))))))) (Wt.no rfl rfl rfl hk15909) (fun W hO => hO) ?_
                 refine TA.take 24 rfl (by kernel_rfl) rfl (PQ.then_ (PQ.then_ (PQ.inB (PQ.then_ (PQ.then_ (PQ.inB (PQ.then_ (PQ.inB (PQ.then_ (PQ.then_ (PQ.inB (PQ.then_ (PQ.then_ PQ.body))))))))))))) (Wt.yes rfl rfl rfl hk15884) (Val.pickN rfl hk15909 rfl) (fun W hO => hO) ?_
                 refine TA.take 25 rfl (by kernel_rfl) rfl (PQ.then_ (PQ.then_ (PQ.inB (PQ.then_ (PQ.then_ (PQ.inB (PQ.then_ (PQ.inB (PQ.then_ (PQ.then_ (PQ.inB (PQ.then_ (PQ.then_ PQ.body))))))))))))) (Wt.yes rfl rfl rfl hk15884) (Val.move rfl) (fun W hO => hO) ?_
                 refine TA.not 26 rfl (by kernel_rfl) rfl (PQ.then_ (PQ.then_ (PQ.inB (PQ.then_ (PQ.then_ (PQ.inB (PQ.then_ (PQ.inB (PQ.then_ (PQ.then_ (PQ.inB (PQ.then_ (PQ.then_ PQ.body))))))))))))) (Wt.no rfl rfl rfl rfl) (fun W hO => hO) ?_
                 refine TA.not 27 rfl (by kernel_rfl) rfl (PQ.then_ (PQ.then_ (PQ.inB (PQ.then_ (PQ.then_ (PQ.inB (PQ.then_ (PQ.inB (PQ.then_ (PQ.then_ (PQ.inB (PQ.then_ (PQ.then_ PQ.body))))))))))))) (Wt.no rfl rfl rfl rfl) (fun W hO => hO) ?_
                 refine TA.not 28 rfl (by kernel_rfl) rfl (PQ.then_ (PQ.then_ (PQ.inB (PQ.then_ (PQ.then_ (PQ.inB (PQ.then_ (PQ.inB (PQ.then_ (PQ.then_ (PQ.inB (PQ.then_ (PQ.then_ PQ.body))))))))))))) (Wt.no rfl rfl rfl rfl) (fun W hO => hO) ?_
                 refine TA.not 29 rfl (by kernel_rfl) rfl (PQ.then_ (PQ.then_ (PQ.inB (PQ.then_ (PQ.then_ (PQ.inB (PQ.then_ (PQ.inB (PQ.then_ (PQ.then_ (PQ.inB (PQ.then_ (PQ.then_ PQ.body))))))))))))) (Wt.no rfl rfl rfl rfl) (fun W hO => hO) ?_
                 refine TA.not 30 rfl (by kernel_rfl) rfl (PQ.then_ (PQ.then_ (PQ.inB (PQ.then_ (PQ.then_ (PQ.inB (PQ.then_ (PQ.inB (PQ.then_ (PQ.then_ (PQ.inB (PQ.then_ (PQ.then_ PQ.body))))))))))))) (Wt.no rfl rfl rfl rfl) (fun W hO => hO) ?_
                 refine TA.take 31 rfl (by kernel_rfl) rfl (PQ.then_ (PQ.then_ (PQ.inB (PQ.then_ (PQ.then_ (PQ.inB (PQ.then_ (PQ.inB (PQ.then_ (PQ.then_ (PQ.inB (PQ.then_ (PQ.then_ PQ.body))))))))))))) (Wt.yes rfl rfl rfl hk15884) (Val.pickN rfl rfl rfl) (fun W hO => hO) ?_
                 refine TA.take 32 rfl (by kernel_rfl) rfl (PQ.then_ (PQ.then_ (PQ.inB (PQ.then_ (PQ.then_ (PQ.inB (PQ.then_ (PQ.inB (PQ.then_ (PQ.then_ (PQ.inB (PQ.then_ (PQ.then_ PQ.body))))))))))))) rfl (Val.pickN rfl hk15884 rfl) (fun W hO => hO) ?_
                 refine TA.take 33 rfl (by kernel_rfl) rfl (PQ.then_ (PQ.then_ (PQ.inB (PQ.then_ (PQ.then_ (PQ.inB (PQ.then_ (PQ.inB (PQ.then_ (PQ.then_ (PQ.inB (PQ.then_ (PQ.then_ PQ.body))))))))))))) rfl (Val.move rfl) (fun W hO => hO) ?_
                 refine TA.take 34 rfl (by kernel_rfl) rfl (PQ.then_ (PQ.then_ (PQ.inB (PQ.then_ (PQ.then_ (PQ.inB (PQ.then_ (PQ.inB (PQ.then_ (PQ.then_ (PQ.inB (PQ.then_ (PQ.then_ PQ.body))))))))))))) (Wt.yes rfl rfl rfl rfl) (Val.loadsB 1 (cs := [.int .i64 y15586.f0, .int .i64 y15586.f1, .int .i64 y15586.f2, .int .i64 y15586.f3, .int .i64 y15586.f4, .slice A15595 y15586.f5.length c15596]) agg30 fsz30 rfl rfl rfl rfl) (fun W hO => hO) ?_
                 obtain ⟨y15910, hy15911, h⟩ := bind_no h
                 refine TA.eff 35 rfl (by kernel_rfl) rfl (TL.callV (Lin := []) (args := [.agg #[.int .i64 y15586.f0, .int .i64 y15586.f1, .int .i64 y15586.f2, .int .i64 y15586.f3, .int .i64 y15586.f4, .slice A15595 y15586.f5.length c15596]]) (Wt.yes rfl rfl rfl rfl) rfl rfl hbd32 rfl rfl (code_Pure.calls (a0 := y15586) hr15597 hl15598 hy15911) rfl ?_)
                 rintro _ _ _ _ ⟨rfl, rfl, rfl⟩
                 refine TA.next (fun W hO => hO) ?_
                 refine TA.take 36 rfl (by kernel_rfl) rfl (PQ.then_ (PQ.then_ (PQ.inB (PQ.then_ (PQ.then_ (PQ.inB (PQ.then_ (PQ.inB (PQ.then_ (PQ.then_ (PQ.inB (PQ.then_ (PQ.then_ PQ.body))))))))))))) (Wt.yes rfl rfl rfl rfl) (Val.move rfl) (fun W hO => hO) ?_
                 refine TK.split (p := y15910 = true) h (fun hg15912 h => ?_) (fun hg15912 h => ?_)
                 ·
                  have hk15913 : y15910 = true := hg15912
                  refine TA.take 37 rfl (by kernel_rfl) rfl (PQ.then_ (PQ.then_ (PQ.inB (PQ.then_ (PQ.then_ (PQ.inB (PQ.then_ (PQ.inB (PQ.then_ (PQ.then_ (PQ.inB (PQ.then_ (PQ.then_ PQ.body))))))))))))) (Wt.yes rfl rfl rfl hk15913) (Val.loadsB 0 (cs := [.int .i64 y15613.f0, .int .i64 y15613.f1, .int .i64 y15613.f2, .int .i64 y15613.f3, .int .i64 y15613.f4, .slice A15622 y15613.f5.length c15623]) agg30 fsz30 rfl rfl rfl rfl) (fun W hO => hO) ?_
                  obtain ⟨y15914, hy15915, h⟩ := bind_no h
                  refine TA.eff 38 rfl (by kernel_rfl) rfl (TL.callV (Lin := []) (args := [.agg #[.int .i64 y15613.f0, .int .i64 y15613.f1, .int .i64 y15613.f2, .int .i64 y15613.f3, .int .i64 y15613.f4, .slice A15622 y15613.f5.length c15623]]) (Wt.yes rfl rfl rfl hk15913) rfl rfl hbd32 rfl rfl (code_Pure.calls (a0 := y15613) hr15624 hl15625 hy15915) rfl ?_)
                  rintro _ _ _ _ ⟨rfl, rfl, rfl⟩
                  refine TA.next (fun W hO => hO) ?_
                  refine TA.take 39 rfl (by kernel_rfl) rfl (PQ.then_ (PQ.then_ (PQ.inB (PQ.then_ (PQ.then_ (PQ.inB (PQ.then_ (PQ.inB (PQ.then_ (PQ.then_ (PQ.inB (PQ.then_ (PQ.then_ PQ.body))))))))))))) (Wt.yes rfl rfl rfl hk15913) (Val.not_ rfl) (fun W hO => hO) ?_
                  refine TA.take 40 rfl (by kernel_rfl) rfl (PQ.then_ (PQ.then_ (PQ.inB (PQ.then_ (PQ.then_ (PQ.inB (PQ.then_ (PQ.inB (PQ.then_ (PQ.then_ (PQ.inB (PQ.then_ (PQ.then_ PQ.body))))))))))))) (Wt.yes rfl rfl rfl rfl) (Val.pickY rfl hk15913 rfl) (fun W hO => hO) ?_
                  refine TA.take 41 rfl (by kernel_rfl) rfl (PQ.then_ (PQ.then_ (PQ.inB (PQ.then_ (PQ.then_ (PQ.inB (PQ.then_ (PQ.inB (PQ.then_ (PQ.then_ (PQ.inB (PQ.then_ (PQ.then_ PQ.body))))))))))))) rfl (Val.pickN rfl rfl rfl) (fun W hO => hO) ?_
                  refine TA.done (by kernel_rfl) ?_
                  exact fun a W hF hO => ⟨(!y15914), G13711, h, e13712, hr13714, hF.sub ⟨rfl, rfl, rfl, rfl, rfl, rfl, trivial⟩, hO.selT (Ls := [Blk b30 [.int .i64 y23.f0, .slice A5197 y23.f1.length c5198] 36, Blk b5 [.int .i64 a0.f0, .slice A1 a0.f1.length c2] 36]) [2, 3] 4 rfl rfl rfl⟩
                 ·
                  have hk15916 : y15910 = false := (by simpa using hg15912)
                  refine TA.not 37 rfl (by kernel_rfl) rfl (PQ.then_ (PQ.then_ (PQ.inB (PQ.then_ (PQ.then_ (PQ.inB (PQ.then_ (PQ.inB (PQ.then_ (PQ.then_ (PQ.inB (PQ.then_ (PQ.then_ PQ.body))))))))))))) (Wt.no rfl rfl rfl hk15916) (fun W hO => hO) ?_
                  refine TA.not 38 rfl (by kernel_rfl) rfl (PQ.then_ (PQ.then_ (PQ.inB (PQ.then_ (PQ.then_ (PQ.inB (PQ.then_ (PQ.inB (PQ.then_ (PQ.then_ (PQ.inB (PQ.then_ (PQ.then_ PQ.body))))))))))))) (Wt.no rfl rfl rfl hk15916) (fun W hO => hO) ?_
                  refine TA.not 39 rfl (by kernel_rfl) rfl (PQ.then_ (PQ.then_ (PQ.inB (PQ.then_ (PQ.then_ (PQ.inB (PQ.then_ (PQ.inB (PQ.then_ (PQ.then_ (PQ.inB (PQ.then_ (PQ.then_ PQ.body))))))))))))) (Wt.no rfl rfl rfl hk15916) (fun W hO => hO) ?_
                  refine TA.take 40 rfl (by kernel_rfl) rfl (PQ.then_ (PQ.then_ (PQ.inB (PQ.then_ (PQ.then_ (PQ.inB (PQ.then_ (PQ.inB (PQ.then_ (PQ.then_ (PQ.inB (PQ.then_ (PQ.then_ PQ.body))))))))))))) (Wt.yes rfl rfl rfl rfl) (Val.pickN rfl hk15916 rfl) (fun W hO => hO) ?_
                  refine TA.take 41 rfl (by kernel_rfl) rfl (PQ.then_ (PQ.then_ (PQ.inB (PQ.then_ (PQ.then_ (PQ.inB (PQ.then_ (PQ.inB (PQ.then_ (PQ.then_ (PQ.inB (PQ.then_ (PQ.then_ PQ.body))))))))))))) rfl (Val.pickN rfl rfl rfl) (fun W hO => hO) ?_
                  refine TA.done (by kernel_rfl) ?_
                  exact fun a W hF hO => ⟨false, G13711, h, e13712, hr13714, hF.sub ⟨rfl, rfl, rfl, rfl, rfl, rfl, trivial⟩, hO.selT (Ls := [Blk b30 [.int .i64 y23.f0, .slice A5197 y23.f1.length c5198] 36, Blk b5 [.int .i64 a0.f0, .slice A1 a0.f1.length c2] 36]) [2, 3] 4 rfl rfl rfl⟩
              ·
               have hk15917 : decide (y15586.f0 = 1) = false := decide_eq_false hg15878
               refine TA.not 10 rfl (by kernel_rfl) rfl (PQ.then_ (PQ.then_ (PQ.inB (PQ.then_ (PQ.then_ (PQ.inB (PQ.then_ (PQ.inB (PQ.then_ (PQ.then_ (PQ.inB (PQ.then_ (PQ.then_ PQ.body))))))))))))) (Wt.no rfl rfl rfl hk15917) (fun W hO => hO) ?_
               refine TA.not 11 rfl (by kernel_rfl) rfl (PQ.then_ (PQ.then_ (PQ.inB (PQ.then_ (PQ.then_ (PQ.inB (PQ.then_ (PQ.inB (PQ.then_ (PQ.then_ (PQ.inB (PQ.then_ (PQ.then_ PQ.body))))))))))))) (Wt.no rfl rfl rfl hk15917) (fun W hO => hO) ?_
               refine TA.not 12 rfl (by kernel_rfl) rfl (PQ.then_ (PQ.then_ (PQ.inB (PQ.then_ (PQ.then_ (PQ.inB (PQ.then_ (PQ.inB (PQ.then_ (PQ.then_ (PQ.inB (PQ.then_ (PQ.then_ PQ.body))))))))))))) (Wt.no rfl rfl rfl hk15917) (fun W hO => hO) ?_
               refine TA.not 13 rfl (by kernel_rfl) rfl (PQ.then_ (PQ.then_ (PQ.inB (PQ.then_ (PQ.then_ (PQ.inB (PQ.then_ (PQ.inB (PQ.then_ (PQ.then_ (PQ.inB (PQ.then_ (PQ.then_ PQ.body))))))))))))) (Wt.no rfl rfl rfl hk15917) (fun W hO => hO) ?_
               refine TA.take 14 rfl (by kernel_rfl) rfl (PQ.then_ (PQ.then_ (PQ.inB (PQ.then_ (PQ.then_ (PQ.inB (PQ.then_ (PQ.inB (PQ.then_ (PQ.then_ (PQ.inB (PQ.then_ (PQ.then_ PQ.body))))))))))))) (Wt.yes rfl rfl rfl hk15877) (Val.pickN rfl hk15917 rfl) (fun W hO => hO) ?_
               refine TA.take 15 rfl (by kernel_rfl) rfl (PQ.then_ (PQ.then_ (PQ.inB (PQ.then_ (PQ.then_ (PQ.inB (PQ.then_ (PQ.inB (PQ.then_ (PQ.then_ (PQ.inB (PQ.then_ (PQ.then_ PQ.body))))))))))))) rfl (Val.pickN rfl hk15877 rfl) (fun W hO => hO) ?_
               refine TA.take 16 rfl (by kernel_rfl) rfl (PQ.then_ (PQ.then_ (PQ.inB (PQ.then_ (PQ.then_ (PQ.inB (PQ.then_ (PQ.inB (PQ.then_ (PQ.then_ (PQ.inB (PQ.then_ (PQ.then_ PQ.body))))))))))))) rfl (Val.move rfl) (fun W hO => hO) ?_
               refine TA.take 17 rfl (by kernel_rfl) rfl (PQ.then_ (PQ.then_ (PQ.inB (PQ.then_ (PQ.then_ (PQ.inB (PQ.then_ (PQ.inB (PQ.then_ (PQ.then_ (PQ.inB (PQ.then_ (PQ.then_ PQ.body))))))))))))) (Wt.yes rfl rfl rfl rfl) (Val.loadsB 1 (cs := [.int .i64 y15586.f0, .int .i64 y15586.f1, .int .i64 y15586.f2, .int .i64 y15586.f3, .int .i64 y15586.f4, .slice A15595 y15586.f5.length c15596]) agg30 fsz30 rfl rfl rfl rfl) (fun W hO => hO) ?_
               obtain ⟨y15918, hy15919, h⟩ := bind_no h
               refine TA.eff 18 rfl (by kernel_rfl) rfl (TL.callV (Lin := []) (args := [.agg #[.int .i64 y15586.f0, .int .i64 y15586.f1, .int .i64 y15586.f2, .int .i64 y15586.f3, .int .i64 y15586.f4, .slice A15595 y15586.f5.length c15596]]) (Wt.yes rfl rfl rfl rfl) rfl rfl hbd32 rfl rfl (code_Pure.calls (a0 := y15586) hr15597 hl15598 hy15919) rfl ?_)
               rintro _ _ _ _ ⟨rfl, rfl, rfl⟩
               refine TA.next (fun W hO => hO) ?_
               refine TA.take 19 rfl (by kernel_rfl) rfl (PQ.then_ (PQ.then_ (PQ.inB (PQ.then_ (PQ.then_ (PQ.inB (PQ.then_ (PQ.inB (PQ.then_ (PQ.then_ (PQ.inB (PQ.then_ (PQ.then_ PQ.body))))))))))))) (Wt.yes rfl rfl rfl rfl) (Val.not_ rfl) (fun W hO => hO) ?_
               refine TA.take 20 rfl (by kernel_rfl) rfl (PQ.then_ (PQ.then_ (PQ.inB (PQ.then_ (PQ.then_ (PQ.inB (PQ.then_ (PQ.inB (PQ.then_ (PQ.then_ (PQ.inB (PQ.then_ (PQ.then_ PQ.body))))))))))))) (Wt.yes rfl rfl rfl rfl) (Val.move rfl) (fun W hO => hO) ?_
               refine TK.split (p := (!y15918) = true) h (fun hg15920 h => ?_) (fun hg15920 h => ?_)
               ·
                have hk15921 : (!y15918) = true := hg15920
                refine TA.take 21 rfl (by kernel_rfl) rfl (PQ.then_ (PQ.then_ (PQ.inB (PQ.then_ (PQ.then_ (PQ.inB (PQ.then_ (PQ.inB (PQ.then_ (PQ.then_ (PQ.inB (PQ.then_ (PQ.then_ PQ.body))))))))))))) (Wt.yes rfl rfl rfl hk15921) (Val.fieldAddrB Try.underlying30 rfl fsz3 rfl rfl rfl) (fun W hO => hO) ?_
                refine TA.take 22 rfl (by kernel_rfl) rfl (PQ.then_ (PQ.then_ (PQ.inB (PQ.then_ (PQ.then_ (PQ.inB (PQ.then_ (PQ.inB (PQ.then_ (PQ.then_ (PQ.inB (PQ.then_ (PQ.then_ PQ.body))))))))))))) (Wt.yes rfl rfl rfl hk15921) (Val.loadB 1 agg3 rfl rfl rfl) (fun W hO => hO) ?_
                refine TA.take 23 rfl (by kernel_rfl) rfl (PQ.then_ (PQ.then_ (PQ.inB (PQ.then_ (PQ.then_ (PQ.inB (PQ.then_ (PQ.inB (PQ.then_ (PQ.then_ (PQ.inB (PQ.then_ (PQ.then_ PQ.body))))))))))))) (Wt.yes rfl rfl rfl hk15921) (Val.cmp rfl rfl run_neq) (fun W hO => hO) ?_
                refine TA.take 24 rfl (by kernel_rfl) rfl (PQ.then_ (PQ.then_ (PQ.inB (PQ.then_ (PQ.then_ (PQ.inB (PQ.then_ (PQ.inB (PQ.then_ (PQ.then_ (PQ.inB (PQ.then_ (PQ.then_ PQ.body))))))))))))) (Wt.yes rfl rfl rfl rfl) (Val.pickY rfl hk15921 rfl) (fun W hO => hO) ?_
                refine TA.take 25 rfl (by kernel_rfl) rfl (PQ.then_ (PQ.then_ (PQ.inB (PQ.then_ (PQ.then_ (PQ.inB (PQ.then_ (PQ.inB (PQ.then_ (PQ.then_ (PQ.inB (PQ.then_ (PQ.then_ PQ.body))))))))))))) (Wt.yes rfl rfl rfl rfl) (Val.move rfl) (fun W hO => hO) ?_
                refine TK.split (p := (!decide (y15586.f0 = 2)) = true) h (fun hg15922 h => ?_) (fun hg15922 h => ?_)
                ·
                 have hk15923 : (!decide (y15586.f0 = 2)) = true := hg15922
                 refine TA.take 26 rfl (by kernel_rfl) rfl (PQ.then_ (PQ.then_ (PQ.inB (PQ.then_ (PQ.then_ (PQ.inB (PQ.then_ (PQ.inB (PQ.then_ (PQ.then_ (PQ.inB (PQ.then_ (PQ.then_ PQ.body))))))))))))) (Wt.yes rfl rfl rfl hk15923) (Val.fieldAddrB Try.underlying30 rfl fsz3 rfl rfl rfl) (fun W hO => hO) ?_
                 refine TA.take 27 rfl (by kernel_rfl) rfl (PQ.then_ (PQ.then_ (PQ.inB (PQ.then_ (PQ.then_ (PQ.inB (PQ.then_ (PQ.inB (PQ.then_ (PQ.then_ (PQ.inB (PQ.then_ (PQ.then_ PQ.body))))))))))))) (Wt.yes rfl rfl rfl hk15923) (Val.loadB 1 agg3 rfl rfl rfl) (fun W hO => hO) ?_
                 refine TA.take 28 rfl (by kernel_rfl) rfl (PQ.then_ (PQ.then_ (PQ.inB (PQ.then_ (PQ.then_ (PQ.inB (PQ.then_ (PQ.inB (PQ.then_ (PQ.then_ (PQ.inB (PQ.then_ (PQ.then_ PQ.body))))))))))))) (Wt.yes rfl rfl rfl hk15923) (Val.fieldAddrB Try.underlying30 rfl fsz3 rfl rfl rfl) (fun W hO => hO) ?_
                 refine TA.take 29 rfl (by kernel_rfl) rfl (PQ.then_ (PQ.then_ (PQ.inB (PQ.then_ (PQ.then_ (PQ.inB (PQ.then_ (PQ.inB (PQ.then_ (PQ.then_ (PQ.inB (PQ.then_ (PQ.then_ PQ.body))))))))))))) (Wt.yes rfl rfl rfl hk15923) (Val.loadB 0 agg3 rfl rfl rfl) (fun W hO => hO) ?_
                 refine TA.take 30 rfl (by kernel_rfl) rfl (PQ.then_ (PQ.then_ (PQ.inB (PQ.then_ (PQ.then_ (PQ.inB (PQ.then_ (PQ.inB (PQ.then_ (PQ.then_ (PQ.inB (PQ.then_ (PQ.then_ PQ.body))))))))))))) (Wt.yes rfl rfl rfl hk15923) (Val.cmp rfl rfl run_neq) (fun W hO => hO) ?_
                 refine TA.take 31 rfl (by kernel_rfl) rfl (PQ.then_ (PQ.then_ (PQ.inB (PQ.then_ (PQ.then_ (PQ.inB (PQ.then_ (PQ.inB (PQ.then_ (PQ.then_ (PQ.inB (PQ.then_ (PQ.then_ PQ.body))))))))))))) (Wt.yes rfl rfl rfl rfl) (Val.pickY rfl hk15923 rfl) (fun W hO => hO) ?_
                 refine TA.take 32 rfl (by kernel_rfl) rfl (PQ.then_ (PQ.then_ (PQ.inB (PQ.then_ (PQ.then_ (PQ.inB (PQ.then_ (PQ.inB (PQ.then_ (PQ.then_ (PQ.inB (PQ.then_ (PQ.then_ PQ.body))))))))))))) rfl (Val.pickN rfl rfl rfl) (fun W hO => hO) ?_
                 refine TA.take 33 rfl (by kernel_rfl) rfl (PQ.then_ (PQ.then_ (PQ.inB (PQ.then_ (PQ.then_ (PQ.inB (PQ.then_ (PQ.inB (PQ.then_ (PQ.then_ (PQ.inB (PQ.then_ (PQ.then_ PQ.body))))))))))))) rfl (Val.move rfl) (fun W hO => hO) ?_
                 refine TK.split (p := (!decide (y15586.f0 = y15613.f0)) = true) h (fun hg15924 h => ?_) (fun hg15924 h => ?_)
                 ·
                  have hk15925 : (!decide (y15586.f0 = y15613.f0)) = true := hg15924
                  refine TA.not 34 rfl (by kernel_rfl) rfl (PQ.then_ (PQ.then_ (PQ.inB (PQ.then_ (PQ.then_ (PQ.inB (PQ.then_ (PQ.inB (PQ.then_ (PQ.then_ (PQ.inB (PQ.then_ (PQ.then_ PQ.body))))))))))))) (Wt.no rfl rfl rfl hk15925) (fun W hO => hO) ?_
                  refine TA.not 35 rfl (by kernel_rfl) rfl (PQ.then_ (PQ.then_ (PQ.inB (PQ.then_ (PQ.then_ (PQ.inB (PQ.then_ (PQ.inB (PQ.then_ (PQ.then_ (PQ.inB (PQ.then_ (PQ.then_ PQ.body))))))))))))) (Wt.no rfl rfl rfl hk15925) (fun W hO => hO) ?_
                  refine TA.not 36 rfl (by kernel_rfl) rfl (PQ.then_ (PQ.then_ (PQ.inB (PQ.then_ (PQ.then_ (PQ.inB (PQ.then_ (PQ.inB (PQ.then_ (PQ.then_ (PQ.inB (PQ.then_ (PQ.then_ PQ.body))))))))))))) (Wt.no rfl rfl rfl hk15925) (fun W hO => hO) ?_
                  refine TA.not 37 rfl (by kernel_rfl) rfl (PQ.then_ (PQ.then_ (PQ.inB (PQ.then_ (PQ.then_ (PQ.inB (PQ.then_ (PQ.inB (PQ.then_ (PQ.then_ (PQ.inB (PQ.then_ (PQ.then_ PQ.body))))))))))))) rfl (fun W hO => hO) ?_
                  refine TA.not 38 rfl (by kernel_rfl) rfl (PQ.then_ (PQ.then_ (PQ.inB (PQ.then_ (PQ.then_ (PQ.inB (PQ.then_ (PQ.inB (PQ.then_ (PQ.then_ (PQ.inB (PQ.then_ (PQ.then_ PQ.body))))))))))))) rfl (fun W hO => hO) ?_
                  refine TA.not 39 rfl (by kernel_rfl) rfl (PQ.then_ (PQ.then_ (PQ.inB (PQ.then_ (PQ.then_ (PQ.inB (PQ.then_ (PQ.inB (PQ.then_ (PQ.then_ (PQ.inB (PQ.then_ (PQ.then_ PQ.body))))))))))))) rfl (fun W hO => hO) ?_
                  refine TA.not 40 rfl (by kernel_rfl) rfl (PQ.then_ (PQ.then_ (PQ.inB (PQ.then_ (PQ.then_ (PQ.inB (PQ.then_ (PQ.inB (PQ.then_ (PQ.then_ (PQ.inB (PQ.then_ (PQ.then_ PQ.body))))))))))))) (Wt.no rfl rfl rfl hk15925) (fun W hO => hO) ?_
                  refine TA.take 41 rfl (by kernel_rfl) rfl (PQ.then_ (PQ.then_ (PQ.inB (PQ.then_ (PQ.then_ (PQ.inB (PQ.then_ (PQ.inB (PQ.then_ (PQ.then_ (PQ.inB (PQ.then_ (PQ.then_ PQ.body))))))))))))) rfl (Val.pickY rfl hk15925 rfl) (fun W hO => hO) ?_
                  refine TA.done (by kernel_rfl) ?_
                  exact fun a W hF hO => ⟨true, G13711, h, e13712, hr13714, hF.sub ⟨rfl, rfl, rfl, rfl, rfl, rfl, trivial⟩, hO.selT (Ls := [Blk b30 [.int .i64 y23.f0, .slice A5197 y23.f1.length c5198] 36, Blk b5 [.int .i64 a0.f0, .slice A1 a0.f1.length c2] 36]) [2, 3] 4 rfl rfl rfl⟩
                 ·
                  have hk15926 : (!decide (y15586.f0 = y15613.f0)) = false := (by simpa using hg15924)
                  refine TA.take 34 rfl (by kernel_rfl) rfl (PQ.then_ (PQ.then_ (PQ.inB (PQ.then_ (PQ.then_ (PQ.inB (PQ.then_ (PQ.inB (PQ.then_ (PQ.then_ (PQ.inB (PQ.then_ (PQ.then_ PQ.body))))))))))))) (Wt.yes rfl rfl rfl hk15926) (Val.loadsB 1 (cs := [.int .i64 y15586.f0, .int .i64 y15586.f1, .int .i64 y15586.f2, .int .i64 y15586.f3, .int .i64 y15586.f4, .slice A15595 y15586.f5.length c15596]) agg30 fsz30 rfl rfl rfl rfl) (fun W hO => hO) ?_
                  obtain ⟨y15927, hy15928, h⟩ := bind_no h
                  refine TA.eff 35 rfl (by kernel_rfl) rfl (TL.callV (Lin := []) (args := [.agg #[.int .i64 y15586.f0, .int .i64 y15586.f1, .int .i64 y15586.f2, .int .i64 y15586.f3, .int .i64 y15586.f4, .slice A15595 y15586.f5.length c15596]]) (Wt.yes rfl rfl rfl hk15926) rfl rfl hbd32 rfl rfl (code_Pure.calls (a0 := y15586) hr15597 hl15598 hy15928) rfl ?_)
                  rintro _ _ _ _ ⟨rfl, rfl, rfl⟩
                  refine TA.next (fun W hO => hO) ?_
                  refine TA.take 36 rfl (by kernel_rfl) rfl (PQ.then_ (PQ.then_ (PQ.inB (PQ.then_ (PQ.then_ (PQ.inB (PQ.then_ (PQ.inB (PQ.then_ (PQ.then_ (PQ.inB (PQ.then_ (PQ.then_ PQ.body))))))))))))) (Wt.yes rfl rfl rfl hk15926) (Val.move rfl) (fun W hO => hO) ?_
                  refine TK.split (p := y15927 = true) h (fun hg15929 h => ?_) (fun hg15929 h => ?_)
                  ·
                   have hk15930 : y15927 = true := hg15929
                   refine TA.take 37 rfl (by kernel_rfl) rfl (PQ.then_ (PQ.then_ (PQ.inB (PQ.then_ (PQ.then_ (PQ.inB (PQ.then_ (PQ.inB (PQ.then_ (PQ.then_ (PQ.inB (PQ.then_ (PQ.then_ PQ.body))))))))))))) (Wt.yes rfl rfl rfl hk15930) (Val.loadsB 0 (cs := [.int .i64 y15613.f0, .int .i64 y15613.f1, .int .i64 y15613.f2, .int .i64 y15613.f3, .int .i64 y15613.f4, .slice A15622 y15613.f5.length c15623]) agg30 fsz30 rfl rfl rfl rfl) (fun W hO => hO) ?_
                   obtain ⟨y15931, hy15932, h⟩ := bind_no h
                   refine TA.eff 38 rfl (by kernel_rfl) rfl (TL.callV (Lin := []) (args := [.agg #[.int .i64 y15613.f0, .int .i64 y15613.f1, .int .i64 y15613.f2, .int .i64 y15613.f3, .int .i64 y15613.f4, .slice A15622 y15613.f5.length c15623]]) (Wt.yes rfl rfl rfl hk15930) rfl rfl hbd32 rfl rfl (code_Pure.calls (a0 := y15613) hr15624 hl15625 hy15932) rfl ?_)
                   rintro _ _ _ _ ⟨rfl, rfl, rfl⟩
                   refine TA.next (fun W hO => hO) ?_
                   refine TA.take 39 rfl (by kernel_rfl) rfl (PQ.then_ (PQ.then_ (PQ.inB (PQ.then_ (PQ.then_ (PQ.inB (PQ.then_ (PQ.inB (PQ.then_ (PQ.then_ (PQ.inB (PQ.then_ (PQ.then_ PQ.body))))))))))))) (Wt.yes rfl rfl rfl hk15930) (Val.not_ rfl) (fun W hO => hO) ?_
                   refine TA.take 40 rfl (by kernel_rfl) rfl (PQ.then_ (PQ.then_ (PQ.inB (PQ.then_ (PQ.then_ (PQ.inB (PQ.then_ (PQ.inB (PQ.then_ (PQ.then_ (PQ.inB (PQ.then_ (PQ.then_ PQ.body))))))))))))) (Wt.yes rfl rfl rfl hk15926) (Val.pickY rfl hk15930 rfl) (fun W hO => hO) ?_
                   refine TA.take 41 rfl (by kernel_rfl) rfl (PQ.then_ (PQ.then_ (PQ.inB (PQ.then_ (PQ.then_ (PQ.inB (PQ.then_ (PQ.inB (PQ.then_ (PQ.then_ (PQ.inB (PQ.then_ (PQ.then_ PQ.body))))))))))))) rfl (Val.pickN rfl hk15926 rfl) (fun W hO => hO) ?_
                   refine TA.done (by kernel_rfl) ?_
                   exact fun a W hF hO => ⟨(!y15931), G13711, h, e13712, hr13714, hF.sub ⟨rfl, rfl, rfl, rfl, rfl, rfl, trivial⟩, hO.selT (Ls := [Blk b30 [.int .i64 y23.f0, .slice A5197 y23.f1.length c5198] 36, Blk b5 [.int .i64 a0.f0, .slice A1 a0.f1.length c2] 36]) [2, 3] 4 rfl rfl rfl⟩
                  ·
                   have hk15933 : y15927 = false := (by simpa using hg15929)
                   refine TA.not 37 rfl (by kernel_rfl) rfl (PQ.then_ (PQ.then_ (PQ.inB (PQ.then_ (PQ.then_ (PQ.inB (PQ.then_ (PQ.inB (PQ.then_ (PQ.then_ (PQ.inB (PQ.then_ (PQ.then_ PQ.body))))))))))))) (Wt.no rfl rfl rfl hk15933) (fun W hO => hO) ?_
                   refine TA.not 38 rfl (by kernel_rfl) rfl (PQ.then_ (PQ.then_ (PQ.inB (PQ.then_ (PQ.then_ (PQ.inB (PQ.then_ (PQ.inB (PQ.then_ (PQ.then_ (PQ.inB (PQ.then_ (PQ.then_ PQ.body))))))))))))) (Wt.no rfl rfl rfl hk15933) (fun W hO => hO) ?_
                   refine TA.not 39 rfl (by kernel_rfl) rfl (PQ.then_ (PQ.then_ (PQ.inB (PQ.then_ (PQ.then_ (PQ.inB (PQ.then_ (PQ.inB (PQ.then_ (PQ.then_ (PQ.inB (PQ.then_ (PQ.then_ PQ.body))))))))))))) (Wt.no rfl rfl rfl hk15933) (fun W hO => hO) ?_
                   refine TA.take 40 rfl (by kernel_rfl) rfl (PQ.then_ (PQ.then_ (PQ.inB (PQ.then_ (PQ.then_ (PQ.inB (PQ.then_ (PQ.inB (PQ.then_ (PQ.then_ (PQ.inB (PQ.then_ (PQ.then_ PQ.body))))))))))))) (Wt.yes rfl rfl rfl hk15926) (Val.pickN rfl hk15933 rfl) (fun W hO => hO) ?_
                   refine TA.take 41 rfl (by kernel_rfl) rfl (PQ.then_ (PQ.then_ (PQ.inB (PQ.then_ (PQ.then_ (PQ.inB (PQ.then_ (PQ.inB (PQ.then_ (PQ.then_ (PQ.inB (PQ.then_ (PQ.then_ PQ.body))))))))))))) rfl (Val.pickN rfl hk15926 rfl) (fun W hO => hO) ?_
                   refine TA.done (by kernel_rfl) ?_
                   exact fun a W hF hO => ⟨false, G13711, h, e13712, hr13714, hF.sub ⟨rfl, rfl, rfl, rfl, rfl, rfl, trivial⟩, hO.selT (Ls := [Blk b30 [.int .i64 y23.f0, .slice A5197 y23.f1.length c5198] 36, Blk b5 [.int .i64 a0.f0, .slice A1 a0.f1.length c2] 36]) [2, 3] 4 rfl rfl rfl⟩
                ·
                 have hk15934 : (!decide (y15586.f0 = 2)) = false := (by simpa using hg15922)
                 refine TA.not 26 rfl (by kernel_rfl) rfl (PQ.then_ (PQ.then_ (PQ.inB (PQ.then_ (PQ.then_ (PQ.inB (PQ.then_ (PQ.inB (PQ.then_ (PQ.then_ (PQ.inB (PQ.then_ (PQ.then_ PQ.body))))))))))))) (Wt.no rfl rfl rfl hk15934) (fun W hO => hO) ?_
                 refine TA.not 27 rfl (by kernel_rfl) rfl (PQ.then_ (PQ.then_ (PQ.inB (PQ.then_ (PQ.then_ (PQ.inB (PQ.then_ (PQ.inB (PQ.then_ (PQ.then_ (PQ.inB (PQ.then_ (PQ.then_ PQ.body))))))))))))) (Wt.no rfl rfl rfl hk15934) (fun W hO => hO) ?_
                 refine TA.not 28 rfl (by kernel_rfl) rfl (PQ.then_ (PQ.then_ (PQ.inB (PQ.then_ (PQ.then_ (PQ.inB (PQ.then_ (PQ.inB (PQ.then_ (PQ.then_ (PQ.inB (PQ.then_ (PQ.then_ PQ.body))))))))))))) (Wt.no rfl rfl rfl hk15934) (fun W hO => hO) ?_
                 refine TA.not 29 rfl (by kernel_rfl) rfl (PQ.then_ (PQ.then_ (PQ.inB (PQ.then_ (PQ.then_ (PQ.inB (PQ.then_ (PQ.inB (PQ.then_ (PQ.then_ (PQ.inB (PQ.then_ (PQ.then_ PQ.body))))))))))))) (Wt.no rfl rfl rfl hk15934) (fun W hO => hO) ?_
                 refine TA.not 30 rfl (by kernel_rfl) rfl (PQ.then_ (PQ.then_ (PQ.inB (PQ.then_ (PQ.then_ (PQ.inB (PQ.then_ (PQ.inB (PQ.then_ (PQ.then_ (PQ.inB (PQ.then_ (PQ.then_ PQ.body))))))))))))) (Wt.no rfl rfl rfl hk15934) (fun W hO => hO) ?_
                 refine TA.take 31 rfl (by kernel_rfl) rfl (PQ.then_ (PQ.then_ (PQ.inB (PQ.then_ (PQ.then_ (PQ.inB (PQ.then_ (PQ.inB (PQ.then_ (PQ.then_ (PQ.inB (PQ.then_ (PQ.then_ PQ.body))))))))))))) (Wt.yes rfl rfl rfl rfl) (Val.pickN rfl hk15934 rfl) (fun W hO => hO) ?_
                 refine TA.take 32 rfl (by kernel_rfl) rfl (PQ.then_ (PQ.then_ (PQ.inB (PQ.then_ (PQ.then_ (PQ.inB (PQ.then_ (PQ.inB (PQ.then_ (PQ.then_ (PQ.inB (PQ.then_ (PQ.then_ PQ.body))))))))))))) rfl (Val.pickN rfl rfl rfl) (fun W hO => hO) ?_
                 refine TA.take 33 rfl (by kernel_rfl) rfl (PQ.then_ (PQ.then_ (PQ.inB (PQ.then_ (PQ.then_ (PQ.inB (PQ.then_ (PQ.inB (PQ.then_ (PQ.then_ (PQ.inB (PQ.then_ (PQ.then_ PQ.body))))))))))))) rfl (Val.move rfl) (fun W hO => hO) ?_
                 refine TA.take 34 rfl (by kernel_rfl) rfl (PQ.then_ (PQ.then_ (PQ.inB (PQ.then_ (PQ.then_ (PQ.inB (PQ.then_ (PQ.inB (PQ.then_ (PQ.then_ (PQ.inB (PQ.then_ (PQ.then_ PQ.body))))))))))))) (Wt.yes rfl rfl rfl rfl) (Val.loadsB 1 (cs := [.int .i64 y15586.f0, .int .i64 y15586.f1, .int .i64 y15586.f2, .int .i64 y15586.f3, .int .i64 y15586.f4, .slice A15595 y15586.f5.length c15596]) agg30 fsz30 rfl rfl rfl rfl) (fun W hO => hO) ?_
                 obtain ⟨y15935, hy15936, h⟩ := bind_no h
                 refine TA.eff 35 rfl (by kernel_rfl) rfl (TL.callV (Lin := []) (args := [.agg #[.int .i64 y15586.f0, .int .i64 y15586.f1, .int .i64 y15586.f2, .int .i64 y15586.f3, .int .i64 y15586.f4, .slice A15595 y15586.f5.length c15596]]) (Wt.yes rfl rfl rfl rfl) rfl rfl hbd32 rfl rfl (code_Pure.calls (a0 := y15586) hr15597 hl15598 hy15936) rfl ?_)
                 rintro _ _ _ _ ⟨rfl, rfl, rfl⟩
                 refine TA.next (fun W hO => hO) ?_
                 refine TA.take 36 rfl (by kernel_rfl) rfl (PQ.then_ (PQ.then_ (PQ.inB (PQ.then_ (PQ.then_ (PQ.inB (PQ.then_ (PQ.inB (PQ.then_ (PQ.then_ (PQ.inB (PQ.then_ (PQ.then_ PQ.body))))))))))))) (Wt.yes rfl rfl rfl rfl) (Val.move rfl) (fun W hO => hO) ?_
                 refine TK.split (p := y15935 = true) h (fun hg15937 h => ?_) (fun hg15937 h => ?_)
                 ·
                  have hk15938 : y15935 = true := hg15937
                  refine TA.take 37 rfl (by kernel_rfl) rfl (PQ.then_ (PQ.then_ (PQ.inB (PQ.then_ (PQ.then_ (PQ.inB (PQ.then_ (PQ.inB (PQ.then_ (PQ.then_ (PQ.inB (PQ.then_ (PQ.then_ PQ.body))))))))))))) (Wt.yes rfl rfl rfl hk15938) (Val.loadsB 0 (cs := [.int .i64 y15613.f0, .int .i64 y15613.f1, .int .i64 y15613.f2, .int .i64 y15613.f3, .int .i64 y15613.f4, .slice A15622 y15613.f5.length c15623]) agg30 fsz30 rfl rfl rfl rfl) (fun W hO => hO) ?_
                  obtain ⟨y15939, hy15940, h⟩ := bind_no h
                  refine TA.eff 38 rfl (by kernel_rfl) rfl (TL.callV (Lin := []) (args := [.agg #[.int .i64 y15613.f0, .int .i64 y15613.f1, .int .i64 y15613.f2, .int .i64 y15613.f3, .int .i64 y15613.f4, .slice A15622 y15613.f5.length c15623]]) (Wt.yes rfl rfl rfl hk15938) rfl rfl hbd32 rfl rfl (code_Pure.calls (a0 := y15613) hr15624 hl15625 hy15940) rfl ?_)
                  rintro _ _ _ _ ⟨rfl, rfl, rfl⟩
                  refine TA.next (fun W hO => hO) ?_
                  refine TA.take 39 rfl (by kernel_rfl) rfl (PQ.then_ (PQ.then_ (PQ.inB (PQ.then_ (PQ.then_ (PQ.inB (PQ.then_ (PQ.inB (PQ.then_ (PQ.then_ (PQ.inB (PQ.then_ (PQ.then_ PQ.body))))))))))))) (Wt.yes rfl rfl rfl hk15938) (Val.not_ rfl) (fun W hO => hO) ?_
                  refine TA.take 40 rfl (by kernel_rfl) rfl (PQ.then_ (PQ.then_ (PQ.inB (PQ.then_ (PQ.then_ (PQ.inB (PQ.then_ (PQ.inB (PQ.then_ (PQ.then_ (PQ.inB (PQ.then_ (PQ.then_ PQ.body))))))))))))) (Wt.yes rfl rfl rfl rfl) (Val.pickY rfl hk15938 rfl) (fun W hO => hO) ?_
                  refine TA.take 41 rfl (by kernel_rfl) rfl (PQ.then_ (PQ.then_ (PQ.inB (PQ.then_ (PQ.then_ (PQ.inB (PQ.then_ (PQ.inB (PQ.then_ (PQ.then_ (PQ.inB (PQ.then_ (PQ.then_ PQ.body))))))))))))) rfl (Val.pickN rfl rfl rfl) (fun W hO => hO) ?_
                  refine TA.done (by kernel_rfl) ?_
                  exact fun a W hF hO => ⟨(!y15939), G13711, h, e13712, hr13714, hF.sub ⟨rfl, rfl, rfl, rfl, rfl, rfl, trivial⟩, hO.selT (Ls := [Blk b30 [.int .i64 y23.f0, .slice A5197 y23.f1.length c5198] 36, Blk b5 [.int .i64 a0.f0, .slice A1 a0.f1.length c2] 36]) [2, 3] 4 rfl rfl rfl⟩
                 ·
                  have hk15941 : y15935 = false := (by simpa using hg15937)
                  refine TA.not 37 rfl (by kernel_rfl) rfl (PQ.then_ (PQ.then_ (PQ.inB (PQ.then_ (PQ.then_ (PQ.inB (PQ.then_ (PQ.inB (PQ.then_ (PQ.then_ (PQ.inB (PQ.then_ (PQ.then_ PQ.body))))))))))))) (Wt.no rfl rfl rfl hk15941) (fun W hO => hO) ?_
                  refine TA.not 38 rfl (by kernel_rfl) rfl (PQ.then_ (PQ.then_ (PQ.inB (PQ.then_ (PQ.then_ (PQ.inB (PQ.then_ (PQ.inB (PQ.then_ (PQ.then_ (PQ.inB (PQ.then_ (PQ.then_ PQ.body))))))))))))) (Wt.no rfl rfl rfl hk15941) (fun W hO => hO) ?_
                  refine TA.not 39 rfl (by kernel_rfl) rfl (PQ.then_ (PQ.then_ (PQ.inB (PQ.then_ (PQ.then_ (PQ.inB (PQ.then_ (PQ.inB (PQ.then_ (PQ.then_ (PQ.inB (PQ.then_ (PQ.then_ PQ.body))))))))))))) (Wt.no rfl rfl rfl hk15941) (fun W hO => hO) ?_
                  refine TA.take 40 rfl (by kernel_rfl) rfl (PQ.then_ (PQ.then_ (PQ.inB (PQ.then_ (PQ.then_ (PQ.inB (PQ.then_ (PQ.inB (PQ.then_ (PQ.then_ (PQ.inB (PQ.then_ (PQ.then_ PQ.body))))))))))))) (Wt.yes rfl rfl rfl rfl) (Val.pickN rfl hk15941 rfl) (fun W hO => hO) ?_
                  refine TA.take 41 rfl (by kernel_rfl) rfl (PQ.then_ (PQ.then_ (PQ.inB (PQ.then_ (PQ.then_ (PQ.inB (PQ.then_ (PQ.inB (PQ.then_ (PQ.then_ (PQ.inB (PQ.then_ (PQ.then_ PQ.body))))))))))))) rfl (Val.pickN rfl rfl rfl) (fun W hO => hO) ?_
                  refine TA.done (by kernel_rfl) ?_
                  exact fun a W hF hO => ⟨false, G13711, h, e13712, hr13714, hF.sub ⟨rfl, rfl, rfl, rfl, rfl, rfl, trivial⟩, hO.selT (Ls := [Blk b30 [.int .i64 y23.f0, .slice A5197 y23.f1.length c5198] 36, Blk b5 [.int .i64 a0.f0, .slice A1 a0.f1.length c2] 36]) [2, 3] 4 rfl rfl rfl⟩
               ·
                have hk15942 : (!y15918) = false := (by simpa using hg15920)
                refine TA.not 21 rfl (by kernel_rfl) rfl (PQ.then_ (PQ.then_ (PQ.inB (PQ.then_ (PQ.then_ (PQ.inB (PQ.then_ (PQ.inB (PQ.then_ (PQ.then_ (PQ.inB (PQ.then_ (PQ.then_ PQ.body))))))))))))) (Wt.no rfl rfl rfl hk15942) (fun W hO => hO) ?_
                refine TA.not 22 rfl (by kernel_rfl) rfl (PQ.then_ (PQ.then_ (PQ.inB (PQ.then_ (PQ.then_ (PQ.inB (PQ.then_ (PQ.inB (PQ.then_ (PQ.then_ (PQ.inB (PQ.then_ (PQ.then_ PQ.body))))))))))))) (Wt.no rfl rfl rfl hk15942) (fun W hO => hO) ?_
                refine TA.not 23 rfl (by kernel_rfl) rfl (PQ.then_ (PQ.then_ (PQ.inB (PQ.then_ (PQ.then_ (PQ.inB (PQ.then_ (PQ.inB (PQ.then_ (PQ.then_ (PQ.inB (PQ.then_ (PQ.then_ PQ.body))))))))))))) (Wt.no rfl rfl rfl hk15942) (fun W hO => hO) ?_
                refine TA.take 24 rfl (by kernel_rfl) rfl (PQ.then_ (PQ.then_ (PQ.inB (PQ.then_ (PQ.then_ (PQ.inB (PQ.then_ (PQ.inB (PQ.then_ (PQ.then_ (PQ.inB (PQ.then_ (PQ.then_ PQ.body))))))))))))) (Wt.yes rfl rfl rfl rfl) (Val.pickN rfl hk15942 rfl) (fun W hO => hO) ?_
                refine TA.take 25 rfl (by kernel_rfl) rfl (PQ.then_ (PQ.then_ (PQ.inB (PQ.then_ (PQ.then_ (PQ.inB (PQ.then_ (PQ.inB (PQ.then_ (PQ.then_ (PQ.inB (PQ.then_ (PQ.then_ PQ.body))))))))))))) (Wt.yes rfl rfl rfl rfl) (Val.move rfl) (fun W hO => hO) ?_
                refine TA.not 26 rfl (by kernel_rfl) rfl (PQ.then_ (PQ.then_ (PQ.inB (PQ.then_ (PQ.then_ (PQ.inB (PQ.then_ (PQ.inB (PQ.then_ (PQ.then_ (PQ.inB (PQ.then_ (PQ.then_ PQ.body))))))))))))) (Wt.no rfl rfl rfl rfl) (fun W hO => hO) ?_
                refine TA.not 27 rfl (by kernel_rfl) rfl (PQ.then_ (PQ.then_ (PQ.inB (PQ.then_ (PQ.then_ (PQ.inB (PQ.then_ (PQ.inB (PQ.then_ (PQ.then_ (PQ.inB (PQ.then_ (PQ.then_ PQ.body))))))))))))) (Wt.no rfl rfl rfl rfl) (fun W hO => hO) ?_
                refine TA.not 28 rfl (by kernel_rfl) rfl (PQ.then_ (PQ.then_ (PQ.inB (PQ.then_ (PQ.then_ (PQ.inB (PQ.then_ (PQ.inB (PQ.then_ (PQ.then_ (PQ.inB (PQ.then_ (PQ.then_ PQ.body))))))))))))) (Wt.no rfl rfl rfl rfl) (fun W hO => hO) ?_
                refine TA.not 29 rfl (by kernel_rfl) rfl (PQ.then_ (PQ.then_ (PQ.inB (PQ.then_ (PQ.then_ (PQ.inB (PQ.then_ (PQ.inB (PQ.then_ (PQ.then_ (PQ.inB (PQ.then_ (PQ.then_ PQ.body))))))))))))) (Wt.no rfl rfl rfl rfl) (fun W hO => hO) ?_
                refine TA.not 30 rfl (by kernel_rfl) rfl (PQ.then_ (PQ.then_ (PQ.inB (PQ.then_ (PQ.then_ (PQ.inB (PQ.then_ (PQ.inB (PQ.then_ (PQ.then_ (PQ.inB (PQ.then_ (PQ.then_ PQ.body))))))))))))) (Wt.no rfl rfl rfl rfl) (fun W hO => hO) ?_
                refine TA.take 31 rfl (by kernel_rfl) rfl (PQ.then_ (PQ.then_ (PQ.inB (PQ.then_ (PQ.then_ (PQ.inB (PQ.then_ (PQ.inB (PQ.then_ (PQ.then_ (PQ.inB (PQ.then_ (PQ.then_ PQ.body))))))))))))) (Wt.yes rfl rfl rfl rfl) (Val.pickN rfl rfl rfl) (fun W hO => hO) ?_
                refine TA.take 32 rfl (by kernel_rfl) rfl (PQ.then_ (PQ.then_ (PQ.inB (PQ.then_ (PQ.then_ (PQ.inB (PQ.then_ (PQ.inB (PQ.then_ (PQ.then_ (PQ.inB (PQ.then_ (PQ.then_ PQ.body))))))))))))) rfl (Val.pickN rfl rfl rfl) (fun W hO => hO) ?_
                refine TA.take 33 rfl (by kernel_rfl) rfl (PQ.then_ (PQ.then_ (PQ.inB (PQ.then_ (PQ.then_ (PQ.inB (PQ.then_ (PQ.inB (PQ.then_ (PQ.then_ (PQ.inB (PQ.then_ (PQ.then_ PQ.body))))))))))))) rfl (Val.move rfl) (fun W hO => hO) ?_
                refine TA.take 34 rfl (by kernel_rfl) rfl (PQ.then_ (PQ.then_ (PQ.inB (PQ.then_ (PQ.then_ (PQ.inB (PQ.then_ (PQ.inB (PQ.then_ (PQ.then_ (PQ.inB (PQ.then_ (PQ.then_ PQ.body))))))))))))) (Wt.yes rfl rfl rfl rfl) (Val.loadsB 1 (cs := [.int .i64 y15586.f0, .int .i64 y15586.f1, .int .i64 y15586.f2, .int .i64 y15586.f3, .int .i64 y15586.f4, .slice A15595 y15586.f5.length c15596]) agg30 fsz30 rfl rfl rfl rfl) (fun W hO => hO) ?_
                obtain ⟨y15943, hy15944, h⟩ := bind_no h
                refine TA.eff 35 rfl (by kernel_rfl) rfl (TL.callV (Lin := []) (args := [.agg #[.int .i64 y15586.f0, .int .i64 y15586.f1, .int .i64 y15586.f2, .int .i64 y15586.f3, .int .i64 y15586.f4, .slice A15595 y15586.f5.length c15596]]) (Wt.yes rfl rfl rfl rfl) rfl rfl hbd32 rfl rfl (code_Pure.calls (a0 := y15586) hr15597 hl15598 hy15944) rfl ?_)
                rintro _ _ _ _ ⟨rfl, rfl, rfl⟩
                refine TA.next (fun W hO => hO) ?_
                refine TA.take 36 rfl (by kernel_rfl) rfl (PQ.then_ (PQ.then_ (PQ.inB (PQ.then_ (PQ.then_ (PQ.inB (PQ.then_ (PQ.inB (PQ.then_ (PQ.then_ (PQ.inB (PQ.then_ (PQ.then_ PQ.body))))))))))))) (Wt.yes rfl rfl rfl rfl) (Val.move rfl) (fun W hO => hO) ?_
                refine TK.split (p := y15943 = true) h (fun hg15945 h => ?_) (fun hg15945 h => ?_)
                ·
                 have hk15946 : y15943 = true := hg15945
                 refine TA.take 37 rfl (by kernel_rfl) rfl (PQ.then_ (PQ.then_ (PQ.inB (PQ.then_ (PQ.then_ (PQ.inB (PQ.then_ (PQ.inB (PQ.then_ (PQ.then_ (PQ.inB (PQ.then_ (PQ.then_ PQ.body))))))))))))) (Wt.yes rfl rfl rfl hk15946) (Val.loadsB 0 (cs := [.int .i64 y15613.f0, .int .i64 y15613.f1, .int .i64 y15613.f2, .int .i64 y15613.f3, .int .i64 y15613.f4, .slice A15622 y15613.f5.length c15623]) agg30 fsz30 rfl rfl rfl rfl) (fun W hO => hO) ?_
                 obtain ⟨y15947, hy15948, h⟩ := bind_no h
                 refine TA.eff 38 rfl (by kernel_rfl) rfl (TL.callV (Lin := []) (args := [.agg #[.int .i64 y15613.f0, .int .i64 y15613.f1, .int .i64 y15613.f2, .int .i64 y15613.f3, .int .i64 y15613.f4, .slice A15622 y15613.f5.length c15623]]) (Wt.yes rfl rfl rfl hk15946) rfl rfl hbd32 rfl rfl (code_Pure.calls (a0 := y15613) hr15624 hl15625 hy15948) rfl ?_)
                 rintro _ _ _ _ ⟨rfl, rfl, rfl⟩
                 refine TA.next (fun W hO => hO) ?_
                 refine TA.take 39 rfl (by kernel_rfl) rfl (PQ.then_ (PQ.then_ (PQ.inB (PQ.then_ (PQ.then_ (PQ.inB (PQ.then_ (PQ.inB (PQ.then_ (PQ.then_ (PQ.inB (PQ.then_ (PQ.then_ PQ.body))))))))))))) (Wt.yes rfl rfl rfl hk15946) (Val.not_ rfl) (fun W hO => hO) ?_
                 refine TA.take 40 rfl (by kernel_rfl) rfl (PQ.then_ (PQ.then_ (PQ.inB (PQ.then_ (PQ.then_ (PQ.inB (PQ.then_ (PQ.inB (PQ.then_ (PQ.then_ (PQ.inB (PQ.then_ (PQ.then_ PQ.body))))))))))))) (Wt.yes rfl rfl rfl rfl) (Val.pickY rfl hk15946 rfl) (fun W hO => hO) ?_
                 refine TA.take 41 rfl (by kernel_rfl) rfl (PQ.then_ (PQ.then_ (PQ.inB (PQ.then_ (PQ.then_ (PQ.inB (PQ.then_ (PQ.inB (PQ.then_ (PQ.then_ (PQ.inB (PQ.then_ (PQ.then_ PQ.body))))))))))))) rfl (Val.pickN rfl rfl rfl) (fun W hO => hO) ?_
                 refine TA.done (by kernel_rfl) ?_
                 exact fun a W hF hO => ⟨(!y15947), G13711, h, e13712, hr13714, hF.sub ⟨rfl, rfl, rfl, rfl, rfl, rfl, trivial⟩, hO.selT (Ls := [Blk b30 [.int .i64 y23.f0, .slice A5197 y23.f1.length c5198] 36, Blk b5 [.int .i64 a0.f0, .slice A1 a0.f1.length c2] 36]) [2, 3] 4 rfl rfl rfl⟩
                ·
                 have hk15949 : y15943 = false := (by simpa using hg15945)
                 refine TA.not 37 rfl (by kernel_rfl) rfl (PQ.then_ (PQ.then_ (PQ.inB (PQ.then_ (PQ.then_ (PQ.inB (PQ.then_ (PQ.inB (PQ.then_ (PQ.then_ (PQ.inB (PQ.then_ (PQ.then_ PQ.body))))))))))))) (Wt.no rfl rfl rfl hk15949) (fun W hO => hO) ?_
                 refine TA.not 38 rfl (by kernel_rfl) rfl (PQ.then_ (PQ.then_ (PQ.inB (PQ.then_ (PQ.then_ (PQ.inB (PQ.then_ (PQ.inB (PQ.then_ (PQ.then_ (PQ.inB (PQ.then_ (PQ.then_ PQ.body))))))))))))) (Wt.no rfl rfl rfl hk15949) (fun W hO => hO) ?_
                 refine TA.not 39 rfl (by kernel_rfl) rfl (PQ.then_ (PQ.then_ (PQ.inB (PQ.then_ (PQ.then_ (PQ.inB (PQ.then_ (PQ.inB (PQ.then_ (PQ.then_ (PQ.inB (PQ.then_ (PQ.then_ PQ.body))))))))))))) (Wt.no rfl rfl rfl hk15949) (fun W hO => hO) ?_
                 refine TA.take 40 rfl (by kernel_rfl) rfl (PQ.then_ (PQ.then_ (PQ.inB (PQ.then_ (PQ.then_ (PQ.inB (PQ.then_ (PQ.inB (PQ.then_ (PQ.then_ (PQ.inB (PQ.then_ (PQ.then_ PQ.body))))))))))))) (Wt.yes rfl rfl rfl rfl) (Val.pickN rfl hk15949 rfl) (fun W hO => hO) ?_
                 refine TA.take 41 rfl (by kernel_rfl) rfl (PQ.then_ (PQ.then_ (PQ.inB (PQ.then_ (PQ.then_ (PQ.inB (PQ.then_ (PQ.inB (PQ.then_ (PQ.then_ (PQ.inB (PQ.then_ (PQ.then_ PQ.body))))))))))))) rfl (Val.pickN rfl rfl rfl) (fun W hO => hO) ?_
                 refine TA.done (by kernel_rfl) ?_
                 exact fun a W hF hO => ⟨false, G13711, h, e13712, hr13714, hF.sub ⟨rfl, rfl, rfl, rfl, rfl, rfl, trivial⟩, hO.selT (Ls := [Blk b30 [.int .i64 y23.f0, .slice A5197 y23.f1.length c5198] 36, Blk b5 [.int .i64 a0.f0, .slice A1 a0.f1.length c2] 36]) [2, 3] 4 rfl rfl rfl⟩
           ·
            refine TC.exit ?_
            refine TQ.thenX ?_
            refine TQ.thenX ?_
            refine TQ.inBX ?_
            exact fun a W hF hO => ⟨G13711, A5197, c5198, Option.some.inj h, e13712, hr13714, hl5200, hF.sub ⟨rfl, rfl, rfl, rfl, trivial⟩, hO.selT (Ls := [Blk b30 [.int .i64 y23.f0, .slice A5197 y23.f1.length c5198] 36, Blk b5 [.int .i64 a0.f0, .slice A1 a0.f1.length c2] 36]) [0, 1] 2 rfl rfl rfl⟩
       ·
        refine TC.exit ?_
        refine TQ.thenX ?_
        refine TQ.thenX ?_
        refine TQ.inBX ?_
        exact fun a W hF hO => ⟨G5194, Option.some.inj h, e5195, hF.sub ⟨rfl, trivial⟩, hO.selT (Ls := []) [] 2 rfl rfl rfl⟩
   ·
    refine TC.region ?_
    refine TL.cons (TO.val rfl rfl rfl (Val.loadsB 0 (cs := [.int .i64 y23.f0, .slice A27 y23.f1.length c28]) agg36 fsz36 rfl rfl rfl rfl) ?_)
    refine TK.sel (Ls := [Row (Sh G25 k28) 28 (.slice A27 y23.f1.length c28) y23.f1, Blk b30 [.int .i64 y23.f0, .slice A27 y23.f1.length c28] 36, Blk b5 [.int .i64 a0.f0, .slice A1 a0.f1.length c2] 36]) [1, 0, 2] 3 rfl rfl rfl ?_
    refine TK.share (fun G15950 e15951 hs15952 _ => ?_)
    have rd15953 : Rd G15950 k28 A27 y23.f1 := Rd.unsh (Rd.row hs15952) e15951
    have le15954 : y23.f1.length ≤ c28 := Row.le hs15952
    obtain ⟨y15955, hy15956, h⟩ := bind_no h
    refine TL.cons (TL.callV (Lin := []) (args := [.agg #[.int .i64 y23.f0, .slice A27 y23.f1.length c28], .int .i64 256]) rfl rfl rfl hbd23 rfl rfl (code_Right.calls (a0 := y23) (a1 := 256) rd15953 le15954 hy15956) rfl ?_)
    rintro _ _ _ _ ⟨rfl, rfl, rfl⟩
    refine TL.cons (TO.val rfl rfl rfl (Val.not_ rfl) ?_)
    refine TL.cons (TO.val rfl rfl rfl (Val.move rfl) ?_)
    refine TK.split (p := (!y15955) = true) h (fun hg15957 h => ?_) (fun hg15957 h => ?_)
    ·
     have hk15958 : (!y15955) = true := hg15957
     refine TL.cons (TL.not (Wt.no rfl rfl rfl hk15958) rfl ?_)
     refine TL.cons (TL.not (Wt.no rfl rfl rfl hk15958) rfl ?_)
     refine TL.cons (TL.not (Wt.no rfl rfl rfl hk15958) rfl ?_)
     refine TL.cons (TL.not (Wt.no rfl rfl rfl hk15958) rfl ?_)
     refine TL.cons (TL.not (Wt.no rfl rfl rfl hk15958) rfl ?_)
     refine TL.cons (TL.not (Wt.no rfl rfl rfl hk15958) rfl ?_)
     refine TL.cons (TL.not (Wt.no rfl rfl rfl hk15958) rfl ?_)
     refine TL.cons (TO.val rfl rfl rfl (Val.pickY rfl hk15958 rfl) ?_)
     refine TL.cons (TO.val rfl rfl rfl (Val.move rfl) ?_)
     refine TL.cons (TL.not (Wt.no rfl rfl rfl rfl) rfl ?_)
     refine TL.cons (TL.not (Wt.no rfl rfl rfl rfl) rfl ?_)
     refine TL.cons (TL.not (Wt.no rfl rfl rfl rfl) rfl ?_)
     refine TL.cons (TL.not (Wt.no rfl rfl rfl rfl) rfl ?_)
     refine TL.cons (TL.not (Wt.no rfl rfl rfl rfl) rfl ?_)
     refine TL.cons (TO.val rfl rfl rfl (Val.pickY rfl rfl rfl) ?_)
     refine TL.nil ?_
     exact fun a W hF hO => ⟨true, G15950, A27, c28, h, (Gd.le.trans (Gd.le.trans e18 e26) e15951), rd15953, le15954, hF.sub ⟨rfl, rfl, rfl, rfl, trivial⟩, hO.selT (Ls := [Blk b30 [.int .i64 y23.f0, .slice A27 y23.f1.length c28] 36, Blk b5 [.int .i64 a0.f0, .slice A1 a0.f1.length c2] 36]) [0, 1] 2 rfl rfl rfl⟩
    ·
     have hk15959 : (!y15955) = false := (by simpa using hg15957)
     refine TL.cons (TO.val (Wt.yes rfl rfl rfl hk15959) rfl rfl (Val.fieldAddrB Try.underlying36 rfl fsz34 rfl rfl rfl) ?_)
     refine TL.cons (TO.val (Wt.yes rfl rfl rfl hk15959) rfl rfl (Val.loadB 0 agg34 rfl rfl rfl) ?_)
     refine TL.cons (TO.val (Wt.yes rfl rfl rfl hk15959) rfl rfl (Val.len Try.underlying34 rfl) ?_)
     refine TL.cons (TO.val (Wt.yes rfl rfl rfl hk15959) rfl rfl (Val.fieldAddrB Try.underlying36 rfl fsz34 rfl rfl rfl) ?_)
     refine TL.cons (TO.val (Wt.yes rfl rfl rfl hk15959) rfl rfl (Val.loadB 1 agg34 rfl rfl rfl) ?_)
     refine TL.cons (TO.val (Wt.yes rfl rfl rfl hk15959) rfl rfl (Val.len Try.underlying34 rfl) ?_)
     refine TL.cons (TO.val (Wt.yes rfl rfl rfl hk15959) rfl rfl (Val.cmp rfl rfl run_neq) ?_)
     refine TL.cons (TO.val rfl rfl rfl (Val.pickN rfl hk15959 rfl) ?_)
     refine TL.cons (TO.val rfl rfl rfl (Val.move rfl) ?_)
     refine TK.split (p := (!decide ((y23.f1.length : Int) = (a0.f1.length : Int))) = true) h (fun hg15960 h => ?_) (fun hg15960 h => ?_)
     ·
      have hk15961 : (!decide ((y23.f1.length : Int) = (a0.f1.length : Int))) = true := hg15960
      refine TL.cons (TL.not (Wt.no rfl rfl rfl hk15961) rfl ?_)
      refine TL.cons (TL.not (Wt.no rfl rfl rfl hk15961) rfl ?_)
      refine TL.cons (TL.not (Wt.no rfl rfl rfl hk15961) rfl ?_)
      refine TL.cons (TL.not (Wt.no rfl rfl rfl hk15961) rfl ?_)
      refine TL.cons (TL.not (Wt.no rfl rfl rfl hk15961) rfl ?_)
      refine TL.cons (TO.val rfl rfl rfl (Val.pickY rfl hk15961 rfl) ?_)
      refine TL.nil ?_
      exact fun a W hF hO => ⟨true, G15950, A27, c28, h, (Gd.le.trans (Gd.le.trans e18 e26) e15951), rd15953, le15954, hF.sub ⟨rfl, rfl, rfl, rfl, trivial⟩, hO.selT (Ls := [Blk b30 [.int .i64 y23.f0, .slice A27 y23.f1.length c28] 36, Blk b5 [.int .i64 a0.f0, .slice A1 a0.f1.length c2] 36]) [0, 1] 2 rfl rfl rfl⟩
     ·
      have hk15962 : (!decide ((y23.f1.length : Int) = (a0.f1.length : Int))) = false := (by simpa using hg15960)
      refine TL.cons (TO.val (Wt.yes rfl rfl rfl hk15962) rfl rfl (Val.fieldAddrB Try.underlying36 rfl fsz3 rfl rfl rfl) ?_)
      refine TL.cons (TO.val (Wt.yes rfl rfl rfl hk15962) rfl rfl (Val.loadB 0 agg3 rfl rfl rfl) ?_)
      refine TL.cons (TO.val (Wt.yes rfl rfl rfl hk15962) rfl rfl (Val.fieldAddrB Try.underlying36 rfl fsz3 rfl rfl rfl) ?_)
      refine TL.cons (TO.val (Wt.yes rfl rfl rfl hk15962) rfl rfl (Val.loadB 1 agg3 rfl rfl rfl) ?_)
      refine TL.cons (TO.val (Wt.yes rfl rfl rfl hk15962) rfl rfl (Val.cmp rfl rfl run_neq) ?_)
      refine TL.cons (TO.val rfl rfl rfl (Val.pickN rfl hk15962 rfl) ?_)
      refine TL.nil ?_
      exact fun a W hF hO => ⟨(!decide (y23.f0 = a0.f0)), G15950, A27, c28, h, (Gd.le.trans (Gd.le.trans e18 e26) e15951), rd15953, le15954, hF.sub ⟨rfl, rfl, rfl, rfl, trivial⟩, hO.selT (Ls := [Blk b30 [.int .i64 y23.f0, .slice A27 y23.f1.length c28] 36, Blk b5 [.int .i64 a0.f0, .slice A1 a0.f1.length c2] 36]) [0, 1] 2 rfl rfl rfl⟩
 ·
  refine TC.region ?_
  refine TL.cons (TO.val rfl rfl rfl (Val.move rfl) ?_)
  refine TL.cons (TO.val rfl rfl rfl (Val.not_ rfl) ?_)
  refine TL.cons (TO.val rfl rfl rfl (Val.move rfl) ?_)
  refine TK.split (p := (!y10) = true) h (fun hg15963 h => ?_) (fun hg15963 h => ?_)
  ·
   have hk15964 : (!y10) = true := hg15963
   refine TL.cons (TL.not (Wt.no rfl rfl rfl hk15964) rfl ?_)
   refine TL.cons (TL.not (Wt.no rfl rfl rfl hk15964) rfl ?_)
   refine TL.cons (TL.not (Wt.no rfl rfl rfl hk15964) rfl ?_)
   refine TL.cons (TO.val rfl rfl rfl (Val.pickY rfl hk15964 rfl) ?_)
   refine TL.nil ?_
   exact fun a W hF hO => ⟨true, G8, h, e9, hF.sub ⟨rfl, rfl, rfl, trivial⟩, hO.selT (Ls := [Blk b5 [.int .i64 a0.f0, .slice A1 a0.f1.length c2] 36]) [0] 1 rfl rfl rfl⟩
  ·
   have hk15965 : (!y10) = false := (by simpa using hg15963)
   refine TL.cons (TO.val (Wt.yes rfl rfl rfl hk15965) rfl rfl (Val.loadsB 0 (cs := [.int .i64 a0.f0, .slice A1 a0.f1.length c2]) agg36 fsz36 rfl rfl rfl rfl) ?_)
   obtain ⟨y15966, hy15967, h⟩ := bind_no h
   refine TL.cons (TL.callV (Lin := []) (args := [.agg #[.int .i64 a0.f0, .slice A1 a0.f1.length c2], .int .i64 256]) (Wt.yes rfl rfl rfl hk15965) rfl rfl hbd23 rfl rfl (code_Right.calls (a0 := a0) (a1 := 256) (hr3.up e9) hl4 hy15967) rfl ?_)
   rintro _ _ _ _ ⟨rfl, rfl, rfl⟩
   refine TL.cons (TO.val (Wt.yes rfl rfl rfl hk15965) rfl rfl (Val.not_ rfl) ?_)
   refine TL.cons (TO.val rfl rfl rfl (Val.pickN rfl hk15965 rfl) ?_)
   refine TL.nil ?_
   exact fun a W hF hO => ⟨(!y15966), G8, h, e9, hF.sub ⟨rfl, rfl, rfl, trivial⟩, hO.selT (Ls := [Blk b5 [.int .i64 a0.f0, .slice A1 a0.f1.length c2] 36]) [0] 1 rfl rfl rfl⟩
end Go.Proofs.Ytmacdhkfgoahcaa.Sy
set_option linter.unusedVariables false
set_option linter.unusedSimpArgs false
namespace Go.Proofs.Ytmacdhkfgoahcaa.Sy
open Go Go.RowKit Go.Proofs.YtmacdhkfgoahcaaW.PrintWords Go.Proofs.Ytmacdhkfgoahcaa.SyO
theorem ints_f {a b : List Int} (hl : a.length ≤ 1000) : swageref02_Ints.f a b = some (decide (a = b)) := by
  unfold swageref02_Ints.f
  by_cases h : a.length = b.length
  · rw [decide_eq_true (by omega : (a.length : Int) = (b.length : Int)), if_neg (by simp)]
    have hz : (a.zip b).length = a.length := by rw [List.length_zip]; omega
    have := loopd (xs := a.zip b) (F := fun n i => swageref02_Ints.l0 a b n i) (P := fun ps r => (r = some (.inr ()) ∧ ∀ p ∈ ps, p.1 = p.2) ∨ (r = some (.inl false) ∧ ¬ ∀ p ∈ ps, p.1 = p.2)) (by omega) (fun n => ?_) (fun n i p r hd hlt hat hm hw ih => ?_) (a.length + 1) (by omega)
    · rw [zip_all h] at this
      rcases this with ⟨h1, h2⟩ | ⟨h1, h2⟩
      · rw [h1, decide_eq_true h2]; rfl
      · rw [h1, decide_eq_false h2]; rfl
    · left; rw [hz]; simp [swageref02_Ints.l0]
    · obtain ⟨h1, h2⟩ := at_zip hat
      rw [swageref02_Ints.l0, if_pos (by omega), h1, Option.bind_some, h2, Option.bind_some]
      by_cases he : p.1 = p.2
      · rw [decide_eq_true he, if_neg (by simp), hw]
        rcases ih with ⟨i1, i2⟩ | ⟨i1, i2⟩
        · exact .inl ⟨i1, by simpa [he] using i2⟩
        · exact .inr ⟨i1, fun hh => i2 (fun q hq => hh q (List.mem_cons_of_mem _ hq))⟩
      · rw [decide_eq_false he, if_pos (by simp)]
        exact .inr ⟨rfl, fun hh => he (hh p List.mem_cons_self)⟩
  · rw [decide_eq_false (by omega : ¬ (a.length : Int) = (b.length : Int)), if_pos (by simp), decide_eq_false (fun e => h (by rw [e]))]
theorem rsameOp_f {a b : S30} (hl : a.f5.length ≤ 20) : ∃ r, swageref14_SameOp.f a b = some r ∧ (r = true ↔ a = b) := by
  unfold swageref14_SameOp.f
  rw [ints_f (by omega), Option.bind_some]
  have key : (a = b) ↔ (a.f5 = b.f5 ∧ a.f0 = b.f0 ∧ a.f1 = b.f1 ∧ a.f2 = b.f2 ∧ a.f3 = b.f3 ∧ a.f4 = b.f4) := by
    constructor
    · rintro rfl; simp
    · rintro ⟨h5, h0, h1, h2, h3, h4⟩; cases a; cases b; simp only at h5 h0 h1 h2 h3 h4; subst h5; subst h0; subst h1; subst h2; subst h3; subst h4; rfl
  rw [key]
  by_cases h5 : a.f5 = b.f5
  · rw [decide_eq_true h5, if_pos rfl]
    by_cases h0 : a.f0 = b.f0
    · rw [if_pos h0]
      by_cases h1 : a.f1 = b.f1
      · rw [if_pos h1]
        by_cases h2 : a.f2 = b.f2
        · rw [if_pos h2]
          by_cases h3 : a.f3 = b.f3
          · rw [if_pos h3]; exact ⟨_, rfl, by simp [h5, h0, h1, h2, h3]⟩
          · rw [if_neg h3]; exact ⟨_, rfl, by simp [h3]⟩
        · rw [if_neg h2]; exact ⟨_, rfl, by simp [h2]⟩
      · rw [if_neg h1]; exact ⟨_, rfl, by simp [h1]⟩
    · rw [if_neg h0]; exact ⟨_, rfl, by simp [h0]⟩
  · rw [decide_eq_false h5, if_neg (by simp)]; exact ⟨_, rfl, by simp [h5]⟩
/-- An operation beside what became of it. -/
structure Rr (x y : S30) : Prop where
  ok : okOp y 256 = true
  args : y.f5.length ≤ 20
  dst : y.f1 = x.f1
  one : x.f0 = 1 → y = x
  kind : (y.f0 = x.f0 ∧ y.f4 = x.f4) ∨ ((y.f0 = 1 ∨ y.f0 = 3) ∧ (x.f0 = 2 ∨ x.f0 = 3))
def RL : List S30 → List S30 → Prop
  | [], [] => True
  | x :: xs, y :: ys => Rr x y ∧ RL xs ys
  | _, _ => False
theorem RL.len : ∀ {xs ys : List S30}, RL xs ys → ys.length = xs.length
  | [], [], _ => rfl
  | x :: xs, y :: ys, h => by simp [RL.len h.2]
theorem RL.get {xs ys : List S30} {i : Nat} {x : S30} (h : RL xs ys) (hx : xs[i]? = some x) : ∃ y, ys[i]? = some y ∧ Rr x y := by
  induction xs generalizing ys i with
  | nil => simp at hx
  | cons z zs ih =>
    cases ys with
    | nil => exact h.elim
    | cons y ys =>
      cases i with
      | zero => simp at hx; subst hx; exact ⟨y, rfl, h.1⟩
      | succ i => simpa using ih h.2 (i := i) (by simpa using hx)
theorem RL.mem : ∀ {xs ys : List S30}, RL xs ys → ∀ y ∈ ys, ∃ x, Rr x y
  | [], [], _, _, hz => by cases hz
  | x :: xs, y :: ys, h, z, hz => by
    rcases List.mem_cons.1 hz with rfl | hz
    · exact ⟨x, h.1⟩
    · exact RL.mem h.2 z hz
/-- What a block's operations bear. -/
def Bo (l : List S30) : Prop := ∀ o ∈ l, okOp o 256 = true ∧ o.f5.length ≤ 20 ∧ wfi o.f4
theorem one_t {k : Nat} {num cop : MpS} (h : Kn k num cop) (hk : k < 1000) {o : S30} (hok : okOp o 256 = true) (hl : o.f5.length ≤ 20) (hw : wfi o.f4) : ∃ p q, fold_facts_replaced.f num cop o = some p ∧ fold_numbers_op.f num p = some q ∧ Rr o q ∧ ∃ z, fold_facts_learn.f num cop q = some z ∧ Kn (k + 1) z.1 z.2 := by
  obtain ⟨p, p1, p2, p3, p4, p5, p6, p7⟩ := repl_f h hl hok
  obtain ⟨q, q1, q2, q3⟩ := op_t h.nv (o := p) (by omega) p2
  have hR : Rr o q ∧ wfi q.f4 := by
    rcases q3 with rfl | ⟨hk2, q3⟩
    · exact ⟨⟨q2, by omega, p5, p7, .inl ⟨p4, p6⟩⟩, by rw [p6]; exact hw⟩
    · rcases q3 with ⟨n, hn, rfl⟩ | ⟨a, ha, rfl⟩ | rfl
      · exact ⟨⟨q2, by simp, p5, fun h1 => by omega, .inr ⟨.inl rfl, by omega⟩⟩, hn⟩
      · exact ⟨⟨q2, by simp, p5, fun h1 => by omega, .inr ⟨.inr rfl, by omega⟩⟩, (by decide : wfi 0)⟩
      · exact ⟨⟨q2, by omega, p5, fun h1 => by omega, .inl ⟨p4, p6⟩⟩, by rw [p6]; exact hw⟩
  exact ⟨p, q, p1, q1, hR.1, learn_t h hk q2 hR.2⟩
theorem block_t {b : S28} (hl : b.f0.length ≤ 250) (hb : Bo b.f0) {n : Nat} (hn : (n : Int) ≤ 4096) (ht : okTerm b.f1 n = true) : ∃ q, fold_Block.f b = some q ∧ RL b.f0 q.f0 ∧ okTerm q.f1 n = true := by
  have := loopd (xs := b.f0) (F := fun n i acc num cop => fold_Block.l0 b n i acc num cop) (P := fun os f => ∀ (k : Nat) (acc : List S30) (num cop : MpS), Kn k num cop → k + os.length ≤ 900 → acc.length + os.length ≤ 900 → ∃ l num' cop' k', f acc num cop = some (acc ++ l, num', cop') ∧ Kn k' num' cop' ∧ RL os l) (by omega)
    (fun n k acc num cop h _ _ => ⟨[], num, cop, k, by simp [fold_Block.l0], h, trivial⟩)
    (fun n i o os hd hlt hat hm hw ih k acc num cop h h1 h2 => by
      obtain ⟨g1, g2, g3⟩ := hb o hm
      simp only [List.length_cons] at h1 h2
      obtain ⟨p, q, p1, q1, hR, z, z1, z2⟩ := one_t h (by omega) g1 g2 g3
      obtain ⟨l, num', cop', k', e1, e2, e3⟩ := ih (k + 1) (acc ++ [q]) z.1 z.2 z2 (by omega) (by simp; omega)
      refine ⟨q :: l, num', cop', k', ?_, e2, hR, e3⟩
      show fold_Block.l0 b (n + 1) i acc num cop = _
      rw [fold_Block.l0, if_pos hlt, hat, Option.bind_some, p1, Option.bind_some, q1, Option.bind_some, z1, Option.bind_some, if_pos (by omega), hw]
      have e1' : fold_Block.l0 b n ((i + 1 : Nat) : Int) (acc ++ [q]) z.1 z.2 = _ := e1
      rw [e1']; simp) (b.f0.length + 1) (by omega)
  obtain ⟨l, num, cop, k, e1, e2, e3⟩ := this 0 [] mnil mnil ⟨Nat.le_refl _, Nat.le_refl _, (fun r v hv => by cases hv), (fun r v hv => by cases hv)⟩ (by omega) (by simp; omega)
  obtain ⟨t, t1, t2⟩ := term_t e2 hn ht
  have e1' : fold_Block.l0 b (b.f0.length + 1) 0 [] mnil mnil = _ := e1
  unfold fold_Block.f
  rw [e1', Option.bind_some]
  simp only [List.nil_append]
  rw [t1, Option.bind_some]
  exact ⟨_, rfl, e3, t2⟩
/-- Blocks beside what became of them. -/
def Bb (n : Nat) : List S28 → List S28 → Prop
  | [], [] => True
  | x :: xs, y :: ys => (RL x.f0 y.f0 ∧ okTerm y.f1 n = true) ∧ Bb n xs ys
  | _, _ => False
theorem Bb.len {n : Nat} : ∀ {xs ys : List S28}, Bb n xs ys → ys.length = xs.length
  | [], [], _ => rfl
  | x :: xs, y :: ys, h => by simp [Bb.len h.2]
theorem Bb.get {n : Nat} {xs ys : List S28} {i : Nat} {x : S28} (h : Bb n xs ys) (hx : xs[i]? = some x) : ∃ y, ys[i]? = some y ∧ RL x.f0 y.f0 ∧ okTerm y.f1 n = true := by
  induction xs generalizing ys i with
  | nil => simp at hx
  | cons z zs ih =>
    cases ys with
    | nil => exact h.elim
    | cons y ys =>
      cases i with
      | zero => simp at hx; subst hx; exact ⟨y, rfl, h.1⟩
      | succ i => simpa using ih h.2 (i := i) (by simpa using hx)
theorem Bb.mem {n : Nat} : ∀ {xs ys : List S28}, Bb n xs ys → ∀ y ∈ ys, ∃ x ∈ xs, RL x.f0 y.f0 ∧ okTerm y.f1 n = true
  | [], [], _, _, hz => by cases hz
  | x :: xs, y :: ys, h, z, hz => by
    rcases List.mem_cons.1 hz with rfl | hz
    · exact ⟨x, List.mem_cons_self, h.1⟩
    · obtain ⟨w, w1, w2⟩ := Bb.mem h.2 z hz
      exact ⟨w, List.mem_cons_of_mem _ w1, w2⟩
theorem Bb.ops {n : Nat} : ∀ {xs ys : List S28}, Bb n xs ys → opsN ys = opsN xs
  | [], [], _ => rfl
  | x :: xs, y :: ys, h => by
    have h1 := Bb.ops h.2
    have h2 := RL.len h.1.1
    simp only [opsN, List.map_cons, List.sum_cons] at h1 ⊢
    rw [h1, h2]
theorem func_t {f : S36} (hf : Fewp f) (hb : ∀ b ∈ f.f1, Bo b.f0) (ht : ∀ b ∈ f.f1, okTerm b.f1 f.f1.length = true) : ∃ q, fold_Func.f f = some q ∧ q.f0 = f.f0 ∧ Bb f.f1.length f.f1 q.f1 := by
  obtain ⟨f1, f2, f3⟩ := hf
  have hc : slices_Clone_api_Block_api_Block.f f.f1 = some f.f1 := by unfold slices_Clone_api_Block_api_Block.f; rw [if_pos (by simp; omega)]; simp
  have := loopd (xs := f.f1) (F := fun n i w => fold_Func.l0 f.f1 n w i) (P := fun bs g => ∀ pre : List S28, pre.length + bs.length = f.f1.length → ∃ r, g (pre ++ bs) = some (pre ++ r) ∧ Bb f.f1.length bs r) (by omega)
    (fun n pre h => ⟨[], by simp [fold_Func.l0], trivial⟩)
    (fun n i b bs hd hlt hat hm hw ih pre h => by
      obtain ⟨q, q1, q2, q3⟩ := block_t (f3 b hm).1 (hb b hm) (n := f.f1.length) (by omega) (ht b hm)
      have hi : pre.length = i := by
        have := congrArg List.length hd
        rw [List.length_drop] at this
        simp only [List.length_cons] at this h
        omega
      have hg : at? (pre ++ b :: bs) (i : Int) = some b := by
        unfold at?; rw [if_pos (by omega), Int.toNat_natCast, ← hi]; simp
      obtain ⟨r, r1, r2⟩ := ih (pre ++ [q]) (by simp at h ⊢; omega)
      refine ⟨q :: r, ?_, ⟨q2, q3⟩, r2⟩
      show fold_Func.l0 f.f1 (n + 1) (pre ++ b :: bs) i = _
      rw [fold_Func.l0, if_pos hlt, hg, Option.bind_some, q1, Option.bind_some, Option.bind_some, Int.toNat_natCast, hw]
      have hset : (pre ++ b :: bs).set i q = pre ++ [q] ++ bs := by rw [← hi]; simp
      rw [hset]
      have r1' : fold_Func.l0 f.f1 n (pre ++ [q] ++ bs) ((i + 1 : Nat) : Int) = _ := r1
      rw [r1']; simp) (f.f1.length + 1) (by omega)
  obtain ⟨r, r1, r2⟩ := this [] (by simp)
  unfold fold_Func.f
  have r1' : fold_Func.l0 f.f1 (f.f1.length + 1) f.f1 0 = some r := by simpa using r1
  rw [hc, Option.bind_some, r1', Option.bind_some]
  exact ⟨_, rfl, rfl, r2⟩
/-! #### Pure -/
theorem has_t (k : Int) : ∃ b, slices_Contains_int_int.f [4, 5, 9, 10] k = some b := by
  unfold slices_Contains_int_int.f slices_Index_int_int.f
  have w1 : IntKind.i64.wrap 1 = 1 := by decide
  have w2 : IntKind.i64.wrap 2 = 2 := by decide
  have w3 : IntKind.i64.wrap 3 = 3 := by decide
  have w4 : IntKind.i64.wrap 4 = 4 := by decide
  by_cases h1 : k = 4 <;> by_cases h2 : k = 5 <;> by_cases h3 : k = 9 <;> by_cases h4 : k = 10 <;> simp [slices_Index_int_int.l0, at?, h1, h2, h3, h4, w1, w2, w3, w4]
theorem pure_t (o : S30) : ∃ b, code_Pure.f o = some b ∧ ((o.f0 = 1 ∨ o.f0 = 3) → b = true) ∧ (¬ o.f0 = 1 → ¬ o.f0 = 2 → ¬ o.f0 = 3 → b = false) := by
  obtain ⟨c, hc⟩ := has_t o.f4
  unfold code_Pure.f
  simp only [jn, hc, Option.bind_some]
  by_cases h1 : o.f0 = 1
  · exact ⟨true, by simp [h1], fun _ => rfl, fun h => absurd h1 h⟩
  · by_cases h3 : o.f0 = 3
    · exact ⟨true, by simp [h3], fun _ => rfl, fun _ _ h => absurd h3 h⟩
    · by_cases h2 : o.f0 = 2
      · exact ⟨!c, by simp [h2], fun h => by omega, fun _ h => absurd h2 h⟩
      · exact ⟨false, by simp [h1, h2, h3], fun h => by omega, fun _ _ _ => rfl⟩
theorem pure_same {x y : S30} (h0 : y.f0 = x.f0) (h4 : y.f4 = x.f4) : code_Pure.f y = code_Pure.f x := by
  unfold code_Pure.f; rw [h0, h4]
/-! #### The law -/
theorem small24 : swagelaw24_small.f = some true := by decide +kernel
theorem law_l1 {a y : S36} {x : Int} {b c : S28} (hb : at? a.f1 x = some b) (hc : at? y.f1 x = some c) (hl : b.f0.length ≤ 250) (hB : Bo b.f0) (hR : RL b.f0 c.f0) : swagelaw24_FoldCounts.l1 a y x (b.f0.length + 1) 0 = some (.inr ()) := by
  refine loopd (xs := b.f0) (F := fun n i => swagelaw24_FoldCounts.l1 a y x n i) (P := fun _ r => r = some (.inr ())) (by omega) (fun n => by simp [swagelaw24_FoldCounts.l1, hb]) (fun n i o os hd hlt hat hm hw ih => ?_) (b.f0.length + 1) (by omega)
  obtain ⟨q, q1, q2⟩ := RL.get hR (at_nat.1 hat)
  have q1' : at? c.f0 (i : Int) = some q := at_nat.2 q1
  have s1 := sets_ok (hB o hm).1
  have s2 := sets_ok q2.ok
  obtain ⟨px, e1, e2, e3⟩ := pure_t o
  obtain ⟨py, g1, g2, g3⟩ := pure_t q
  have hpp : px = true → py = true := fun hp => by
    rcases q2.kind with ⟨k1, k2⟩ | ⟨k1, k2⟩
    · rw [pure_same k1 k2, e1] at g1; exact (Option.some.inj g1).symm.trans hp
    · exact g2 k1
  have hkk : px = false → ¬ o.f0 = 2 → o.f0 = q.f0 := fun hp h2 => by
    rcases q2.kind with ⟨k1, k2⟩ | ⟨k1, k2⟩
    · exact k1.symm
    · have h3 : o.f0 = 3 := by omega
      rw [e2 (.inr h3)] at hp; cases hp
  rw [swagelaw24_FoldCounts.l1, hb, Option.bind_some, if_pos hlt, hat, Option.bind_some, hc, Option.bind_some, q1', Option.bind_some]
  simp only [jn, s1, s2, e1, g1, Option.bind_some, q2.dst, decide_true, Bool.not_true, Bool.false_eq_true, if_false, hw]
  by_cases h1 : o.f0 = 1
  · obtain ⟨r, r1, r2⟩ := rsameOp_f (a := o) (b := q) (hB o hm).2.1
    have hr : r = true := r2.2 (q2.one h1).symm
    have hp : px = true := e2 (.inl h1)
    rw [if_pos h1, r1, hr, hp, hpp hp]
    simpa using ih
  · rw [if_neg h1]
    cases px with
    | true => rw [hpp rfl]; simpa using ih
    | false =>
      by_cases h2 : o.f0 = 2
      · simp [h2]; exact ih
      · have := hkk rfl h2
        simp [h2, ← this]; exact ih
theorem foldCounts_law (a0 : S36) (h : ok36 a0) : swagelaw24_FoldCounts.f a0 = some true := by
  obtain ⟨b, b1, b2⟩ := few_f h
  unfold swagelaw24_FoldCounts.f
  rw [small24, Option.bind_some, b1, Option.bind_some]
  simp only [jn]
  cases b with
  | false => rw [if_pos (by simp), if_pos trivial]
  | true =>
    have hf := b2 rfl
    obtain ⟨f1, f2, f3⟩ := hf
    rw [if_neg (by simp), cright_f (by omega) (by omega) (b2 rfl), Option.bind_some]
    cases hr : okFn a0 256 with
    | false => rw [if_pos (by simp)]
    | true =>
      rw [if_neg (by simp)]
      have hr' := hr
      unfold okFn at hr'
      simp only [Bool.and_eq_true, decide_eq_true_eq, List.all_eq_true] at hr'
      obtain ⟨⟨⟨r1, r2⟩, r3⟩, r4⟩ := hr'
      have hB : ∀ b ∈ a0.f1, Bo b.f0 := fun b hb o ho => ⟨r4 b hb o ho, (f3 b hb).2 o ho, ((h.2.2 b hb).1.2 o ho).2.2.2.2.1⟩
      obtain ⟨y, y1, y2, y3⟩ := func_t (b2 rfl) hB r3
      have hlen := Bb.len y3
      have hfy : Fewp y := ⟨by omega, by rw [Bb.ops y3]; exact f2, fun z hz => by
        obtain ⟨w, w1, w2, w3⟩ := Bb.mem y3 z hz
        refine ⟨by rw [RL.len w2]; exact (f3 w w1).1, fun o ho => ?_⟩
        obtain ⟨x, hx⟩ := RL.mem w2 o ho
        exact hx.args⟩
      have hoy : okFn y 256 = true := by
        unfold okFn
        simp only [Bool.and_eq_true, decide_eq_true_eq, List.all_eq_true]
        refine ⟨⟨⟨by omega, by omega⟩, fun z hz => ?_⟩, fun z hz o ho => ?_⟩
        · obtain ⟨w, w1, w2, w3⟩ := Bb.mem y3 z hz
          rw [hlen]; exact w3
        · obtain ⟨w, w1, w2, w3⟩ := Bb.mem y3 z hz
          obtain ⟨x, hx⟩ := RL.mem w2 o ho
          exact hx.ok
      have h0 : swagelaw24_FoldCounts.l0 a0 y (a0.f1.length + 1) 0 = some (.inr ()) := by
        refine loopd (xs := a0.f1) (F := fun n i => swagelaw24_FoldCounts.l0 a0 y n i) (P := fun _ r => r = some (.inr ())) (by omega) (fun n => by simp [swagelaw24_FoldCounts.l0]) (fun n i b bs hd hlt hat hm hw ih => ?_) (a0.f1.length + 1) (by omega)
        obtain ⟨c, c1, c2, c3⟩ := Bb.get y3 (at_nat.1 hat)
        have c1' : at? y.f1 (i : Int) = some c := at_nat.2 c1
        have hl1 := law_l1 hat c1' (f3 b hm).1 (hB b hm) c2
        rw [swagelaw24_FoldCounts.l0, if_pos hlt, c1', Option.bind_some, hat, Option.bind_some, if_neg (by simp [RL.len c2])]
        simp only [Option.elim_some]
        rw [hl1, Option.bind_some, hw]; exact ih
      rw [y1, Option.bind_some, cright_f (by omega) (by omega) hfy, Option.bind_some, hoy, h0]
      simp [hlen, y2]
end Go.Proofs.Ytmacdhkfgoahcaa.Sy
