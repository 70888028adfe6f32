/- Texts of this work, joined: SyF61, SyF28, SyF14, SyF15, CcE, SyF18, SyF19, SyF82, SyF56, SyF20, SyF22, SyF32, SyF65, SyF66, SyF86. -/
import Derived.Test.YtmacdhkfgoahcaaDoorSyNCodeCopiesb
set_option linter.unusedVariables false
set_option linter.unusedSimpArgs false
set_option maxRecDepth 100000
set_option maxHeartbeats 4000000
namespace Go.Proofs.YtmacdhkfgoahcaaDoor.Sy
open Go Go.RowKit Go.Proofs.YtmacdhkfgoahcaaDoorW.PrintWords 
def swageref14_rightTerm.f (a0 : S35) (a1 : Int) : Option Bool := jn (γ := Bool) (fun (x5 : Bool) => jn (γ := Bool) (fun (x10 : Bool) => (if a0.f0 = 1 then (if x5 = true then (if a0.f1 = 0 then some (decide (a0.f3 = 0)) else some false) else some false) else (if a0.f0 = 2 then (if x5 = true then (if x10 = true then (swageref14_reg.f a0.f1).bind fun (y397 : Bool) => some y397 else some false) else some false) else (if a0.f0 = 3 then (swageref14_reg.f a0.f1).bind fun (y446 : Bool) => (if y446 = true then (if a0.f2 = 0 then some (decide (a0.f3 = 0)) else some false) else some false) else (if a0.f0 = 4 then (if 1 ≤ a0.f2 then (if a0.f2 ≤ 15 then (if a0.f1 = 0 then some (decide (a0.f3 = 0)) else some false) else some false) else some false) else some false))))) (fun (j11 : (Bool → Option Bool)) => (if 0 ≤ a0.f3 then j11 (decide (a0.f3 < a1)) else j11 false))) (fun (j6 : (Bool → Option Bool)) => (if 0 ≤ a0.f2 then j6 (decide (a0.f2 < a1)) else j6 false))
def swageref14_rightTerm.post (G : Gd)  (r : Bool) (v : Value) (G' : Gd) (Lr : List Ch) : Prop := G = G' ∧ v = .bool r ∧ Lr = []
theorem swageref14_rightTerm.calls {G : Gd} {r : Bool} {a0 : S35} {a1 : Int} (h : swageref14_rightTerm.f a0 a1 = some r) : Fn Tryd.prog 61 G [] [.agg #[.int .i64 a0.f0, .int .i64 a0.f1, .int .i64 a0.f2, .int .i64 a0.f3], .int .i64 a1] (swageref14_rightTerm.post G  r) := by
 refine Fn.intro (e := [(0, .agg #[.int .i64 a0.f0, .int .i64 a0.f1, .int .i64 a0.f2, .int .i64 a0.f3]), (1, .int .i64 a1)]) 86 Tryd.func61 rfl Tryd.ntmps61 rfl rfl (Nat.le_of_ble_eq_true rfl) (fun L => ?_)
 unfold swageref14_rightTerm.f at h
 refine TC.seq ?_
 refine TC.region ?_
 refine TL.cons (TL.box (cs := [.int .i64 a0.f0, .int .i64 a0.f1, .int .i64 a0.f2, .int .i64 a0.f3]) rfl rfl rfl rfl (fun b1 => ?_))
 refine TL.cons (TO.val rfl rfl rfl (Val.assign rfl) ?_)
 refine TL.nil ?_
 refine TQ.then_ ?_
 refine TC.seq ?_
 obtain ⟨j6, hj6, h⟩ := jn_no h
 refine TC.tail (fun a W => ∃ (x5 : Bool), j6 x5 = some r ∧ Fr 86 a [(1, .int .i64 a1), (2, .pointer (some ⟨b1, 0, none⟩)), (5, .bool x5)] ∧ Own G (Blk b1 [.int .i64 a0.f0, .int .i64 a0.f1, .int .i64 a0.f2, .int .i64 a0.f3] 35 :: L) W) ?_ ?_
 ·
  rintro a W ⟨x5, h, hF, hO⟩
  rw [hj6] at h
  refine TQ.use ?_ hF hO
  clear hF hO
  refine TQ.then_ ?_
  refine TC.seq ?_
  obtain ⟨j11, hj11, h⟩ := jn_no h
  refine TC.tail (fun a W => ∃ (x10 : Bool), j11 x10 = some r ∧ Fr 86 a [(2, .pointer (some ⟨b1, 0, none⟩)), (5, .bool x5), (6, .bool x10)] ∧ Own G (Blk b1 [.int .i64 a0.f0, .int .i64 a0.f1, .int .i64 a0.f2, .int .i64 a0.f3] 35 :: L) W) ?_ ?_
  ·
   rintro a W ⟨x10, h, hF, hO⟩
   rw [hj11] at h
   refine TQ.use ?_ hF hO
   clear hF hO
   refine TQ.then_ ?_
   refine TC.seq ?_
   refine TC.seq ?_
   refine TC.region ?_
   refine TL.cons (TO.val rfl rfl rfl (Val.fieldAddrB Tryd.underlying35 rfl fsz3 rfl rfl rfl) ?_)
   refine TL.cons (TO.val rfl rfl rfl (Val.loadB 0 agg3 rfl rfl rfl) ?_)
   refine TL.nil ?_
   refine TQ.then_ ?_
   refine TC.block ?_
   refine TC.seq ?_
   refine TC.region ?_
   refine TL.cons (TO.val rfl rfl rfl (Val.cmp rfl rfl run_eql) ?_)
   refine TL.cons (TO.val rfl rfl rfl (Val.assign rfl) ?_)
   refine TL.nil ?_
   refine TQ.then_ ?_
   refine TC.cond_p rfl h (fun hc318 h => ?_) (fun hc318 h => ?_)
   ·
    refine TC.seq ?_
    refine TC.region ?_
    refine TL.cons (TO.val rfl rfl rfl (Val.move rfl) ?_)
    refine TL.cons (TO.val rfl rfl rfl (Val.move rfl) ?_)
    refine TK.split (p := x5 = true) h (fun hg325 h => ?_) (fun hg325 h => ?_)
    ·
     have hk326 : x5 = true := hg325
     refine TL.cons (TO.val (Wt.yes rfl rfl rfl hk326) rfl rfl (Val.fieldAddrB Tryd.underlying35 rfl fsz3 rfl rfl rfl) ?_)
     refine TL.cons (TO.val (Wt.yes rfl rfl rfl hk326) rfl rfl (Val.loadB 0 agg3 rfl rfl rfl) ?_)
     refine TL.cons (TO.val (Wt.yes rfl rfl rfl hk326) rfl rfl (Val.cmp rfl rfl run_eql) ?_)
     refine TL.cons (TO.val rfl rfl rfl (Val.pickY rfl hk326 rfl) ?_)
     refine TL.cons (TO.val rfl rfl rfl (Val.move rfl) ?_)
     refine TK.split (p := a0.f1 = 0) h (fun hg327 h => ?_) (fun hg327 h => ?_)
     ·
      have hk328 : decide (a0.f1 = 0) = true := decide_eq_true hg327
      refine TL.cons (TO.val (Wt.yes rfl rfl rfl hk328) rfl rfl (Val.fieldAddrB Tryd.underlying35 rfl fsz3 rfl rfl rfl) ?_)
      refine TL.cons (TO.val (Wt.yes rfl rfl rfl hk328) rfl rfl (Val.loadB 0 agg3 rfl rfl rfl) ?_)
      refine TL.cons (TO.val (Wt.yes rfl rfl rfl hk328) rfl rfl (Val.cmp rfl rfl run_eql) ?_)
      refine TL.cons (TO.val rfl rfl rfl (Val.pickY rfl hk328 rfl) ?_)
      refine TL.cons (TO.val rfl rfl rfl (Val.assign rfl) ?_)
      refine TL.nil ?_
      refine TQ.then_ ?_
      refine TC.ret ?_
      refine TQ.inBR ?_
      refine TQ.thenR ?_
      obtain rfl := Option.some.inj h
      exact TQ.fin (.inl rfl) rfl Tryd.results61 (.tmp rfl .nil) rfl (FRel.mk (Ls := []) [] 1 (Gd.le.refl _) rfl rfl rfl ⟨rfl, rfl, rfl⟩)
     ·
      have hk329 : decide (a0.f1 = 0) = false := decide_eq_false hg327
      refine TL.cons (TL.not (Wt.no rfl rfl rfl hk329) rfl ?_)
      refine TL.cons (TL.not (Wt.no rfl rfl rfl hk329) rfl ?_)
      refine TL.cons (TL.not (Wt.no rfl rfl rfl hk329) rfl ?_)
      refine TL.cons (TO.val rfl rfl rfl (Val.pickN rfl hk329 rfl) ?_)
      refine TL.cons (TO.val rfl rfl rfl (Val.assign rfl) ?_)
      refine TL.nil ?_
      refine TQ.then_ ?_
      refine TC.ret ?_
      refine TQ.inBR ?_
      refine TQ.thenR ?_
      obtain rfl := Option.some.inj h
      exact TQ.fin (.inl rfl) rfl Tryd.results61 (.tmp rfl .nil) rfl (FRel.mk (Ls := []) [] 1 (Gd.le.refl _) rfl rfl rfl ⟨rfl, rfl, rfl⟩)
    ·
     have hk330 : x5 = false := (by simpa using hg325)
     refine TL.cons (TL.not (Wt.no rfl rfl rfl hk330) rfl ?_)
     refine TL.cons (TL.not (Wt.no rfl rfl rfl hk330) rfl ?_)
     refine TL.cons (TL.not (Wt.no rfl rfl rfl hk330) rfl ?_)
     refine TL.cons (TO.val rfl rfl rfl (Val.pickN rfl hk330 rfl) ?_)
     refine TL.cons (TO.val rfl rfl rfl (Val.move rfl) ?_)
     refine TL.cons (TL.not (Wt.no rfl rfl rfl rfl) rfl ?_)
     refine TL.cons (TL.not (Wt.no rfl rfl rfl rfl) rfl ?_)
     refine TL.cons (TL.not (Wt.no rfl rfl rfl rfl) rfl ?_)
     refine TL.cons (TO.val rfl rfl rfl (Val.pickN rfl rfl rfl) ?_)
     refine TL.cons (TO.val rfl rfl rfl (Val.assign rfl) ?_)
     refine TL.nil ?_
     refine TQ.then_ ?_
     refine TC.ret ?_
     refine TQ.inBR ?_
     refine TQ.thenR ?_
     obtain rfl := Option.some.inj h
     exact TQ.fin (.inl rfl) rfl Tryd.results61 (.tmp rfl .nil) rfl (FRel.mk (Ls := []) [] 1 (Gd.le.refl _) rfl rfl rfl ⟨rfl, rfl, rfl⟩)
   ·
    refine TC.seq ?_
    refine TC.region ?_
    refine TL.cons (TO.val rfl rfl rfl (Val.cmp rfl rfl run_eql) ?_)
    refine TL.cons (TO.val rfl rfl rfl (Val.assign rfl) ?_)
    refine TL.nil ?_
    refine TQ.then_ ?_
    refine TC.cond_p rfl h (fun hc384 h => ?_) (fun hc384 h => ?_)
    ·
     refine TC.seq ?_
     refine TC.region ?_
     refine TL.cons (TO.val rfl rfl rfl (Val.move rfl) ?_)
     refine TL.cons (TO.val rfl rfl rfl (Val.move rfl) ?_)
     refine TK.split (p := x5 = true) h (fun hg393 h => ?_) (fun hg393 h => ?_)
     ·
      have hk394 : x5 = true := hg393
      refine TL.cons (TO.val (Wt.yes rfl rfl rfl hk394) rfl rfl (Val.move rfl) ?_)
      refine TL.cons (TO.val rfl rfl rfl (Val.pickY rfl hk394 rfl) ?_)
      refine TL.cons (TO.val rfl rfl rfl (Val.move rfl) ?_)
      refine TK.split (p := x10 = true) h (fun hg395 h => ?_) (fun hg395 h => ?_)
      ·
       have hk396 : x10 = true := hg395
       refine TL.cons (TO.val (Wt.yes rfl rfl rfl hk396) rfl rfl (Val.fieldAddrB Tryd.underlying35 rfl fsz3 rfl rfl rfl) ?_)
       refine TL.cons (TO.val (Wt.yes rfl rfl rfl hk396) rfl rfl (Val.loadB 0 agg3 rfl rfl rfl) ?_)
       obtain ⟨y397, hy398, h⟩ := bind_no h
       refine TL.cons (TL.callV (Lin := []) (args := [.int .i64 a0.f1]) (Wt.yes rfl rfl rfl hk396) rfl rfl hbd59 rfl rfl (swageref14_reg.calls (a0 := a0.f1) hy398) rfl ?_)
       rintro _ _ _ _ ⟨rfl, rfl, rfl⟩
       refine TL.cons (TO.val rfl rfl rfl (Val.pickY rfl hk396 rfl) ?_)
       refine TL.cons (TO.val rfl rfl rfl (Val.assign rfl) ?_)
       refine TL.nil ?_
       refine TQ.then_ ?_
       refine TC.ret ?_
       refine TQ.inBR ?_
       refine TQ.thenR ?_
       obtain rfl := Option.some.inj h
       exact TQ.fin (.inl rfl) rfl Tryd.results61 (.tmp rfl .nil) rfl (FRel.mk (Ls := []) [] 1 (Gd.le.refl _) rfl rfl rfl ⟨rfl, rfl, rfl⟩)
      ·
       have hk399 : x10 = false := (by simpa using hg395)
       refine TL.cons (TL.not (Wt.no rfl rfl rfl hk399) rfl ?_)
       refine TL.cons (TL.not (Wt.no rfl rfl rfl hk399) rfl ?_)
       refine TL.cons (TL.not (Wt.no rfl rfl rfl hk399) rfl ?_)
       refine TL.cons (TO.val rfl rfl rfl (Val.pickN rfl hk399 rfl) ?_)
       refine TL.cons (TO.val rfl rfl rfl (Val.assign rfl) ?_)
       refine TL.nil ?_
       refine TQ.then_ ?_
       refine TC.ret ?_
       refine TQ.inBR ?_
       refine TQ.thenR ?_
       obtain rfl := Option.some.inj h
       exact TQ.fin (.inl rfl) rfl Tryd.results61 (.tmp rfl .nil) rfl (FRel.mk (Ls := []) [] 1 (Gd.le.refl _) rfl rfl rfl ⟨rfl, rfl, rfl⟩)
     ·
      have hk400 : x5 = false := (by simpa using hg393)
      refine TL.cons (TL.not (Wt.no rfl rfl rfl hk400) rfl ?_)
      refine TL.cons (TO.val rfl rfl rfl (Val.pickN rfl hk400 rfl) ?_)
      refine TL.cons (TO.val rfl rfl rfl (Val.move rfl) ?_)
      refine TL.cons (TL.not (Wt.no rfl rfl rfl rfl) rfl ?_)
      refine TL.cons (TL.not (Wt.no rfl rfl rfl rfl) rfl ?_)
      refine TL.cons (TL.not (Wt.no rfl rfl rfl rfl) rfl ?_)
      refine TL.cons (TO.val rfl rfl rfl (Val.pickN rfl rfl rfl) ?_)
      refine TL.cons (TO.val rfl rfl rfl (Val.assign rfl) ?_)
      refine TL.nil ?_
      refine TQ.then_ ?_
      refine TC.ret ?_
      refine TQ.inBR ?_
      refine TQ.thenR ?_
      obtain rfl := Option.some.inj h
      exact TQ.fin (.inl rfl) rfl Tryd.results61 (.tmp rfl .nil) rfl (FRel.mk (Ls := []) [] 1 (Gd.le.refl _) rfl rfl rfl ⟨rfl, rfl, rfl⟩)
    ·
     refine TC.seq ?_
     refine TC.region ?_
     refine TL.cons (TO.val rfl rfl rfl (Val.cmp rfl rfl run_eql) ?_)
     refine TL.cons (TO.val rfl rfl rfl (Val.assign rfl) ?_)
     refine TL.nil ?_
     refine TQ.then_ ?_
     refine TC.cond_p rfl h (fun hc437 h => ?_) (fun hc437 h => ?_)
     ·
      refine TC.seq ?_
      refine TC.region ?_
      refine TL.cons (TO.val rfl rfl rfl (Val.fieldAddrB Tryd.underlying35 rfl fsz3 rfl rfl rfl) ?_)
      refine TL.cons (TO.val rfl rfl rfl (Val.loadB 0 agg3 rfl rfl rfl) ?_)
      obtain ⟨y446, hy447, h⟩ := bind_no h
      refine TL.cons (TL.callV (Lin := []) (args := [.int .i64 a0.f1]) rfl rfl rfl hbd59 rfl rfl (swageref14_reg.calls (a0 := a0.f1) hy447) rfl ?_)
      rintro _ _ _ _ ⟨rfl, rfl, rfl⟩
      refine TL.cons (TO.val rfl rfl rfl (Val.move rfl) ?_)
      refine TK.split (p := y446 = true) h (fun hg448 h => ?_) (fun hg448 h => ?_)
      ·
       have hk449 : y446 = true := hg448
       refine TL.cons (TO.val (Wt.yes rfl rfl rfl hk449) rfl rfl (Val.fieldAddrB Tryd.underlying35 rfl fsz3 rfl rfl rfl) ?_)
       refine TL.cons (TO.val (Wt.yes rfl rfl rfl hk449) rfl rfl (Val.loadB 0 agg3 rfl rfl rfl) ?_)
       refine TL.cons (TO.val (Wt.yes rfl rfl rfl hk449) rfl rfl (Val.cmp rfl rfl run_eql) ?_)
       refine TL.cons (TO.val rfl rfl rfl (Val.pickY rfl hk449 rfl) ?_)
       refine TL.cons (TO.val rfl rfl rfl (Val.move rfl) ?_)
       refine TK.split (p := a0.f2 = 0) h (fun hg450 h => ?_) (fun hg450 h => ?_)
       ·
        have hk451 : decide (a0.f2 = 0) = true := decide_eq_true hg450
        refine TL.cons (TO.val (Wt.yes rfl rfl rfl hk451) rfl rfl (Val.fieldAddrB Tryd.underlying35 rfl fsz3 rfl rfl rfl) ?_)
        refine TL.cons (TO.val (Wt.yes rfl rfl rfl hk451) rfl rfl (Val.loadB 0 agg3 rfl rfl rfl) ?_)
        refine TL.cons (TO.val (Wt.yes rfl rfl rfl hk451) rfl rfl (Val.cmp rfl rfl run_eql) ?_)
        refine TL.cons (TO.val rfl rfl rfl (Val.pickY rfl hk451 rfl) ?_)
        refine TL.cons (TO.val rfl rfl rfl (Val.assign rfl) ?_)
        refine TL.nil ?_
        refine TQ.then_ ?_
        refine TC.ret ?_
        refine TQ.inBR ?_
        refine TQ.thenR ?_
        obtain rfl := Option.some.inj h
        exact TQ.fin (.inl rfl) rfl Tryd.results61 (.tmp rfl .nil) rfl (FRel.mk (Ls := []) [] 1 (Gd.le.refl _) rfl rfl rfl ⟨rfl, rfl, rfl⟩)
       ·
        have hk452 : decide (a0.f2 = 0) = false := decide_eq_false hg450
        refine TL.cons (TL.not (Wt.no rfl rfl rfl hk452) rfl ?_)
        refine TL.cons (TL.not (Wt.no rfl rfl rfl hk452) rfl ?_)
        refine TL.cons (TL.not (Wt.no rfl rfl rfl hk452) rfl ?_)
        refine TL.cons (TO.val rfl rfl rfl (Val.pickN rfl hk452 rfl) ?_)
        refine TL.cons (TO.val rfl rfl rfl (Val.assign rfl) ?_)
        refine TL.nil ?_
        refine TQ.then_ ?_
        refine TC.ret ?_
        refine TQ.inBR ?_
        refine TQ.thenR ?_
        obtain rfl := Option.some.inj h
        exact TQ.fin (.inl rfl) rfl Tryd.results61 (.tmp rfl .nil) rfl (FRel.mk (Ls := []) [] 1 (Gd.le.refl _) rfl rfl rfl ⟨rfl, rfl, rfl⟩)
      ·
       have hk453 : y446 = false := (by simpa using hg448)
       refine TL.cons (TL.not (Wt.no rfl rfl rfl hk453) rfl ?_)
       refine TL.cons (TL.not (Wt.no rfl rfl rfl hk453) rfl ?_)
       refine TL.cons (TL.not (Wt.no rfl rfl rfl hk453) rfl ?_)
       refine TL.cons (TO.val rfl rfl rfl (Val.pickN rfl hk453 rfl) ?_)
       refine TL.cons (TO.val rfl rfl rfl (Val.move rfl) ?_)
       refine TL.cons (TL.not (Wt.no rfl rfl rfl rfl) rfl ?_)
       refine TL.cons (TL.not (Wt.no rfl rfl rfl rfl) rfl ?_)
       refine TL.cons (TL.not (Wt.no rfl rfl rfl rfl) rfl ?_)
       refine TL.cons (TO.val rfl rfl rfl (Val.pickN rfl rfl rfl) ?_)
       refine TL.cons (TO.val rfl rfl rfl (Val.assign rfl) ?_)
       refine TL.nil ?_
       refine TQ.then_ ?_
       refine TC.ret ?_
       refine TQ.inBR ?_
       refine TQ.thenR ?_
       obtain rfl := Option.some.inj h
       exact TQ.fin (.inl rfl) rfl Tryd.results61 (.tmp rfl .nil) rfl (FRel.mk (Ls := []) [] 1 (Gd.le.refl _) rfl rfl rfl ⟨rfl, rfl, rfl⟩)
     ·
      refine TC.seq ?_
      refine TC.region ?_
      refine TL.cons (TO.val rfl rfl rfl (Val.cmp rfl rfl run_eql) ?_)
      refine TL.cons (TO.val rfl rfl rfl (Val.assign rfl) ?_)
      refine TL.nil ?_
      refine TQ.then_ ?_
      refine TC.cond_p rfl h (fun hc473 h => ?_) (fun hc473 h => ?_)
      ·
       refine TC.seq ?_
       refine TC.region ?_
       refine TL.cons (TO.val rfl rfl rfl (Val.fieldAddrB Tryd.underlying35 rfl fsz3 rfl rfl rfl) ?_)
       refine TL.cons (TO.val rfl rfl rfl (Val.loadB 0 agg3 rfl rfl rfl) ?_)
       refine TL.cons (TO.val rfl rfl rfl (Val.cmp rfl rfl run_geq) ?_)
       refine TL.cons (TO.val rfl rfl rfl (Val.move rfl) ?_)
       refine TK.split (p := 1 ≤ a0.f2) h (fun hg483 h => ?_) (fun hg483 h => ?_)
       ·
        have hk484 : decide (1 ≤ a0.f2) = true := decide_eq_true hg483
        refine TL.cons (TO.val (Wt.yes rfl rfl rfl hk484) rfl rfl (Val.fieldAddrB Tryd.underlying35 rfl fsz3 rfl rfl rfl) ?_)
        refine TL.cons (TO.val (Wt.yes rfl rfl rfl hk484) rfl rfl (Val.loadB 0 agg3 rfl rfl rfl) ?_)
        refine TL.cons (TO.val (Wt.yes rfl rfl rfl hk484) rfl rfl (Val.cmp rfl rfl run_leq) ?_)
        refine TL.cons (TO.val rfl rfl rfl (Val.pickY rfl hk484 rfl) ?_)
        refine TL.cons (TO.val rfl rfl rfl (Val.move rfl) ?_)
        refine TK.split (p := a0.f2 ≤ 15) h (fun hg485 h => ?_) (fun hg485 h => ?_)
        ·
         have hk486 : decide (a0.f2 ≤ 15) = true := decide_eq_true hg485
         refine TL.cons (TO.val (Wt.yes rfl rfl rfl hk486) rfl rfl (Val.fieldAddrB Tryd.underlying35 rfl fsz3 rfl rfl rfl) ?_)
         refine TL.cons (TO.val (Wt.yes rfl rfl rfl hk486) rfl rfl (Val.loadB 0 agg3 rfl rfl rfl) ?_)
         refine TL.cons (TO.val (Wt.yes rfl rfl rfl hk486) rfl rfl (Val.cmp rfl rfl run_eql) ?_)
         refine TL.cons (TO.val rfl rfl rfl (Val.pickY rfl hk486 rfl) ?_)
         refine TL.cons (TO.val rfl rfl rfl (Val.move rfl) ?_)
         refine TK.split (p := a0.f1 = 0) h (fun hg487 h => ?_) (fun hg487 h => ?_)
         ·
          have hk488 : decide (a0.f1 = 0) = true := decide_eq_true hg487
          refine TL.cons (TO.val (Wt.yes rfl rfl rfl hk488) rfl rfl (Val.fieldAddrB Tryd.underlying35 rfl fsz3 rfl rfl rfl) ?_)
          refine TL.cons (TO.val (Wt.yes rfl rfl rfl hk488) rfl rfl (Val.loadB 0 agg3 rfl rfl rfl) ?_)
          refine TL.cons (TO.val (Wt.yes rfl rfl rfl hk488) rfl rfl (Val.cmp rfl rfl run_eql) ?_)
          refine TL.cons (TO.val rfl rfl rfl (Val.pickY rfl hk488 rfl) ?_)
          refine TL.cons (TO.val rfl rfl rfl (Val.assign rfl) ?_)
          refine TL.nil ?_
          refine TQ.then_ ?_
          refine TC.ret ?_
          refine TQ.inBR ?_
          refine TQ.thenR ?_
          obtain rfl := Option.some.inj h
          exact TQ.fin (.inl rfl) rfl Tryd.results61 (.tmp rfl .nil) rfl (FRel.mk (Ls := []) [] 1 (Gd.le.refl _) rfl rfl rfl ⟨rfl, rfl, rfl⟩)
         ·
          have hk489 : decide (a0.f1 = 0) = false := decide_eq_false hg487
          refine TL.cons (TL.not (Wt.no rfl rfl rfl hk489) rfl ?_)
          refine TL.cons (TL.not (Wt.no rfl rfl rfl hk489) rfl ?_)
          refine TL.cons (TL.not (Wt.no rfl rfl rfl hk489) rfl ?_)
          refine TL.cons (TO.val rfl rfl rfl (Val.pickN rfl hk489 rfl) ?_)
          refine TL.cons (TO.val rfl rfl rfl (Val.assign rfl) ?_)
          refine TL.nil ?_
          refine TQ.then_ ?_
          refine TC.ret ?_
          refine TQ.inBR ?_
          refine TQ.thenR ?_
          obtain rfl := Option.some.inj h
          exact TQ.fin (.inl rfl) rfl Tryd.results61 (.tmp rfl .nil) rfl (FRel.mk (Ls := []) [] 1 (Gd.le.refl _) rfl rfl rfl ⟨rfl, rfl, rfl⟩)
        ·
         have hk490 : decide (a0.f2 ≤ 15) = false := decide_eq_false hg485
         refine TL.cons (TL.not (Wt.no rfl rfl rfl hk490) rfl ?_)
         refine TL.cons (TL.not (Wt.no rfl rfl rfl hk490) rfl ?_)
         refine TL.cons (TL.not (Wt.no rfl rfl rfl hk490) rfl ?_)
         refine TL.cons (TO.val rfl rfl rfl (Val.pickN rfl hk490 rfl) ?_)
         refine TL.cons (TO.val rfl rfl rfl (Val.move rfl) ?_)
         refine TL.cons (TL.not (Wt.no rfl rfl rfl rfl) rfl ?_)
         refine TL.cons (TL.not (Wt.no rfl rfl rfl rfl) rfl ?_)
         refine TL.cons (TL.not (Wt.no rfl rfl rfl rfl) rfl ?_)
         refine TL.cons (TO.val rfl rfl rfl (Val.pickN rfl rfl rfl) ?_)
         refine TL.cons (TO.val rfl rfl rfl (Val.assign rfl) ?_)
         refine TL.nil ?_
         refine TQ.then_ ?_
         refine TC.ret ?_
         refine TQ.inBR ?_
         refine TQ.thenR ?_
         obtain rfl := Option.some.inj h
         exact TQ.fin (.inl rfl) rfl Tryd.results61 (.tmp rfl .nil) rfl (FRel.mk (Ls := []) [] 1 (Gd.le.refl _) rfl rfl rfl ⟨rfl, rfl, rfl⟩)
       ·
        have hk491 : decide (1 ≤ a0.f2) = false := decide_eq_false hg483
        refine TL.cons (TL.not (Wt.no rfl rfl rfl hk491) rfl ?_)
        refine TL.cons (TL.not (Wt.no rfl rfl rfl hk491) rfl ?_)
        refine TL.cons (TL.not (Wt.no rfl rfl rfl hk491) rfl ?_)
        refine TL.cons (TO.val rfl rfl rfl (Val.pickN rfl hk491 rfl) ?_)
        refine TL.cons (TO.val rfl rfl rfl (Val.move rfl) ?_)
        refine TL.cons (TL.not (Wt.no rfl rfl rfl rfl) rfl ?_)
        refine TL.cons (TL.not (Wt.no rfl rfl rfl rfl) rfl ?_)
        refine TL.cons (TL.not (Wt.no rfl rfl rfl rfl) rfl ?_)
        refine TL.cons (TO.val rfl rfl rfl (Val.pickN rfl rfl rfl) ?_)
        refine TL.cons (TO.val rfl rfl rfl (Val.move rfl) ?_)
        refine TL.cons (TL.not (Wt.no rfl rfl rfl rfl) rfl ?_)
        refine TL.cons (TL.not (Wt.no rfl rfl rfl rfl) rfl ?_)
        refine TL.cons (TL.not (Wt.no rfl rfl rfl rfl) rfl ?_)
        refine TL.cons (TO.val rfl rfl rfl (Val.pickN rfl rfl rfl) ?_)
        refine TL.cons (TO.val rfl rfl rfl (Val.assign rfl) ?_)
        refine TL.nil ?_
        refine TQ.then_ ?_
        refine TC.ret ?_
        refine TQ.inBR ?_
        refine TQ.thenR ?_
        obtain rfl := Option.some.inj h
        exact TQ.fin (.inl rfl) rfl Tryd.results61 (.tmp rfl .nil) rfl (FRel.mk (Ls := []) [] 1 (Gd.le.refl _) rfl rfl rfl ⟨rfl, rfl, rfl⟩)
      ·
       refine TC.skip ?_
       refine TQ.inB ?_
       refine TQ.then_ ?_
       refine TC.seq ?_
       refine TC.region ?_
       refine TL.cons (TO.val rfl rfl rfl (Val.assign rfl) ?_)
       refine TL.nil ?_
       refine TQ.then_ ?_
       refine TC.ret ?_
       obtain rfl := Option.some.inj h
       exact TQ.fin (.inl rfl) rfl Tryd.results61 (.tmp rfl .nil) rfl (FRel.mk (Ls := []) [] 1 (Gd.le.refl _) rfl rfl rfl ⟨rfl, rfl, rfl⟩)
  ·
   refine TC.region ?_
   refine TL.cons (TO.val rfl rfl rfl (Val.fieldAddrB Tryd.underlying35 rfl fsz3 rfl rfl rfl) ?_)
   refine TL.cons (TO.val rfl rfl rfl (Val.loadB 0 agg3 rfl rfl rfl) ?_)
   refine TL.cons (TO.val rfl rfl rfl (Val.cmp rfl rfl run_geq) ?_)
   refine TL.cons (TO.val rfl rfl rfl (Val.move rfl) ?_)
   refine TK.split (p := 0 ≤ a0.f3) h (fun hg492 h => ?_) (fun hg492 h => ?_)
   ·
    have hk493 : decide (0 ≤ a0.f3) = true := decide_eq_true hg492
    refine TL.cons (TO.val (Wt.yes rfl rfl rfl hk493) rfl rfl (Val.fieldAddrB Tryd.underlying35 rfl fsz3 rfl rfl rfl) ?_)
    refine TL.cons (TO.val (Wt.yes rfl rfl rfl hk493) rfl rfl (Val.loadB 0 agg3 rfl rfl rfl) ?_)
    refine TL.cons (TO.val (Wt.yes rfl rfl rfl hk493) rfl rfl (Val.move rfl) ?_)
    refine TL.cons (TO.val (Wt.yes rfl rfl rfl hk493) rfl rfl (Val.cmp rfl rfl run_lss) ?_)
    refine TL.cons (TO.val rfl rfl rfl (Val.pickY rfl hk493 rfl) ?_)
    refine TL.cons (TO.val rfl rfl rfl (Val.assign rfl) ?_)
    refine TL.nil ?_
    exact fun a W hF hO => ⟨decide (a0.f3 < a1), h, hF.sub ⟨rfl, rfl, rfl, trivial⟩, hO.selT (Ls := [Blk b1 [.int .i64 a0.f0, .int .i64 a0.f1, .int .i64 a0.f2, .int .i64 a0.f3] 35]) [0] 1 rfl rfl rfl⟩
   ·
    have hk494 : decide (0 ≤ a0.f3) = false := decide_eq_false hg492
    refine TL.cons (TL.not (Wt.no rfl rfl rfl hk494) rfl ?_)
    refine TL.cons (TL.not (Wt.no rfl rfl rfl hk494) rfl ?_)
    refine TL.cons (TL.not (Wt.no rfl rfl rfl hk494) rfl ?_)
    refine TL.cons (TL.not (Wt.no rfl rfl rfl hk494) rfl ?_)
    refine TL.cons (TO.val rfl rfl rfl (Val.pickN rfl hk494 rfl) ?_)
    refine TL.cons (TO.val rfl rfl rfl (Val.assign rfl) ?_)
    refine TL.nil ?_
    exact fun a W hF hO => ⟨false, h, hF.sub ⟨rfl, rfl, rfl, trivial⟩, hO.selT (Ls := [Blk b1 [.int .i64 a0.f0, .int .i64 a0.f1, .int .i64 a0.f2, .int .i64 a0.f3] 35]) [0] 1 rfl rfl rfl⟩
 ·
  refine TC.region ?_
  refine TL.cons (TO.val rfl rfl rfl (Val.fieldAddrB Tryd.underlying35 rfl fsz3 rfl rfl rfl) ?_)
  refine TL.cons (TO.val rfl rfl rfl (Val.loadB 0 agg3 rfl rfl rfl) ?_)
  refine TL.cons (TO.val rfl rfl rfl (Val.cmp rfl rfl run_geq) ?_)
  refine TL.cons (TO.val rfl rfl rfl (Val.move rfl) ?_)
  refine TK.split (p := 0 ≤ a0.f2) h (fun hg495 h => ?_) (fun hg495 h => ?_)
  ·
   have hk496 : decide (0 ≤ a0.f2) = true := decide_eq_true hg495
   refine TL.cons (TO.val (Wt.yes rfl rfl rfl hk496) rfl rfl (Val.fieldAddrB Tryd.underlying35 rfl fsz3 rfl rfl rfl) ?_)
   refine TL.cons (TO.val (Wt.yes rfl rfl rfl hk496) rfl rfl (Val.loadB 0 agg3 rfl rfl rfl) ?_)
   refine TL.cons (TO.val (Wt.yes rfl rfl rfl hk496) rfl rfl (Val.move rfl) ?_)
   refine TL.cons (TO.val (Wt.yes rfl rfl rfl hk496) rfl rfl (Val.cmp rfl rfl run_lss) ?_)
   refine TL.cons (TO.val rfl rfl rfl (Val.pickY rfl hk496 rfl) ?_)
   refine TL.cons (TO.val rfl rfl rfl (Val.assign rfl) ?_)
   refine TL.nil ?_
   exact fun a W hF hO => ⟨decide (a0.f2 < a1), h, hF.sub ⟨rfl, rfl, rfl, trivial⟩, hO.selT (Ls := [Blk b1 [.int .i64 a0.f0, .int .i64 a0.f1, .int .i64 a0.f2, .int .i64 a0.f3] 35]) [0] 1 rfl rfl rfl⟩
  ·
   have hk497 : decide (0 ≤ a0.f2) = false := decide_eq_false hg495
   refine TL.cons (TL.not (Wt.no rfl rfl rfl hk497) rfl ?_)
   refine TL.cons (TL.not (Wt.no rfl rfl rfl hk497) rfl ?_)
   refine TL.cons (TL.not (Wt.no rfl rfl rfl hk497) rfl ?_)
   refine TL.cons (TL.not (Wt.no rfl rfl rfl hk497) rfl ?_)
   refine TL.cons (TO.val rfl rfl rfl (Val.pickN rfl hk497 rfl) ?_)
   refine TL.cons (TO.val rfl rfl rfl (Val.assign rfl) ?_)
   refine TL.nil ?_
   exact fun a W hF hO => ⟨false, h, hF.sub ⟨rfl, rfl, rfl, trivial⟩, hO.selT (Ls := [Blk b1 [.int .i64 a0.f0, .int .i64 a0.f1, .int .i64 a0.f2, .int .i64 a0.f3] 35]) [0] 1 rfl rfl rfl⟩
end Go.Proofs.YtmacdhkfgoahcaaDoor.Sy
set_option linter.unusedVariables false
set_option linter.unusedSimpArgs false
set_option maxRecDepth 100000
set_option maxHeartbeats 4000000
namespace Go.Proofs.YtmacdhkfgoahcaaDoor.Sy
open Go Go.RowKit Go.Proofs.YtmacdhkfgoahcaaDoorW.PrintWords 
def swageref14_Right.l1 (a0 : S27) (a1 : Int) (x650 : Int) : Nat → Int → Option (Sum (Sum Bool (Unit)) (Unit))
 | 0, _ => none
 | n1643 + 1, x1592 => (at? a0.f1 x650).bind fun y1693 => (if x1592 < (y1693.f0.length : Int) then (at? y1693.f0 x1592).bind fun y1725 => (swageref14_RightOp.f y1725 a1).bind fun (y1738 : Bool) => (if (!y1738) = true then some (.inl (.inl false)) else swageref14_Right.l1 a0 a1 x650 n1643 (IntKind.i64.wrap (x1592 + 1))) else some (.inr ()))
def swageref14_Right.l0 (a0 : S27) (a1 : Int) : Nat → Int → Int → Option (Sum Bool (Unit))
 | 0, _, _ => none
 | n966 + 1, x649, x650 => (if x650 < (a0.f1.length : Int) then (at? a0.f1 x650).bind fun y1466 => jn (γ := (Sum Bool (Unit))) (fun (x1489 : Bool) => (if x1489 = true then some (.inl false) else (swageref14_Right.l1 a0 a1 x650 ((at? a0.f1 x650).elim 0 (fun vy1644 => vy1644.f0.length) + 1) 0).bind fun | .inl q_ => some q_ | .inr _ => (swageref14_Right.l0 a0 a1 n966 (IntKind.i64.wrap (x649 + (y1466.f0.length : Int))) (IntKind.i64.wrap (x650 + 1))))) (fun (j1490 : (Bool → Option (Sum Bool (Unit)))) => (if 16384 < (IntKind.i64.wrap (x649 + (y1466.f0.length : Int))) then j1490 true else (swageref14_rightTerm.f y1466.f1 (a0.f1.length : Int)).bind fun (y1750 : Bool) => j1490 (!y1750))) else some (.inr ()))
def swageref14_Right.f (a0 : S27) (a1 : Int) : Option Bool := jn (γ := Bool) (fun (x15 : Bool) => (if x15 = true then some false else (swageref14_Right.l0 a0 a1 (a0.f1.length + 1) 0 0).bind fun | .inl q_ => some q_ | .inr _ => (some true))) (fun (j16 : (Bool → Option Bool)) => (if (a0.f1.length : Int) < 1 then j16 true else (if 4096 < (a0.f1.length : Int) then j16 true else (if a0.f0 < 0 then j16 true else j16 (decide (8 < a0.f0))))))
def swageref14_Right.post (G : Gd)  (r : Bool) (v : Value) (G' : Gd) (Lr : List Ch) : Prop := G = G' ∧ v = .bool r ∧ Lr = []
theorem swageref14_Right.calls {G : Gd} {r : Bool} {a0 : S27} {a1 : Int} {A1 : Option Addr} {c2 : Nat} (hr3 : Rd G k37 A1 a0.f1) (hl4 : a0.f1.length ≤ c2) (h : swageref14_Right.f a0 a1 = some r) : Fn Tryd.prog 28 G [] [.agg #[.int .i64 a0.f0, .slice A1 a0.f1.length c2], .int .i64 a1] (swageref14_Right.post G  r) := by
 refine Fn.intro (e := [(0, .agg #[.int .i64 a0.f0, .slice A1 a0.f1.length c2]), (1, .int .i64 a1)]) 84 Tryd.func28 rfl Tryd.ntmps28 rfl rfl (Nat.le_of_ble_eq_true rfl) (fun L => ?_)
 unfold swageref14_Right.f at h
 refine TC.seq ?_
 refine TC.region ?_
 refine TL.cons (TL.box (cs := [.int .i64 a0.f0, .slice A1 a0.f1.length c2]) rfl rfl rfl rfl (fun b5 => ?_))
 refine TL.cons (TO.val rfl rfl rfl (Val.assign rfl) ?_)
 refine TL.nil ?_
 refine TQ.then_ ?_
 refine TC.seq ?_
 refine TC.seq ?_
 obtain ⟨j16, hj16, h⟩ := jn_no h
 refine TC.tail (fun a W => ∃ (x15 : Bool), j16 x15 = some r ∧ Fr 84 a [(1, .int .i64 a1), (2, .pointer (some ⟨b5, 0, none⟩)), (28, .bool x15)] ∧ Own G (Blk b5 [.int .i64 a0.f0, .slice A1 a0.f1.length c2] 27 :: L) W) ?_ ?_
 ·
  rintro a W ⟨x15, h, hF, hO⟩
  rw [hj16] at h
  refine TQ.use ?_ hF hO
  clear hF hO
  refine TQ.then_ ?_
  refine TC.cond_b rfl h (fun hc18 h => ?_) (fun hc18 h => ?_)
  ·
   refine TC.seq ?_
   refine TC.region ?_
   refine TL.cons (TO.val rfl rfl rfl (Val.assign rfl) ?_)
   refine TL.nil ?_
   refine TQ.then_ ?_
   refine TC.ret ?_
   refine TQ.thenR ?_
   obtain rfl := Option.some.inj h
   exact TQ.fin (.inl rfl) rfl Tryd.results28 (.tmp rfl .nil) rfl (FRel.mk (Ls := []) [] 1 (Gd.le.refl _) rfl rfl rfl ⟨rfl, rfl, rfl⟩)
  ·
   refine TC.skip ?_
   refine TQ.then_ ?_
   refine TC.seq ?_
   refine TC.region ?_
   refine TL.cons (TO.val rfl rfl rfl (Val.assign rfl) ?_)
   refine TL.nil ?_
   refine TQ.then_ ?_
   refine TC.seq ?_
   refine TC.seq ?_
   refine TC.region ?_
   refine TL.cons (TO.val rfl rfl rfl (Val.assign rfl) ?_)
   refine TL.nil ?_
   refine TQ.then_ ?_
   obtain ⟨o965, ho965, ko965⟩ := bind_no h
   clear h
   refine TC.tail (fun a W => (.inr ()) = o965 ∧ Fr 84 a [] ∧ Own G (L) W) ?_ ?_
   ·
    rintro a W ⟨rfl, hF, hO⟩
    have h := ko965
    clear ko965 ho965
    refine TQ.use ?_ hF hO
    clear hF hO
    refine TQ.then_ ?_
    refine TC.seq ?_
    refine TC.region ?_
    refine TL.cons (TO.val rfl rfl rfl (Val.assign rfl) ?_)
    refine TL.nil ?_
    refine TQ.then_ ?_
    refine TC.ret ?_
    obtain rfl := Option.some.inj h
    exact TQ.fin (.inl rfl) rfl Tryd.results28 (.tmp rfl .nil) rfl (FRel.mk (Ls := []) [] 0 (Gd.le.refl _) rfl rfl rfl ⟨rfl, rfl, rfl⟩)
   ·
    refine TC.block ?_
    intro a W hF hO
    have hS : ∃ (x649 : Int) (x650 : Int), swageref14_Right.l0 a0 a1 (a0.f1.length + 1) x649 x650 = some o965 ∧ Fr 84 a [(1, .int .i64 a1), (2, .pointer (some ⟨b5, 0, none⟩)), (5, .int .i64 x649), (6, .int .i64 x650)] ∧ Own G (Blk b5 [.int .i64 a0.f0, .slice A1 a0.f1.length c2] 27 :: L) W := by
     exact ⟨0, 0, ho965, hF.sub ⟨rfl, rfl, rfl, rfl, trivial⟩, hO.selT (Ls := [Blk b5 [.int .i64 a0.f0, .slice A1 a0.f1.length c2] 27]) [0] 1 rfl rfl rfl⟩
    clear hF hO ho965
    refine TC.loop (fun n966 a W => ∃ (x649 : Int) (x650 : Int), swageref14_Right.l0 a0 a1 n966 x649 x650 = some o965 ∧ Fr 84 a [(1, .int .i64 a1), (2, .pointer (some ⟨b5, 0, none⟩)), (5, .int .i64 x649), (6, .int .i64 x650)] ∧ Own G (Blk b5 [.int .i64 a0.f0, .slice A1 a0.f1.length c2] 27 :: L) W) ?_ ?_ hS
    ·
     rintro a W ⟨x649, x650, h, hF, hO⟩
     exact none_no h
    ·
     clear hS
     rintro n966 a W ⟨x649, x650, h, hF, hO⟩
     rw [swageref14_Right.l0] at h
     refine TC.use ?_ hF hO
     clear hF hO
     refine TC.seq ?_
     refine TC.seq ?_
     refine TC.region ?_
     refine TL.cons (TO.val rfl rfl rfl (Val.move rfl) ?_)
     refine TL.cons (TO.val rfl rfl rfl (Val.fieldAddrB Tryd.underlying27 rfl fsz25 rfl rfl rfl) ?_)
     refine TL.cons (TO.val rfl rfl rfl (Val.loadB 0 agg25 rfl rfl rfl) ?_)
     refine TL.cons (TO.val rfl rfl rfl (Val.len Tryd.underlying25 rfl) ?_)
     refine TL.cons (TO.val rfl rfl rfl (Val.cmp rfl rfl run_lss) ?_)
     refine TL.nil ?_
     refine TQ.then_ ?_
     refine TC.cond_p rfl h (fun hc1282 h => ?_) (fun hc1282 h => ?_)
     ·
      refine TC.skip ?_
      refine TQ.then_ ?_
      refine TC.seq ?_
      refine TC.block ?_
      refine TC.seq ?_
      refine TC.region ?_
      refine TL.cons (TO.val rfl rfl rfl (Val.move rfl) ?_)
      refine TL.cons (TO.val rfl rfl rfl (Val.fieldAddrB Tryd.underlying27 rfl fsz25 rfl rfl rfl) ?_)
      refine TL.cons (TO.val rfl rfl rfl (Val.loadB 0 agg25 rfl rfl rfl) ?_)
      refine TL.cons (TO.val rfl rfl rfl (Val.move rfl) ?_)
      obtain ⟨y1466, hx1467, h⟩ := bind_no h
      obtain ⟨ad1468, cs1474, hA1469, hi1470, hj1471, hcl1472, hK1473⟩ := Rd.at hr3 hx1467
      obtain ⟨A1475, c1476, rfl, hr1477, hl1478⟩ := k37_openR hK1473
      refine TL.cons (TO.val rfl rfl rfl (Val.indexAddr Tryd.underlying25 fsz37 rfl hA1469 rfl hi1470 hj1471) ?_)
      refine TL.cons (TO.val rfl rfl rfl (Val.fieldAddrE Tryd.underlying37 rfl fsz33 rfl rfl) ?_)
      refine TL.cons (TO.val rfl rfl rfl (Val.loadS agg33 rfl (hcl1472 0 _ rfl)) ?_)
      refine TL.cons (TO.val rfl rfl rfl (Val.len Tryd.underlying33 rfl) ?_)
      refine TL.cons (TO.val rfl rfl rfl (Val.cmp rfl rfl run_add) ?_)
      refine TL.cons (TO.val rfl rfl rfl (Val.assign rfl) ?_)
      refine TL.nil ?_
      refine TQ.then_ ?_
      refine TC.seq ?_
      refine TC.seq ?_
      obtain ⟨j1490, hj1490, h⟩ := jn_no h
      refine TC.tail (fun a W => ∃ (x1489 : Bool), j1490 x1489 = some o965 ∧ Fr 84 a [(1, .int .i64 a1), (2, .pointer (some ⟨b5, 0, none⟩)), (5, .int .i64 (IntKind.i64.wrap (x649 + (y1466.f0.length : Int)))), (6, .int .i64 x650), (59, .bool x1489)] ∧ Own G (Blk b5 [.int .i64 a0.f0, .slice A1 a0.f1.length c2] 27 :: L) W) ?_ ?_
      ·
       rintro a W ⟨x1489, h, hF, hO⟩
       rw [hj1490] at h
       refine TQ.use ?_ hF hO
       clear hF hO
       refine TQ.then_ ?_
       refine TC.cond_b rfl h (fun hc1492 h => ?_) (fun hc1492 h => ?_)
       ·
        refine TC.seq ?_
        refine TC.region ?_
        refine TL.cons (TO.val rfl rfl rfl (Val.assign rfl) ?_)
        refine TL.nil ?_
        refine TQ.then_ ?_
        refine TC.ret ?_
        refine TQ.thenR ?_
        refine TQ.inBR ?_
        refine TQ.thenR ?_
        refine TQ.thenR ?_
        refine TQ.inBR ?_
        refine TQ.thenR ?_
        refine TQ.thenR ?_
        obtain rfl := Option.some.inj h
        have h := ko965
        obtain rfl := Option.some.inj h
        exact TQ.fin (.inl rfl) rfl Tryd.results28 (.tmp rfl .nil) rfl (FRel.mk (Ls := []) [] 1 (Gd.le.refl _) rfl rfl rfl ⟨rfl, rfl, rfl⟩)
       ·
        refine TC.skip ?_
        refine TQ.then_ ?_
        refine TC.seq ?_
        refine TC.region ?_
        refine TL.cons (TO.val rfl rfl rfl (Val.assign rfl) ?_)
        refine TL.nil ?_
        refine TQ.then_ ?_
        obtain ⟨o1642, ho1642, ko1642⟩ := bind_no h
        clear h
        refine TC.tail (fun a W => (.inr ()) = o1642 ∧ Fr 84 a [(1, .int .i64 a1), (2, .pointer (some ⟨b5, 0, none⟩)), (5, .int .i64 (IntKind.i64.wrap (x649 + (y1466.f0.length : Int)))), (6, .int .i64 x650)] ∧ Own G (Blk b5 [.int .i64 a0.f0, .slice A1 a0.f1.length c2] 27 :: L) W) ?_ ?_
        ·
         rintro a W ⟨rfl, hF, hO⟩
         have h := ko1642
         clear ko1642 ho1642
         refine TQ.use ?_ hF hO
         clear hF hO
         refine TQ.inB ?_
         refine TQ.then_ ?_
         refine TC.region ?_
         refine TL.cons (TO.val rfl rfl rfl (Val.move rfl) ?_)
         refine TL.cons (TO.val rfl rfl rfl (Val.cmp rfl rfl run_add) ?_)
         refine TL.cons (TO.val rfl rfl rfl (Val.assign rfl) ?_)
         refine TL.nil ?_
         exact fun a W hF hO => ⟨IntKind.i64.wrap (x649 + (y1466.f0.length : Int)), IntKind.i64.wrap (x650 + 1), h, hF.sub ⟨rfl, rfl, rfl, rfl, trivial⟩, hO.selT (Ls := [Blk b5 [.int .i64 a0.f0, .slice A1 a0.f1.length c2] 27]) [0] 1 rfl rfl rfl⟩
        ·
         refine TC.block ?_
         intro a W hF hO
         have hS : ∃ (x1592 : Int), swageref14_Right.l1 a0 a1 x650 ((at? a0.f1 x650).elim 0 (fun vy1644 => vy1644.f0.length) + 1) x1592 = some o1642 ∧ Fr 84 a [(1, .int .i64 a1), (2, .pointer (some ⟨b5, 0, none⟩)), (5, .int .i64 (IntKind.i64.wrap (x649 + (y1466.f0.length : Int)))), (6, .int .i64 x650), (7, .int .i64 x1592)] ∧ Own G (Blk b5 [.int .i64 a0.f0, .slice A1 a0.f1.length c2] 27 :: L) W := by
          exact ⟨0, ho1642, hF.sub ⟨rfl, rfl, rfl, rfl, rfl, trivial⟩, hO.selT (Ls := [Blk b5 [.int .i64 a0.f0, .slice A1 a0.f1.length c2] 27]) [0] 1 rfl rfl rfl⟩
         clear hF hO ho1642
         refine TC.loop (fun n1643 a W => ∃ (x1592 : Int), swageref14_Right.l1 a0 a1 x650 n1643 x1592 = some o1642 ∧ Fr 84 a [(1, .int .i64 a1), (2, .pointer (some ⟨b5, 0, none⟩)), (5, .int .i64 (IntKind.i64.wrap (x649 + (y1466.f0.length : Int)))), (6, .int .i64 x650), (7, .int .i64 x1592)] ∧ Own G (Blk b5 [.int .i64 a0.f0, .slice A1 a0.f1.length c2] 27 :: L) W) ?_ ?_ hS
         ·
          rintro a W ⟨x1592, h, hF, hO⟩
          exact none_no h
         ·
          clear hS
          rintro n1643 a W ⟨x1592, h, hF, hO⟩
          rw [swageref14_Right.l1] at h
          refine TC.use ?_ hF hO
          clear hF hO
          refine TC.seq ?_
          refine TC.seq ?_
          refine TC.region ?_
          refine TL.cons (TO.val rfl rfl rfl (Val.move rfl) ?_)
          refine TL.cons (TO.val rfl rfl rfl (Val.fieldAddrB Tryd.underlying27 rfl fsz25 rfl rfl rfl) ?_)
          refine TL.cons (TO.val rfl rfl rfl (Val.loadB 0 agg25 rfl rfl rfl) ?_)
          refine TL.cons (TO.val rfl rfl rfl (Val.move rfl) ?_)
          obtain ⟨y1693, hx1694, h⟩ := bind_no h
          obtain ⟨ad1695, cs1701, hA1696, hi1697, hj1698, hcl1699, hK1700⟩ := Rd.at hr3 hx1694
          obtain ⟨A1702, c1703, rfl, hr1704, hl1705⟩ := k37_openR hK1700
          refine TL.cons (TO.val rfl rfl rfl (Val.indexAddr Tryd.underlying25 fsz37 rfl hA1696 rfl hi1697 hj1698) ?_)
          refine TL.cons (TO.val rfl rfl rfl (Val.fieldAddrE Tryd.underlying37 rfl fsz33 rfl rfl) ?_)
          refine TL.cons (TO.val rfl rfl rfl (Val.loadS agg33 rfl (hcl1699 0 _ rfl)) ?_)
          refine TL.cons (TO.val rfl rfl rfl (Val.len Tryd.underlying33 rfl) ?_)
          refine TL.cons (TO.val rfl rfl rfl (Val.cmp rfl rfl run_lss) ?_)
          refine TL.nil ?_
          refine TQ.then_ ?_
          refine TC.cond_p rfl h (fun hc1707 h => ?_) (fun hc1707 h => ?_)
          ·
           refine TC.skip ?_
           refine TQ.then_ ?_
           refine TC.seq ?_
           refine TC.block ?_
           refine TC.seq ?_
           refine TC.region ?_
           refine TL.cons (TO.val rfl rfl rfl (Val.fieldAddrB Tryd.underlying27 rfl fsz25 rfl rfl rfl) ?_)
           refine TL.cons (TO.val rfl rfl rfl (Val.loadB 0 agg25 rfl rfl rfl) ?_)
           refine TL.cons (TO.val rfl rfl rfl (Val.move rfl) ?_)
           refine TL.cons (TO.val rfl rfl rfl (Val.indexAddr Tryd.underlying25 fsz37 rfl hA1696 rfl hi1697 hj1698) ?_)
           refine TL.cons (TO.val rfl rfl rfl (Val.fieldAddrE Tryd.underlying37 rfl fsz33 rfl rfl) ?_)
           refine TL.cons (TO.val rfl rfl rfl (Val.loadS agg33 rfl (hcl1699 0 _ rfl)) ?_)
           refine TL.cons (TO.val rfl rfl rfl (Val.move rfl) ?_)
           obtain ⟨y1725, hx1726, h⟩ := bind_no h
           obtain ⟨ad1727, cs1733, hA1728, hi1729, hj1730, hcl1731, hK1732⟩ := Rd.at hr1704 hx1726
           obtain ⟨A1734, c1735, rfl, hr1736, hl1737⟩ := k40_openR hK1732
           refine TL.cons (TO.val rfl rfl rfl (Val.indexAddr Tryd.underlying33 fsz40 rfl hA1728 rfl hi1729 hj1730) ?_)
           refine TL.cons (TO.val rfl rfl rfl (Val.loadsS (cs := [.int .i64 y1725.f0, .int .i64 y1725.f1, .int .i64 y1725.f2, .int .i64 y1725.f3, .int .i64 y1725.f4, .slice A1734 y1725.f5.length c1735]) agg40 fsz40 rfl rfl (Cl.sub (off := 0) (n := 6) hcl1731 rfl)) ?_)
           refine TL.cons (TO.val rfl rfl rfl (Val.move rfl) ?_)
           obtain ⟨y1738, hy1739, h⟩ := bind_no h
           refine TL.cons (TL.callV (Lin := []) (args := [.agg #[.int .i64 y1725.f0, .int .i64 y1725.f1, .int .i64 y1725.f2, .int .i64 y1725.f3, .int .i64 y1725.f4, .slice A1734 y1725.f5.length c1735], .int .i64 a1]) rfl rfl rfl hbd24 rfl rfl (swageref14_RightOp.calls (a0 := y1725) (a1 := a1) hr1736 hl1737 hy1739) rfl ?_)
           rintro _ _ _ _ ⟨rfl, rfl, rfl⟩
           refine TL.cons (TO.val rfl rfl rfl (Val.assign rfl) ?_)
           refine TL.nil ?_
           refine TQ.then_ ?_
           refine TC.seq ?_
           refine TC.region ?_
           refine TL.cons (TO.val rfl rfl rfl (Val.move rfl) ?_)
           refine TL.cons (TO.val rfl rfl rfl (Val.not_ rfl) ?_)
           refine TL.nil ?_
           refine TQ.then_ ?_
           refine TC.cond_b rfl h (fun hc1741 h => ?_) (fun hc1741 h => ?_)
           ·
            refine TC.seq ?_
            refine TC.region ?_
            refine TL.cons (TO.val rfl rfl rfl (Val.assign rfl) ?_)
            refine TL.nil ?_
            refine TQ.then_ ?_
            refine TC.ret ?_
            refine TQ.inBR ?_
            refine TQ.thenR ?_
            refine TQ.thenR ?_
            refine TQ.inBR ?_
            refine TQ.thenR ?_
            refine TQ.inBR ?_
            refine TQ.thenR ?_
            refine TQ.thenR ?_
            refine TQ.inBR ?_
            refine TQ.thenR ?_
            refine TQ.thenR ?_
            obtain rfl := Option.some.inj h
            have h := ko1642
            obtain rfl := Option.some.inj h
            have h := ko965
            obtain rfl := Option.some.inj h
            exact TQ.fin (.inl rfl) rfl Tryd.results28 (.tmp rfl .nil) rfl (FRel.mk (Ls := []) [] 1 (Gd.le.refl _) rfl rfl rfl ⟨rfl, rfl, rfl⟩)
           ·
            refine TC.skip ?_
            refine TQ.inB ?_
            refine TQ.then_ ?_
            refine TC.region ?_
            refine TL.cons (TO.val rfl rfl rfl (Val.move rfl) ?_)
            refine TL.cons (TO.val rfl rfl rfl (Val.cmp rfl rfl run_add) ?_)
            refine TL.cons (TO.val rfl rfl rfl (Val.assign rfl) ?_)
            refine TL.nil ?_
            exact fun a W hF hO => ⟨IntKind.i64.wrap (x1592 + 1), h, hF.sub ⟨rfl, rfl, rfl, rfl, rfl, trivial⟩, hO.selT (Ls := [Blk b5 [.int .i64 a0.f0, .slice A1 a0.f1.length c2] 27]) [0] 1 rfl rfl rfl⟩
          ·
           refine TC.exit ?_
           refine TQ.thenX ?_
           refine TQ.thenX ?_
           refine TQ.inBX ?_
           exact fun a W hF hO => ⟨Option.some.inj h, hF.sub ⟨rfl, rfl, rfl, rfl, trivial⟩, hO.selT (Ls := [Blk b5 [.int .i64 a0.f0, .slice A1 a0.f1.length c2] 27]) [0] 1 rfl rfl rfl⟩
      ·
       refine TC.regionAny [] [0, 1, 2, 3, 4, 5, 6, 7, 8, 9, 10, 11, 12, 13, 14] mixed (by kernel_rfl) ?_
       refine TA.take 0 rfl (by kernel_rfl) rfl (PQ.then_ (PQ.then_ (PQ.then_ (PQ.inB (PQ.then_ (PQ.then_ (PQ.inB (PQ.then_ (PQ.then_ PQ.body))))))))) rfl (Val.move rfl) (fun W hO => hO) ?_
       refine TA.take 1 rfl (by kernel_rfl) rfl (PQ.then_ (PQ.then_ (PQ.then_ (PQ.inB (PQ.then_ (PQ.then_ (PQ.inB (PQ.then_ (PQ.then_ PQ.body))))))))) rfl (Val.cmp rfl rfl run_gtr) (fun W hO => hO) ?_
       refine TA.take 2 rfl (by kernel_rfl) rfl (PQ.then_ (PQ.then_ (PQ.then_ (PQ.inB (PQ.then_ (PQ.then_ (PQ.inB (PQ.then_ (PQ.then_ PQ.body))))))))) rfl (Val.move rfl) (fun W hO => hO) ?_
       refine TK.split (p := 16384 < (IntKind.i64.wrap (x649 + (y1466.f0.length : Int)))) h (fun hg1747 h => ?_) (fun hg1747 h => ?_)
       ·
        have hk1748 : decide (16384 < (IntKind.i64.wrap (x649 + (y1466.f0.length : Int)))) = true := decide_eq_true hg1747
        refine TA.not 3 rfl (by kernel_rfl) rfl (PQ.then_ (PQ.then_ (PQ.then_ (PQ.inB (PQ.then_ (PQ.then_ (PQ.inB (PQ.then_ (PQ.then_ PQ.body))))))))) (Wt.no rfl rfl rfl hk1748) (fun W hO => hO) ?_
        refine TA.not 4 rfl (by kernel_rfl) rfl (PQ.then_ (PQ.then_ (PQ.then_ (PQ.inB (PQ.then_ (PQ.then_ (PQ.inB (PQ.then_ (PQ.then_ PQ.body))))))))) (Wt.no rfl rfl rfl hk1748) (fun W hO => hO) ?_
        refine TA.not 5 rfl (by kernel_rfl) rfl (PQ.then_ (PQ.then_ (PQ.then_ (PQ.inB (PQ.then_ (PQ.then_ (PQ.inB (PQ.then_ (PQ.then_ PQ.body))))))))) (Wt.no rfl rfl rfl hk1748) (fun W hO => hO) ?_
        refine TA.not 6 rfl (by kernel_rfl) rfl (PQ.then_ (PQ.then_ (PQ.then_ (PQ.inB (PQ.then_ (PQ.then_ (PQ.inB (PQ.then_ (PQ.then_ PQ.body))))))))) (Wt.no rfl rfl rfl hk1748) (fun W hO => hO) ?_
        refine TA.not 7 rfl (by kernel_rfl) rfl (PQ.then_ (PQ.then_ (PQ.then_ (PQ.inB (PQ.then_ (PQ.then_ (PQ.inB (PQ.then_ (PQ.then_ PQ.body))))))))) (Wt.no rfl rfl rfl hk1748) (fun W hO => hO) ?_
        refine TA.not 8 rfl (by kernel_rfl) rfl (PQ.then_ (PQ.then_ (PQ.then_ (PQ.inB (PQ.then_ (PQ.then_ (PQ.inB (PQ.then_ (PQ.then_ PQ.body))))))))) (Wt.no rfl rfl rfl hk1748) (fun W hO => hO) ?_
        refine TA.not 9 rfl (by kernel_rfl) rfl (PQ.then_ (PQ.then_ (PQ.then_ (PQ.inB (PQ.then_ (PQ.then_ (PQ.inB (PQ.then_ (PQ.then_ PQ.body))))))))) (Wt.no rfl rfl rfl hk1748) (fun W hO => hO) ?_
        refine TA.not 10 rfl (by kernel_rfl) rfl (PQ.then_ (PQ.then_ (PQ.then_ (PQ.inB (PQ.then_ (PQ.then_ (PQ.inB (PQ.then_ (PQ.then_ PQ.body))))))))) (Wt.no rfl rfl rfl hk1748) (fun W hO => hO) ?_
        refine TA.not 11 rfl (by kernel_rfl) rfl (PQ.then_ (PQ.then_ (PQ.then_ (PQ.inB (PQ.then_ (PQ.then_ (PQ.inB (PQ.then_ (PQ.then_ PQ.body))))))))) (Wt.no rfl rfl rfl hk1748) (fun W hO => hO) ?_
        refine TA.not 12 rfl (by kernel_rfl) rfl (PQ.then_ (PQ.then_ (PQ.then_ (PQ.inB (PQ.then_ (PQ.then_ (PQ.inB (PQ.then_ (PQ.then_ PQ.body))))))))) (Wt.no rfl rfl rfl hk1748) (fun W hO => hO) ?_
        refine TA.not 13 rfl (by kernel_rfl) rfl (PQ.then_ (PQ.then_ (PQ.then_ (PQ.inB (PQ.then_ (PQ.then_ (PQ.inB (PQ.then_ (PQ.then_ PQ.body))))))))) (Wt.no rfl rfl rfl hk1748) (fun W hO => hO) ?_
        refine TA.take 14 rfl (by kernel_rfl) rfl (PQ.then_ (PQ.then_ (PQ.then_ (PQ.inB (PQ.then_ (PQ.then_ (PQ.inB (PQ.then_ (PQ.then_ PQ.body))))))))) rfl (Val.pickY rfl hk1748 rfl) (fun W hO => hO) ?_
        refine TA.done (by kernel_rfl) ?_
        exact fun a W hF hO => ⟨true, h, hF.sub ⟨rfl, rfl, rfl, rfl, rfl, trivial⟩, hO.selT (Ls := [Blk b5 [.int .i64 a0.f0, .slice A1 a0.f1.length c2] 27]) [0] 1 rfl rfl rfl⟩
       ·
        have hk1749 : decide (16384 < (IntKind.i64.wrap (x649 + (y1466.f0.length : Int)))) = false := decide_eq_false hg1747
        refine TA.take 3 rfl (by kernel_rfl) rfl (PQ.then_ (PQ.then_ (PQ.then_ (PQ.inB (PQ.then_ (PQ.then_ (PQ.inB (PQ.then_ (PQ.then_ PQ.body))))))))) (Wt.yes rfl rfl rfl hk1749) (Val.fieldAddrB Tryd.underlying27 rfl fsz25 rfl rfl rfl) (fun W hO => hO) ?_
        refine TA.take 4 rfl (by kernel_rfl) rfl (PQ.then_ (PQ.then_ (PQ.then_ (PQ.inB (PQ.then_ (PQ.then_ (PQ.inB (PQ.then_ (PQ.then_ PQ.body))))))))) (Wt.yes rfl rfl rfl hk1749) (Val.loadB 0 agg25 rfl rfl rfl) (fun W hO => hO) ?_
        refine TA.take 5 rfl (by kernel_rfl) rfl (PQ.then_ (PQ.then_ (PQ.then_ (PQ.inB (PQ.then_ (PQ.then_ (PQ.inB (PQ.then_ (PQ.then_ PQ.body))))))))) (Wt.yes rfl rfl rfl hk1749) (Val.move rfl) (fun W hO => hO) ?_
        refine TA.take 6 rfl (by kernel_rfl) rfl (PQ.then_ (PQ.then_ (PQ.then_ (PQ.inB (PQ.then_ (PQ.then_ (PQ.inB (PQ.then_ (PQ.then_ PQ.body))))))))) (Wt.yes rfl rfl rfl hk1749) (Val.indexAddr Tryd.underlying25 fsz37 rfl hA1469 rfl hi1470 hj1471) (fun W hO => hO) ?_
        refine TA.take 7 rfl (by kernel_rfl) rfl (PQ.then_ (PQ.then_ (PQ.then_ (PQ.inB (PQ.then_ (PQ.then_ (PQ.inB (PQ.then_ (PQ.then_ PQ.body))))))))) (Wt.yes rfl rfl rfl hk1749) (Val.fieldAddrE Tryd.underlying37 rfl fsz35 rfl rfl) (fun W hO => hO) ?_
        refine TA.take 8 rfl (by kernel_rfl) rfl (PQ.then_ (PQ.then_ (PQ.then_ (PQ.inB (PQ.then_ (PQ.then_ (PQ.inB (PQ.then_ (PQ.then_ PQ.body))))))))) (Wt.yes rfl rfl rfl hk1749) (Val.loadsS (cs := [.int .i64 y1466.f1.f0, .int .i64 y1466.f1.f1, .int .i64 y1466.f1.f2, .int .i64 y1466.f1.f3]) agg35 fsz35 rfl rfl (Cl.sub (off := 1) (n := 4) hcl1472 rfl)) (fun W hO => hO) ?_
        refine TA.take 9 rfl (by kernel_rfl) rfl (PQ.then_ (PQ.then_ (PQ.then_ (PQ.inB (PQ.then_ (PQ.then_ (PQ.inB (PQ.then_ (PQ.then_ PQ.body))))))))) (Wt.yes rfl rfl rfl hk1749) (Val.fieldAddrB Tryd.underlying27 rfl fsz25 rfl rfl rfl) (fun W hO => hO) ?_
        refine TA.take 10 rfl (by kernel_rfl) rfl (PQ.then_ (PQ.then_ (PQ.then_ (PQ.inB (PQ.then_ (PQ.then_ (PQ.inB (PQ.then_ (PQ.then_ PQ.body))))))))) (Wt.yes rfl rfl rfl hk1749) (Val.loadB 0 agg25 rfl rfl rfl) (fun W hO => hO) ?_
        refine TA.take 11 rfl (by kernel_rfl) rfl (PQ.then_ (PQ.then_ (PQ.then_ (PQ.inB (PQ.then_ (PQ.then_ (PQ.inB (PQ.then_ (PQ.then_ PQ.body))))))))) (Wt.yes rfl rfl rfl hk1749) (Val.len Tryd.underlying25 rfl) (fun W hO => hO) ?_
        obtain ⟨y1750, hy1751, h⟩ := bind_no h
        refine TA.eff 12 rfl (by kernel_rfl) rfl (TL.callV (Lin := []) (args := [.agg #[.int .i64 y1466.f1.f0, .int .i64 y1466.f1.f1, .int .i64 y1466.f1.f2, .int .i64 y1466.f1.f3], .int .i64 (a0.f1.length : Int)]) (Wt.yes rfl rfl rfl hk1749) rfl rfl hbd61 rfl rfl (swageref14_rightTerm.calls (a0 := y1466.f1) (a1 := (a0.f1.length : Int)) hy1751) rfl ?_)
        rintro _ _ _ _ ⟨rfl, rfl, rfl⟩
        refine TA.next (fun W hO => hO) ?_
        refine TA.take 13 rfl (by kernel_rfl) rfl (PQ.then_ (PQ.then_ (PQ.then_ (PQ.inB (PQ.then_ (PQ.then_ (PQ.inB (PQ.then_ (PQ.then_ PQ.body))))))))) (Wt.yes rfl rfl rfl hk1749) (Val.not_ rfl) (fun W hO => hO) ?_
        refine TA.take 14 rfl (by kernel_rfl) rfl (PQ.then_ (PQ.then_ (PQ.then_ (PQ.inB (PQ.then_ (PQ.then_ (PQ.inB (PQ.then_ (PQ.then_ PQ.body))))))))) rfl (Val.pickN rfl hk1749 rfl) (fun W hO => hO) ?_
        refine TA.done (by kernel_rfl) ?_
        exact fun a W hF hO => ⟨(!y1750), h, hF.sub ⟨rfl, rfl, rfl, rfl, rfl, trivial⟩, hO.selT (Ls := [Blk b5 [.int .i64 a0.f0, .slice A1 a0.f1.length c2] 27]) [0] 1 rfl rfl rfl⟩
     ·
      refine TC.exit ?_
      refine TQ.thenX ?_
      refine TQ.thenX ?_
      refine TQ.inBX ?_
      exact fun a W hF hO => ⟨Option.some.inj h, hF.sub trivial, hO.selT (Ls := []) [] 1 rfl rfl rfl⟩
 ·
  refine TC.region ?_
  refine TL.cons (TO.val rfl rfl rfl (Val.fieldAddrB Tryd.underlying27 rfl fsz25 rfl rfl rfl) ?_)
  refine TL.cons (TO.val rfl rfl rfl (Val.loadB 0 agg25 rfl rfl rfl) ?_)
  refine TL.cons (TO.val rfl rfl rfl (Val.len Tryd.underlying25 rfl) ?_)
  refine TL.cons (TO.val rfl rfl rfl (Val.cmp rfl rfl run_lss) ?_)
  refine TL.cons (TO.val rfl rfl rfl (Val.move rfl) ?_)
  refine TK.split (p := (a0.f1.length : Int) < 1) h (fun hg1752 h => ?_) (fun hg1752 h => ?_)
  ·
   have hk1753 : decide ((a0.f1.length : Int) < 1) = true := decide_eq_true hg1752
   refine TL.cons (TL.not (Wt.no rfl rfl rfl hk1753) rfl ?_)
   refine TL.cons (TL.not (Wt.no rfl rfl rfl hk1753) rfl ?_)
   refine TL.cons (TL.not (Wt.no rfl rfl rfl hk1753) rfl ?_)
   refine TL.cons (TL.not (Wt.no rfl rfl rfl hk1753) rfl ?_)
   refine TL.cons (TO.val rfl rfl rfl (Val.pickY rfl hk1753 rfl) ?_)
   refine TL.cons (TO.val rfl rfl rfl (Val.move rfl) ?_)
   refine TL.cons (TL.not (Wt.no rfl rfl rfl rfl) rfl ?_)
   refine TL.cons (TL.not (Wt.no rfl rfl rfl rfl) rfl ?_)
   refine TL.cons (TL.not (Wt.no rfl rfl rfl rfl) rfl ?_)
   refine TL.cons (TO.val rfl rfl rfl (Val.pickY rfl rfl rfl) ?_)
   refine TL.cons (TO.val rfl rfl rfl (Val.move rfl) ?_)
   refine TL.cons (TL.not (Wt.no rfl rfl rfl rfl) rfl ?_)
   refine TL.cons (TL.not (Wt.no rfl rfl rfl rfl) rfl ?_)
   refine TL.cons (TL.not (Wt.no rfl rfl rfl rfl) rfl ?_)
   refine TL.cons (TO.val rfl rfl rfl (Val.pickY rfl rfl rfl) ?_)
   refine TL.nil ?_
   exact fun a W hF hO => ⟨true, h, hF.sub ⟨rfl, rfl, rfl, trivial⟩, hO.selT (Ls := [Blk b5 [.int .i64 a0.f0, .slice A1 a0.f1.length c2] 27]) [0] 1 rfl rfl rfl⟩
  ·
   have hk1754 : decide ((a0.f1.length : Int) < 1) = false := decide_eq_false hg1752
   refine TL.cons (TO.val (Wt.yes rfl rfl rfl hk1754) rfl rfl (Val.fieldAddrB Tryd.underlying27 rfl fsz25 rfl rfl rfl) ?_)
   refine TL.cons (TO.val (Wt.yes rfl rfl rfl hk1754) rfl rfl (Val.loadB 0 agg25 rfl rfl rfl) ?_)
   refine TL.cons (TO.val (Wt.yes rfl rfl rfl hk1754) rfl rfl (Val.len Tryd.underlying25 rfl) ?_)
   refine TL.cons (TO.val (Wt.yes rfl rfl rfl hk1754) rfl rfl (Val.cmp rfl rfl run_gtr) ?_)
   refine TL.cons (TO.val rfl rfl rfl (Val.pickN rfl hk1754 rfl) ?_)
   refine TL.cons (TO.val rfl rfl rfl (Val.move rfl) ?_)
   refine TK.split (p := 4096 < (a0.f1.length : Int)) h (fun hg1755 h => ?_) (fun hg1755 h => ?_)
   ·
    have hk1756 : decide (4096 < (a0.f1.length : Int)) = true := decide_eq_true hg1755
    refine TL.cons (TL.not (Wt.no rfl rfl rfl hk1756) rfl ?_)
    refine TL.cons (TL.not (Wt.no rfl rfl rfl hk1756) rfl ?_)
    refine TL.cons (TL.not (Wt.no rfl rfl rfl hk1756) rfl ?_)
    refine TL.cons (TO.val rfl rfl rfl (Val.pickY rfl hk1756 rfl) ?_)
    refine TL.cons (TO.val rfl rfl rfl (Val.move rfl) ?_)
    refine TL.cons (TL.not (Wt.no rfl rfl rfl rfl) rfl ?_)
    refine TL.cons (TL.not (Wt.no rfl rfl rfl rfl) rfl ?_)
    refine TL.cons (TL.not (Wt.no rfl rfl rfl rfl) rfl ?_)
    refine TL.cons (TO.val rfl rfl rfl (Val.pickY rfl rfl rfl) ?_)
    refine TL.nil ?_
    exact fun a W hF hO => ⟨true, h, hF.sub ⟨rfl, rfl, rfl, trivial⟩, hO.selT (Ls := [Blk b5 [.int .i64 a0.f0, .slice A1 a0.f1.length c2] 27]) [0] 1 rfl rfl rfl⟩
   ·
    have hk1757 : decide (4096 < (a0.f1.length : Int)) = false := decide_eq_false hg1755
    refine TL.cons (TO.val (Wt.yes rfl rfl rfl hk1757) rfl rfl (Val.fieldAddrB Tryd.underlying27 rfl fsz3 rfl rfl rfl) ?_)
    refine TL.cons (TO.val (Wt.yes rfl rfl rfl hk1757) rfl rfl (Val.loadB 0 agg3 rfl rfl rfl) ?_)
    refine TL.cons (TO.val (Wt.yes rfl rfl rfl hk1757) rfl rfl (Val.cmp rfl rfl run_lss) ?_)
    refine TL.cons (TO.val rfl rfl rfl (Val.pickN rfl hk1757 rfl) ?_)
    refine TL.cons (TO.val rfl rfl rfl (Val.move rfl) ?_)
    refine TK.split (p := a0.f0 < 0) h (fun hg1758 h => ?_) (fun hg1758 h => ?_)
    ·
     have hk1759 : decide (a0.f0 < 0) = true := decide_eq_true hg1758
     refine TL.cons (TL.not (Wt.no rfl rfl rfl hk1759) rfl ?_)
     refine TL.cons (TL.not (Wt.no rfl rfl rfl hk1759) rfl ?_)
     refine TL.cons (TL.not (Wt.no rfl rfl rfl hk1759) rfl ?_)
     refine TL.cons (TO.val rfl rfl rfl (Val.pickY rfl hk1759 rfl) ?_)
     refine TL.nil ?_
     exact fun a W hF hO => ⟨true, h, hF.sub ⟨rfl, rfl, rfl, trivial⟩, hO.selT (Ls := [Blk b5 [.int .i64 a0.f0, .slice A1 a0.f1.length c2] 27]) [0] 1 rfl rfl rfl⟩
    ·
     have hk1760 : decide (a0.f0 < 0) = false := decide_eq_false hg1758
     refine TL.cons (TO.val (Wt.yes rfl rfl rfl hk1760) rfl rfl (Val.fieldAddrB Tryd.underlying27 rfl fsz3 rfl rfl rfl) ?_)
     refine TL.cons (TO.val (Wt.yes rfl rfl rfl hk1760) rfl rfl (Val.loadB 0 agg3 rfl rfl rfl) ?_)
     refine TL.cons (TO.val (Wt.yes rfl rfl rfl hk1760) rfl rfl (Val.cmp rfl rfl run_gtr) ?_)
     refine TL.cons (TO.val rfl rfl rfl (Val.pickN rfl hk1760 rfl) ?_)
     refine TL.nil ?_
     exact fun a W hF hO => ⟨decide (8 < a0.f0), h, hF.sub ⟨rfl, rfl, rfl, trivial⟩, hO.selT (Ls := [Blk b5 [.int .i64 a0.f0, .slice A1 a0.f1.length c2] 27]) [0] 1 rfl rfl rfl⟩
end Go.Proofs.YtmacdhkfgoahcaaDoor.Sy
set_option linter.unusedVariables false
set_option linter.unusedSimpArgs false
set_option maxRecDepth 100000
set_option maxHeartbeats 4000000
namespace Go.Proofs.YtmacdhkfgoahcaaDoor.Sy
open Go Go.RowKit Go.Proofs.YtmacdhkfgoahcaaDoorW.PrintWords 
def code_Program.l2 (a0 : (List S27)) (y16627 : S37) : Nat → Int → Option (Sum (Sum (Sum Bool (Unit)) (Unit)) (Unit))
 | 0, _ => none
 | n17469 + 1, x17192 => (if x17192 < (y16627.f0.length : Int) then (at? y16627.f0 x17192).bind fun y17899 => jn (γ := (Sum (Sum (Sum Bool (Unit)) (Unit)) (Unit))) (fun (x18016 : Bool) => (if x18016 = true then some (.inl (.inl (.inl false))) else code_Program.l2 a0 y16627 n17469 (IntKind.i64.wrap (x17192 + 1)))) (fun (j18017 : (Bool → Option (Sum (Sum (Sum Bool (Unit)) (Unit)) (Unit)))) => (if y17899.f0 = 7 then (at? a0 y17899.f4).bind fun y18039 => j18017 (!decide ((y17899.f5.length : Int) = y18039.f0)) else j18017 false)) else some (.inr ()))
def code_Program.l1 (a0 : (List S27)) (y12205 : S27) : Nat → Int → Option (Sum (Sum Bool (Unit)) (Unit))
 | 0, _ => none
 | n15389 + 1, x14681 => (if x14681 < (y12205.f1.length : Int) then (at? y12205.f1 x14681).bind fun y16627 => (code_Program.l2 a0 y16627 (y16627.f0.length + 1) 0).bind fun | .inl q_ => some q_ | .inr _ => (code_Program.l1 a0 y12205 n15389 (IntKind.i64.wrap (x14681 + 1))) else some (.inr ()))
def code_Program.l0 (a0 : (List S27)) : Nat → Int → Option (Sum Bool (Unit))
 | 0, _ => none
 | n7987 + 1, x5333 => (if x5333 < (a0.length : Int) then (at? a0 x5333).bind fun y12205 => (code_Right.f y12205 (a0.length : Int)).bind fun (y12219 : Bool) => (if (!y12219) = true then some (.inl false) else (code_Program.l1 a0 y12205 (y12205.f1.length + 1) 0).bind fun | .inl q_ => some q_ | .inr _ => (code_Program.l0 a0 n7987 (IntKind.i64.wrap (x5333 + 1)))) else some (.inr ()))
def code_Program.f (a0 : (List S27)) : Option Bool := jn (γ := Bool) (fun (x26 : Bool) => (if x26 = true then some false else (code_Program.l0 a0 (a0.length + 1) 0).bind fun | .inl q_ => some q_ | .inr _ => (some true))) (fun (j27 : (Bool → Option Bool)) => (code_within.f (a0.length : Int) 1 256).bind fun (y18053 : Bool) => (if (!y18053) = true then j27 true else (at? a0 0).bind fun y18058 => j27 (!decide (y18058.f0 = 0))))
def code_Program.post (G : Gd)  (r : Bool) (v : Value) (G' : Gd) (Lr : List Ch) : Prop := G = G' ∧ v = .bool r ∧ Lr = []
theorem code_Program.calls {G : Gd} {r : Bool} {a0 : (List S27)} {A1 : Option Addr} {c2 : Nat} (hr3 : Rd G k27 A1 a0) (hl4 : a0.length ≤ c2) (h : code_Program.f a0 = some r) : Fn Tryd.prog 14 G [] [.slice A1 a0.length c2] (code_Program.post G  r) := by
 refine Fn.intro (e := [(0, .slice A1 a0.length c2)]) 47 Tryd.func14 rfl Tryd.ntmps14 rfl rfl (Nat.le_of_ble_eq_true rfl) (fun L => ?_)
 unfold code_Program.f at h
 refine TC.new (ch := Mk []) Mk.nil ?_
 refine TC.seq ?_
 refine TC.region ?_
 refine TL.cons (TL.box (cs := [.slice A1 a0.length c2]) rfl rfl rfl rfl (fun b6 => ?_))
 refine TL.cons (TL.alloc (cs := [.bool false]) rfl rfl zr4 rfl (fun b7 => ?_))
 refine TL.nil ?_
 refine TQ.then_ ?_
 refine TC.seq ?_
 refine TC.seq ?_
 obtain ⟨j27, hj27, h⟩ := jn_no h
 refine TC.tail (fun a W => ∃ (x26 : Bool), j27 x26 = some r ∧ Fr (⟨47, List.map mark []⟩ : Nd) a [(1, .pointer (some ⟨b6, 0, none⟩)), (2, .pointer (some ⟨b7, 0, none⟩)), (16, .bool x26)] ∧ Own G (Blk b6 [.slice A1 a0.length c2] 22 :: Blk b7 [.bool false] 4 :: Mk [] :: L) W) ?_ ?_
 ·
  rintro a W ⟨x26, h, hF, hO⟩
  rw [hj27] at h
  refine TQ.use ?_ hF hO
  clear hF hO
  refine TQ.then_ ?_
  refine TC.cond_b rfl h (fun hc29 h => ?_) (fun hc29 h => ?_)
  ·
   refine TC.seq ?_
   refine TC.region ?_
   refine TL.cons (TL.store 1 (ds := [.bool false]) (cs' := [.bool false]) (L' := (Blk b6 [.slice A1 a0.length c2] 22 :: Blk b7 [.bool false] 4 :: Mk [] :: L)) rfl fsz4 rfl rfl rfl rfl rfl (Nat.le_of_ble_eq_true rfl) rfl rfl ?_)
   refine TL.nil ?_
   refine TQ.then_ ?_
   refine TC.ret ?_
   refine TQ.thenR ?_
   refine TQ.finL (ds := List.map mark []) (.inl rfl) rfl (fun a_ hx30 => ?_)
   refine Lv.marks (L' := (Blk b6 [.slice A1 a0.length c2] 22 :: Blk b7 [.bool false] 4 :: Emp :: L)) 2 rfl rfl ?_
   obtain rfl := Option.some.inj h
   exact Lv.nil hx30 Tryd.results14 (.cell 1 rfl rfl agg4 rfl .nil) rfl (FRel.mk (Ls := []) [] 3 (Gd.le.refl _) rfl rfl rfl ⟨rfl, rfl, rfl⟩)
  ·
   refine TC.skip ?_
   refine TQ.then_ ?_
   refine TC.seq ?_
   refine TC.seq ?_
   refine TC.region ?_
   refine TL.cons (TO.val rfl rfl rfl (Val.loadB 0 agg22 rfl rfl rfl) ?_)
   refine TL.cons (TO.val rfl rfl rfl (Val.len Tryd.underlying22 rfl) ?_)
   refine TL.cons (TO.val rfl rfl rfl (Val.move rfl) ?_)
   refine TL.nil ?_
   refine TQ.then_ ?_
   obtain ⟨o7986, ho7986, ko7986⟩ := bind_no h
   clear h
   refine TC.tail (fun a W => ∃ (ds7985 : List Nat), (.inr ()) = o7986 ∧ Fr (⟨47, List.map mark ds7985⟩ : Nd) a [(2, .pointer (some ⟨b7, 0, none⟩))] ∧ Own G (Blk b7 [.bool false] 4 :: Mk ds7985 :: L) W) ?_ ?_
   ·
    rintro a W ⟨ds7985, rfl, hF, hO⟩
    have h := ko7986
    clear ko7986 ho7986
    refine TQ.use ?_ hF hO
    clear hF hO
    refine TQ.then_ ?_
    refine TC.seq ?_
    refine TC.region ?_
    refine TL.cons (TL.store 0 (ds := [.bool true]) (cs' := [.bool true]) (L' := (Blk b7 [.bool true] 4 :: Mk ds7985 :: L)) rfl fsz4 rfl rfl rfl rfl rfl (Nat.le_of_ble_eq_true rfl) rfl rfl ?_)
    refine TL.nil ?_
    refine TQ.then_ ?_
    refine TC.ret ?_
    refine TQ.finL (ds := List.map mark ds7985) (.inl rfl) rfl (fun a_ hx10628 => ?_)
    refine Lv.marks (L' := (Blk b7 [.bool true] 4 :: Emp :: L)) 1 rfl rfl ?_
    obtain rfl := Option.some.inj h
    exact Lv.nil hx10628 Tryd.results14 (.cell 0 rfl rfl agg4 rfl .nil) rfl (FRel.mk (Ls := []) [] 2 (Gd.le.refl _) rfl rfl rfl ⟨rfl, rfl, rfl⟩)
   ·
    refine TC.block ?_
    intro a W hF hO
    have hS : ∃ (x5333 : Int) (ds5334 : List Nat), code_Program.l0 a0 (a0.length + 1) x5333 = some o7986 ∧ Fr (⟨47, List.map mark ds5334⟩ : Nd) a [(1, .pointer (some ⟨b6, 0, none⟩)), (2, .pointer (some ⟨b7, 0, none⟩)), (17, .slice A1 a0.length c2), (18, .int .i64 (a0.length : Int)), (19, .int .i64 x5333)] ∧ Own G (Blk b6 [.slice A1 a0.length c2] 22 :: Blk b7 [.bool false] 4 :: Mk ds5334 :: L) W := by
     exact ⟨0, [], ho7986, hF.sub ⟨rfl, rfl, rfl, rfl, rfl, trivial⟩, hO.selT (Ls := [Blk b6 [.slice A1 a0.length c2] 22, Blk b7 [.bool false] 4, Mk []]) [0, 1, 2] 3 rfl rfl rfl⟩
    clear hF hO ho7986
    refine TC.loop (fun n7987 a W => ∃ (x5333 : Int) (ds5334 : List Nat), code_Program.l0 a0 n7987 x5333 = some o7986 ∧ Fr (⟨47, List.map mark ds5334⟩ : Nd) a [(1, .pointer (some ⟨b6, 0, none⟩)), (2, .pointer (some ⟨b7, 0, none⟩)), (17, .slice A1 a0.length c2), (18, .int .i64 (a0.length : Int)), (19, .int .i64 x5333)] ∧ Own G (Blk b6 [.slice A1 a0.length c2] 22 :: Blk b7 [.bool false] 4 :: Mk ds5334 :: L) W) ?_ ?_ hS
    ·
     rintro a W ⟨x5333, ds5334, h, hF, hO⟩
     exact none_no h
    ·
     clear hS
     rintro n7987 a W ⟨x5333, ds5334, h, hF, hO⟩
     rw [code_Program.l0] at h
     refine TC.use ?_ hF hO
     clear hF hO
     refine TC.seq ?_
     refine TC.region ?_
     refine TL.cons (TO.val rfl rfl rfl (Val.cmp rfl rfl run_lss) ?_)
     refine TL.nil ?_
     refine TQ.then_ ?_
     refine TC.seq ?_
     refine TC.cond_p rfl h (fun hc10630 h => ?_) (fun hc10630 h => ?_)
     ·
      refine TC.skip ?_
      refine TQ.then_ ?_
      refine TC.seq ?_
      refine TC.block ?_
      refine TC.seq ?_
      refine TC.region ?_
      obtain ⟨y12205, hx12206, h⟩ := bind_no h
      obtain ⟨ad12207, cs12213, hA12208, hi12209, hj12210, hcl12211, hK12212⟩ := Rd.at hr3 hx12206
      obtain ⟨A12214, c12215, rfl, hr12216, hl12217⟩ := k27_openR hK12212
      refine TL.cons (TO.val rfl rfl rfl (Val.indexAddr Tryd.underlying22 fsz27 rfl hA12208 rfl hi12209 hj12210) ?_)
      refine TL.cons (TO.val rfl rfl rfl (Val.loadsS (cs := [.int .i64 y12205.f0, .slice A12214 y12205.f1.length c12215]) agg27 fsz27 rfl rfl (Cl.sub (off := 0) (n := 2) hcl12211 rfl)) ?_)
      refine TL.cons (TL.alloc (cs := [.int .i64 0, .slice none 0 0]) rfl rfl zr27 rfl (fun b12218 => ?_))
      refine TL.cons (TL.store 0 (ds := [.int .i64 y12205.f0, .slice A12214 y12205.f1.length c12215]) (cs' := [.int .i64 y12205.f0, .slice A12214 y12205.f1.length c12215]) (L' := (Blk b12218 [.int .i64 y12205.f0, .slice A12214 y12205.f1.length c12215] 27 :: Blk b6 [.slice A1 a0.length c2] 22 :: Blk b7 [.bool false] 4 :: Mk ds5334 :: L)) rfl fsz27 rfl rfl rfl rfl rfl (Nat.le_of_ble_eq_true rfl) rfl rfl ?_)
      refine TL.nil ?_
      refine TQ.then_ ?_
      refine TC.seq ?_
      refine TC.seq ?_
      refine TC.region ?_
      refine TL.cons (TO.val rfl rfl rfl (Val.loadsB 0 (cs := [.int .i64 y12205.f0, .slice A12214 y12205.f1.length c12215]) agg27 fsz27 rfl rfl rfl rfl) ?_)
      refine TL.cons (TO.val rfl rfl rfl (Val.loadB 1 agg22 rfl rfl rfl) ?_)
      refine TL.cons (TO.val rfl rfl rfl (Val.len Tryd.underlying22 rfl) ?_)
      obtain ⟨y12219, hy12220, h⟩ := bind_no h
      refine TL.cons (TL.callV (Lin := []) (args := [.agg #[.int .i64 y12205.f0, .slice A12214 y12205.f1.length c12215], .int .i64 (a0.length : Int)]) rfl rfl rfl hbd16 rfl rfl (code_Right.calls (a0 := y12205) (a1 := (a0.length : Int)) hr12216 hl12217 hy12220) rfl ?_)
      rintro _ _ _ _ ⟨rfl, rfl, rfl⟩
      refine TL.cons (TO.val rfl rfl rfl (Val.not_ rfl) ?_)
      refine TL.nil ?_
      refine TQ.then_ ?_
      refine TC.cond_b rfl h (fun hc12222 h => ?_) (fun hc12222 h => ?_)
      ·
       refine TC.seq ?_
       refine TC.region ?_
       refine TL.cons (TL.store 2 (ds := [.bool false]) (cs' := [.bool false]) (L' := (Blk b12218 [.int .i64 y12205.f0, .slice A12214 y12205.f1.length c12215] 27 :: Blk b6 [.slice A1 a0.length c2] 22 :: Blk b7 [.bool false] 4 :: Mk ds5334 :: L)) rfl fsz4 rfl rfl rfl rfl rfl (Nat.le_of_ble_eq_true rfl) rfl rfl ?_)
       refine TL.nil ?_
       refine TQ.then_ ?_
       refine TC.ret ?_
       refine TQ.thenR ?_
       refine TQ.inBR ?_
       refine TQ.thenR ?_
       refine TQ.thenR ?_
       refine TQ.inBR ?_
       refine TQ.thenR ?_
       refine TQ.thenR ?_
       refine TQ.finL (ds := List.map mark ds5334) (.inl rfl) rfl (fun a_ hx12223 => ?_)
       refine Lv.marks (L' := (Blk b12218 [.int .i64 y12205.f0, .slice A12214 y12205.f1.length c12215] 27 :: Blk b6 [.slice A1 a0.length c2] 22 :: Blk b7 [.bool false] 4 :: Emp :: L)) 3 rfl rfl ?_
       obtain rfl := Option.some.inj h
       have h := ko7986
       obtain rfl := Option.some.inj h
       exact Lv.nil hx12223 Tryd.results14 (.cell 2 rfl rfl agg4 rfl .nil) rfl (FRel.mk (Ls := []) [] 4 (Gd.le.refl _) rfl rfl rfl ⟨rfl, rfl, rfl⟩)
      ·
       refine TC.skip ?_
       refine TQ.then_ ?_
       refine TC.seq ?_
       refine TC.region ?_
       refine TL.cons (TO.val rfl rfl rfl (Val.loadsB 0 (cs := [.int .i64 y12205.f0, .slice A12214 y12205.f1.length c12215]) agg27 fsz27 rfl rfl rfl rfl) ?_)
       refine TL.cons (TO.inl (args := [.agg #[.int .i64 y12205.f0, .slice A12214 y12205.f1.length c12215]]) (e' := [(0, .agg #[.int .i64 y12205.f0, .slice A12214 y12205.f1.length c12215])]) 4 rfl rfl hbd46 rfl rfl Tryd.func46 rfl Tryd.ntmps46 rfl rfl (Nat.le_of_ble_eq_true rfl) (fun a12224 hf12225 => ?_))
       refine TC.seq ?_
       refine TC.region ?_
       refine TL.cons (TL.box (cs := [.int .i64 y12205.f0, .slice A12214 y12205.f1.length c12215]) rfl rfl rfl rfl (fun b12227 => ?_))
       refine TL.cons (TO.val rfl rfl rfl (Val.assign rfl) ?_)
       refine TL.nil ?_
       refine TQ.then_ ?_
       refine TC.seq ?_
       refine TC.region ?_
       refine TL.cons (TO.val rfl rfl rfl (Val.makeFunc (xs := []) (ys := [.pointer (some ⟨b12227, 0, none⟩)]) rfl rfl) ?_)
       refine TL.cons (TO.val rfl rfl rfl (Val.assign rfl) ?_)
       refine TL.nil ?_
       refine TQ.then_ ?_
       refine TC.ret ?_
       refine TQ.fin (v := .func (.func 77) #[] #[.pointer (some ⟨b12227, 0, none⟩)]) (.inl rfl) rfl Tryd.results46 (.tmp rfl .nil) rfl (After.mk hf12225 rfl ?_)
       refine TL.nil ?_
       refine TQ.then_ ?_
       refine TC.block ?_
       refine TC.rangeFunc (e1 := fun l_ => [(0, .func (.yield l_) #[] #[]), (1, .pointer (some ⟨b12227, 0, none⟩))]) 27 rfl hbd77 Tryd.func77 rfl Tryd.ntmps77 rfl (fun _ => rfl) (Nat.le_of_ble_eq_true rfl) (fun a13262 R13259 o13260 o13261 hp13263 ha13264 hb13265 hf13266 hf13267 => ?_)
       refine TC.sel (Ls := [Ob o13261 (.deferred (some [])), Mk ds5334, Ob o13260 (LoopO R13259 .ready none), Blk b12227 [.int .i64 y12205.f0, .slice A12214 y12205.f1.length c12215] 27, Blk b12218 [.int .i64 y12205.f0, .slice A12214 y12205.f1.length c12215] 27, Blk b6 [.slice A1 a0.length c2] 22, Blk b7 [.bool false] 4]) [1, 6, 0, 2, 3, 4, 5] 7 rfl rfl rfl ?_
       refine TC.two (ch := Mk (o13261 :: ds5334)) Mk.cons ?_
       refine TC.seq ?_
       refine TC.region ?_
       refine TL.cons (TO.val rfl rfl rfl (Val.fieldAddrB Tryd.underlying27 rfl fsz25 rfl rfl rfl) ?_)
       refine TL.cons (TO.val rfl rfl rfl (Val.loadB 2 agg25 rfl rfl rfl) ?_)
       refine TL.cons (TO.val rfl rfl rfl (Val.len Tryd.underlying25 rfl) ?_)
       refine TL.cons (TO.val rfl rfl rfl (Val.move rfl) ?_)
       refine TL.nil ?_
       refine TQ.then_ ?_
       obtain ⟨o15388, ho15388, ko15388⟩ := bind_no h
       clear h
       refine TC.tail (fun a W => (.inr ()) = o15388 ∧ Fr 27 a [] ∧ Own G (Blk b12218 [.int .i64 y12205.f0, .slice A12214 y12205.f1.length c12215] 27 :: Blk b12227 [.int .i64 y12205.f0, .slice A12214 y12205.f1.length c12215] 27 :: Blk b6 [.slice A1 a0.length c2] 22 :: Blk b7 [.bool false] 4 :: Mk (o13261 :: ds5334) :: Ob o13260 (LoopO R13259 .ready none) :: L) W) ?_ ?_
       ·
        rintro a W ⟨rfl, hF, hO⟩
        have h := ko15388
        clear ko15388 ho15388
        refine TQ.use ?_ hF hO
        clear hF hO
        refine TQ.fin (v := .tuple #[]) (.inr rfl) rfl Tryd.results77 .nil rfl (RangeP.normal (L' := (Blk b12218 [.int .i64 y12205.f0, .slice A12214 y12205.f1.length c12215] 27 :: Blk b12227 [.int .i64 y12205.f0, .slice A12214 y12205.f1.length c12215] 27 :: Blk b6 [.slice A1 a0.length c2] 22 :: Blk b7 [.bool false] 4 :: Mk (o13261 :: ds5334) :: Emp :: L)) 5 hf13267 rfl rfl rfl ?_)
        refine TQ.inB ?_
        refine TQ.inB ?_
        refine TQ.then_ ?_
        refine TC.region ?_
        refine TL.cons (TO.val rfl rfl rfl (Val.cmp rfl rfl run_add) ?_)
        refine TL.cons (TO.val rfl rfl rfl (Val.move rfl) ?_)
        refine TL.nil ?_
        exact fun a W hF hO => ⟨IntKind.i64.wrap (x5333 + 1), (o13261 :: ds5334), h, hF.sub ⟨rfl, rfl, rfl, rfl, rfl, trivial⟩, hO.selT (Ls := [Blk b6 [.slice A1 a0.length c2] 22, Blk b7 [.bool false] 4, Mk (o13261 :: ds5334)]) [2, 3, 4] 6 rfl rfl rfl⟩
       ·
        refine TC.block ?_
        intro a W hF hO
        have hS : ∃ (x14681 : Int), code_Program.l1 a0 y12205 (y12205.f1.length + 1) x14681 = some o15388 ∧ Fr 27 a [(0, .func (.yield o13260) #[] #[]), (8, .slice A12214 y12205.f1.length c12215), (9, .int .i64 (y12205.f1.length : Int)), (10, .int .i64 x14681)] ∧ Own G (Blk b12218 [.int .i64 y12205.f0, .slice A12214 y12205.f1.length c12215] 27 :: Blk b12227 [.int .i64 y12205.f0, .slice A12214 y12205.f1.length c12215] 27 :: Blk b6 [.slice A1 a0.length c2] 22 :: Blk b7 [.bool false] 4 :: Mk (o13261 :: ds5334) :: Ob o13260 (LoopO R13259 .ready none) :: L) W := by
         exact ⟨0, ho15388, hF.sub ⟨rfl, rfl, rfl, rfl, trivial⟩, hO.selT (Ls := [Blk b12218 [.int .i64 y12205.f0, .slice A12214 y12205.f1.length c12215] 27, Blk b12227 [.int .i64 y12205.f0, .slice A12214 y12205.f1.length c12215] 27, Blk b6 [.slice A1 a0.length c2] 22, Blk b7 [.bool false] 4, Mk (o13261 :: ds5334), Ob o13260 (LoopO R13259 .ready none)]) [3, 2, 4, 5, 0, 1] 6 rfl rfl rfl⟩
        clear hF hO ho15388
        refine TC.loop (fun n15389 a W => ∃ (x14681 : Int), code_Program.l1 a0 y12205 n15389 x14681 = some o15388 ∧ Fr 27 a [(0, .func (.yield o13260) #[] #[]), (8, .slice A12214 y12205.f1.length c12215), (9, .int .i64 (y12205.f1.length : Int)), (10, .int .i64 x14681)] ∧ Own G (Blk b12218 [.int .i64 y12205.f0, .slice A12214 y12205.f1.length c12215] 27 :: Blk b12227 [.int .i64 y12205.f0, .slice A12214 y12205.f1.length c12215] 27 :: Blk b6 [.slice A1 a0.length c2] 22 :: Blk b7 [.bool false] 4 :: Mk (o13261 :: ds5334) :: Ob o13260 (LoopO R13259 .ready none) :: L) W) ?_ ?_ hS
        ·
         rintro a W ⟨x14681, h, hF, hO⟩
         exact none_no h
        ·
         clear hS
         rintro n15389 a W ⟨x14681, h, hF, hO⟩
         rw [code_Program.l1] at h
         refine TC.use ?_ hF hO
         clear hF hO
         refine TC.seq ?_
         refine TC.region ?_
         refine TL.cons (TO.val rfl rfl rfl (Val.cmp rfl rfl run_lss) ?_)
         refine TL.nil ?_
         refine TQ.then_ ?_
         refine TC.seq ?_
         refine TC.cond_p rfl h (fun hc16094 h => ?_) (fun hc16094 h => ?_)
         ·
          refine TC.skip ?_
          refine TQ.then_ ?_
          refine TC.seq ?_
          refine TC.block ?_
          refine TC.seq ?_
          refine TC.region ?_
          obtain ⟨y16627, hx16628, h⟩ := bind_no h
          obtain ⟨ad16629, cs16635, hA16630, hi16631, hj16632, hcl16633, hK16634⟩ := Rd.at hr12216 hx16628
          obtain ⟨A16636, c16637, rfl, hr16638, hl16639⟩ := k37_openR hK16634
          refine TL.cons (TO.val rfl rfl rfl (Val.indexAddr Tryd.underlying25 fsz37 rfl hA16630 rfl hi16631 hj16632) ?_)
          refine TL.cons (TO.val rfl rfl rfl (Val.loadsS (cs := [.slice A16636 y16627.f0.length c16637, .int .i64 y16627.f1.f0, .int .i64 y16627.f1.f1, .int .i64 y16627.f1.f2, .int .i64 y16627.f1.f3]) agg37 fsz37 rfl rfl (Cl.sub (off := 0) (n := 5) hcl16633 rfl)) ?_)
          refine TL.cons (TL.alloc (cs := [.slice none 0 0, .int .i64 0, .int .i64 0, .int .i64 0, .int .i64 0]) rfl rfl zr37 rfl (fun b16640 => ?_))
          refine TL.cons (TL.store 0 (ds := [.slice A16636 y16627.f0.length c16637, .int .i64 y16627.f1.f0, .int .i64 y16627.f1.f1, .int .i64 y16627.f1.f2, .int .i64 y16627.f1.f3]) (cs' := [.slice A16636 y16627.f0.length c16637, .int .i64 y16627.f1.f0, .int .i64 y16627.f1.f1, .int .i64 y16627.f1.f2, .int .i64 y16627.f1.f3]) (L' := (Blk b16640 [.slice A16636 y16627.f0.length c16637, .int .i64 y16627.f1.f0, .int .i64 y16627.f1.f1, .int .i64 y16627.f1.f2, .int .i64 y16627.f1.f3] 37 :: Blk b12218 [.int .i64 y12205.f0, .slice A12214 y12205.f1.length c12215] 27 :: Blk b12227 [.int .i64 y12205.f0, .slice A12214 y12205.f1.length c12215] 27 :: Blk b6 [.slice A1 a0.length c2] 22 :: Blk b7 [.bool false] 4 :: Mk (o13261 :: ds5334) :: Ob o13260 (LoopO R13259 .ready none) :: L)) rfl fsz37 rfl rfl rfl rfl rfl (Nat.le_of_ble_eq_true rfl) rfl rfl ?_)
          refine TL.nil ?_
          refine TQ.then_ ?_
          refine TC.seq ?_
          refine TC.region ?_
          refine TL.cons (TO.val rfl rfl rfl (Val.fieldAddrB Tryd.underlying37 rfl fsz33 rfl rfl rfl) ?_)
          refine TL.cons (TO.val rfl rfl rfl (Val.loadB 0 agg33 rfl rfl rfl) ?_)
          refine TL.cons (TO.val rfl rfl rfl (Val.len Tryd.underlying33 rfl) ?_)
          refine TL.cons (TO.val rfl rfl rfl (Val.move rfl) ?_)
          refine TL.nil ?_
          refine TQ.then_ ?_
          obtain ⟨o17468, ho17468, ko17468⟩ := bind_no h
          clear h
          refine TC.tail (fun a W => (.inr ()) = o17468 ∧ Fr 27 a [(0, .func (.yield o13260) #[] #[]), (8, .slice A12214 y12205.f1.length c12215), (9, .int .i64 (y12205.f1.length : Int)), (10, .int .i64 x14681)] ∧ Own G (Blk b12218 [.int .i64 y12205.f0, .slice A12214 y12205.f1.length c12215] 27 :: Blk b12227 [.int .i64 y12205.f0, .slice A12214 y12205.f1.length c12215] 27 :: Blk b6 [.slice A1 a0.length c2] 22 :: Blk b7 [.bool false] 4 :: Mk (o13261 :: ds5334) :: Ob o13260 (LoopO R13259 .ready none) :: L) W) ?_ ?_
          ·
           rintro a W ⟨rfl, hF, hO⟩
           have h := ko17468
           clear ko17468 ho17468
           refine TQ.use ?_ hF hO
           clear hF hO
           refine TQ.inB ?_
           refine TQ.then_ ?_
           refine TC.region ?_
           refine TL.cons (TO.val rfl rfl rfl (Val.cmp rfl rfl run_add) ?_)
           refine TL.cons (TO.val rfl rfl rfl (Val.move rfl) ?_)
           refine TL.nil ?_
           exact fun a W hF hO => ⟨IntKind.i64.wrap (x14681 + 1), h, hF.sub ⟨rfl, rfl, rfl, rfl, trivial⟩, hO.selT (Ls := [Blk b12218 [.int .i64 y12205.f0, .slice A12214 y12205.f1.length c12215] 27, Blk b12227 [.int .i64 y12205.f0, .slice A12214 y12205.f1.length c12215] 27, Blk b6 [.slice A1 a0.length c2] 22, Blk b7 [.bool false] 4, Mk (o13261 :: ds5334), Ob o13260 (LoopO R13259 .ready none)]) [0, 1, 2, 3, 4, 5] 6 rfl rfl rfl⟩
          ·
           refine TC.block ?_
           intro a W hF hO
           have hS : ∃ (x17192 : Int), code_Program.l2 a0 y16627 (y16627.f0.length + 1) x17192 = some o17468 ∧ Fr 27 a [(0, .func (.yield o13260) #[] #[]), (8, .slice A12214 y12205.f1.length c12215), (9, .int .i64 (y12205.f1.length : Int)), (10, .int .i64 x14681), (15, .slice A16636 y16627.f0.length c16637), (16, .int .i64 (y16627.f0.length : Int)), (17, .int .i64 x17192)] ∧ Own G (Blk b12218 [.int .i64 y12205.f0, .slice A12214 y12205.f1.length c12215] 27 :: Blk b12227 [.int .i64 y12205.f0, .slice A12214 y12205.f1.length c12215] 27 :: Blk b6 [.slice A1 a0.length c2] 22 :: Blk b7 [.bool false] 4 :: Mk (o13261 :: ds5334) :: Ob o13260 (LoopO R13259 .ready none) :: L) W := by
            exact ⟨0, ho17468, hF.sub ⟨rfl, rfl, rfl, rfl, rfl, rfl, rfl, trivial⟩, hO.selT (Ls := [Blk b12218 [.int .i64 y12205.f0, .slice A12214 y12205.f1.length c12215] 27, Blk b12227 [.int .i64 y12205.f0, .slice A12214 y12205.f1.length c12215] 27, Blk b6 [.slice A1 a0.length c2] 22, Blk b7 [.bool false] 4, Mk (o13261 :: ds5334), Ob o13260 (LoopO R13259 .ready none)]) [1, 2, 3, 4, 5, 6] 7 rfl rfl rfl⟩
           clear hF hO ho17468
           refine TC.loop (fun n17469 a W => ∃ (x17192 : Int), code_Program.l2 a0 y16627 n17469 x17192 = some o17468 ∧ Fr 27 a [(0, .func (.yield o13260) #[] #[]), (8, .slice A12214 y12205.f1.length c12215), (9, .int .i64 (y12205.f1.length : Int)), (10, .int .i64 x14681), (15, .slice A16636 y16627.f0.length c16637), (16, .int .i64 (y16627.f0.length : Int)), (17, .int .i64 x17192)] ∧ Own G (Blk b12218 [.int .i64 y12205.f0, .slice A12214 y12205.f1.length c12215] 27 :: Blk b12227 [.int .i64 y12205.f0, .slice A12214 y12205.f1.length c12215] 27 :: Blk b6 [.slice A1 a0.length c2] 22 :: Blk b7 [.bool false] 4 :: Mk (o13261 :: ds5334) :: Ob o13260 (LoopO R13259 .ready none) :: L) W) ?_ ?_ hS
           ·
            rintro a W ⟨x17192, h, hF, hO⟩
            exact none_no h
           ·
            clear hS
            rintro n17469 a W ⟨x17192, h, hF, hO⟩
            rw [code_Program.l2] at h
            refine TC.use ?_ hF hO
            clear hF hO
            refine TC.seq ?_
            refine TC.region ?_
            refine TL.cons (TO.val rfl rfl rfl (Val.cmp rfl rfl run_lss) ?_)
            refine TL.nil ?_
            refine TQ.then_ ?_
            refine TC.seq ?_
            refine TC.cond_p rfl h (fun hc17745 h => ?_) (fun hc17745 h => ?_)
            ·
             refine TC.skip ?_
             refine TQ.then_ ?_
             refine TC.seq ?_
             refine TC.block ?_
             refine TC.seq ?_
             refine TC.region ?_
             obtain ⟨y17899, hx17900, h⟩ := bind_no h
             obtain ⟨ad17901, cs17907, hA17902, hi17903, hj17904, hcl17905, hK17906⟩ := Rd.at hr16638 hx17900
             obtain ⟨A17908, c17909, rfl, hr17910, hl17911⟩ := k40_openR hK17906
             refine TL.cons (TO.val rfl rfl rfl (Val.indexAddr Tryd.underlying33 fsz40 rfl hA17902 rfl hi17903 hj17904) ?_)
             refine TL.cons (TO.val rfl rfl rfl (Val.loadsS (cs := [.int .i64 y17899.f0, .int .i64 y17899.f1, .int .i64 y17899.f2, .int .i64 y17899.f3, .int .i64 y17899.f4, .slice A17908 y17899.f5.length c17909]) agg40 fsz40 rfl rfl (Cl.sub (off := 0) (n := 6) hcl17905 rfl)) ?_)
             refine TL.cons (TL.alloc (cs := [.int .i64 0, .int .i64 0, .int .i64 0, .int .i64 0, .int .i64 0, .slice none 0 0]) rfl rfl zr40 rfl (fun b17912 => ?_))
             refine TL.cons (TL.store 0 (ds := [.int .i64 y17899.f0, .int .i64 y17899.f1, .int .i64 y17899.f2, .int .i64 y17899.f3, .int .i64 y17899.f4, .slice A17908 y17899.f5.length c17909]) (cs' := [.int .i64 y17899.f0, .int .i64 y17899.f1, .int .i64 y17899.f2, .int .i64 y17899.f3, .int .i64 y17899.f4, .slice A17908 y17899.f5.length c17909]) (L' := (Blk b17912 [.int .i64 y17899.f0, .int .i64 y17899.f1, .int .i64 y17899.f2, .int .i64 y17899.f3, .int .i64 y17899.f4, .slice A17908 y17899.f5.length c17909] 40 :: Blk b12218 [.int .i64 y12205.f0, .slice A12214 y12205.f1.length c12215] 27 :: Blk b12227 [.int .i64 y12205.f0, .slice A12214 y12205.f1.length c12215] 27 :: Blk b6 [.slice A1 a0.length c2] 22 :: Blk b7 [.bool false] 4 :: Mk (o13261 :: ds5334) :: Ob o13260 (LoopO R13259 .ready none) :: L)) rfl fsz40 rfl rfl rfl rfl rfl (Nat.le_of_ble_eq_true rfl) rfl rfl ?_)
             refine TL.nil ?_
             refine TQ.then_ ?_
             refine TC.seq ?_
             refine TC.region ?_
             refine TL.cons (TO.val rfl rfl rfl (Val.move rfl) ?_)
             refine TL.cons (TO.val rfl rfl rfl (Val.loadsB 0 (cs := [.int .i64 y17899.f0, .int .i64 y17899.f1, .int .i64 y17899.f2, .int .i64 y17899.f3, .int .i64 y17899.f4, .slice A17908 y17899.f5.length c17909]) agg40 fsz40 rfl rfl rfl rfl) ?_)
             refine TL.cons (TO.yield 6 rfl rfl rfl rfl hp13263 ha13264 hb13265 rfl hf13266 rfl rfl (fun a17913 hf17914 => ?_))
             refine TC.region ?_
             refine TL.cons (TL.alloc (cs := [.int .i64 0, .int .i64 0, .int .i64 0, .int .i64 0, .int .i64 0, .slice none 0 0]) rfl rfl zr40 rfl (fun b17915 => ?_))
             refine TL.cons (TL.store 0 (ds := [.int .i64 y17899.f0, .int .i64 y17899.f1, .int .i64 y17899.f2, .int .i64 y17899.f3, .int .i64 y17899.f4, .slice A17908 y17899.f5.length c17909]) (cs' := [.int .i64 y17899.f0, .int .i64 y17899.f1, .int .i64 y17899.f2, .int .i64 y17899.f3, .int .i64 y17899.f4, .slice A17908 y17899.f5.length c17909]) (L' := (Blk b17915 [.int .i64 y17899.f0, .int .i64 y17899.f1, .int .i64 y17899.f2, .int .i64 y17899.f3, .int .i64 y17899.f4, .slice A17908 y17899.f5.length c17909] 40 :: Blk b17912 [.int .i64 y17899.f0, .int .i64 y17899.f1, .int .i64 y17899.f2, .int .i64 y17899.f3, .int .i64 y17899.f4, .slice A17908 y17899.f5.length c17909] 40 :: Blk b12218 [.int .i64 y12205.f0, .slice A12214 y12205.f1.length c12215] 27 :: Blk b12227 [.int .i64 y12205.f0, .slice A12214 y12205.f1.length c12215] 27 :: Blk b6 [.slice A1 a0.length c2] 22 :: Blk b7 [.bool false] 4 :: Mk (o13261 :: ds5334) :: Ob o13260 (LoopO R13259 .ready none) :: L)) rfl fsz40 rfl rfl rfl rfl rfl (Nat.le_of_ble_eq_true rfl) rfl rfl ?_)
             refine TL.nil ?_
             refine TQ.begin (L' := (Blk b17915 [.int .i64 y17899.f0, .int .i64 y17899.f1, .int .i64 y17899.f2, .int .i64 y17899.f3, .int .i64 y17899.f4, .slice A17908 y17899.f5.length c17909] 40 :: Blk b17912 [.int .i64 y17899.f0, .int .i64 y17899.f1, .int .i64 y17899.f2, .int .i64 y17899.f3, .int .i64 y17899.f4, .slice A17908 y17899.f5.length c17909] 40 :: Blk b12218 [.int .i64 y12205.f0, .slice A12214 y12205.f1.length c12215] 27 :: Blk b12227 [.int .i64 y12205.f0, .slice A12214 y12205.f1.length c12215] 27 :: Blk b6 [.slice A1 a0.length c2] 22 :: Blk b7 [.bool false] 4 :: Mk (o13261 :: ds5334) :: Ob o13260 (LoopO R13259 .busy none) :: L)) 7 rfl rfl ?_
             refine TC.block ?_
             refine TC.seq ?_
             obtain ⟨j18017, hj18017, h⟩ := jn_no h
             refine TC.tail (fun a W => ∃ (x18016 : Bool), j18017 x18016 = some o17468 ∧ Fr 47 a [(2, .pointer (some ⟨b7, 0, none⟩)), (45, .bool x18016)] ∧ Own G (Blk b12218 [.int .i64 y12205.f0, .slice A12214 y12205.f1.length c12215] 27 :: Blk b12227 [.int .i64 y12205.f0, .slice A12214 y12205.f1.length c12215] 27 :: Blk b17912 [.int .i64 y17899.f0, .int .i64 y17899.f1, .int .i64 y17899.f2, .int .i64 y17899.f3, .int .i64 y17899.f4, .slice A17908 y17899.f5.length c17909] 40 :: Blk b6 [.slice A1 a0.length c2] 22 :: Blk b7 [.bool false] 4 :: Mk (o13261 :: ds5334) :: Ob o13260 (LoopO R13259 .busy none) :: L) W) ?_ ?_
             ·
              rintro a W ⟨x18016, h, hF, hO⟩
              rw [hj18017] at h
              refine TQ.use ?_ hF hO
              clear hF hO
              refine TQ.then_ ?_
              refine TC.cond_b rfl h (fun hc18019 h => ?_) (fun hc18019 h => ?_)
              ·
               refine TC.seq ?_
               refine TC.region ?_
               refine TL.cons (TL.store 4 (ds := [.bool false]) (cs' := [.bool false]) (L' := (Blk b12218 [.int .i64 y12205.f0, .slice A12214 y12205.f1.length c12215] 27 :: Blk b12227 [.int .i64 y12205.f0, .slice A12214 y12205.f1.length c12215] 27 :: Blk b17912 [.int .i64 y17899.f0, .int .i64 y17899.f1, .int .i64 y17899.f2, .int .i64 y17899.f3, .int .i64 y17899.f4, .slice A17908 y17899.f5.length c17909] 40 :: Blk b6 [.slice A1 a0.length c2] 22 :: Blk b7 [.bool false] 4 :: Mk (o13261 :: ds5334) :: Ob o13260 (LoopO R13259 .busy none) :: L)) rfl fsz4 rfl rfl rfl rfl rfl (Nat.le_of_ble_eq_true rfl) rfl rfl ?_)
               refine TL.nil ?_
               refine TQ.then_ ?_
               refine TC.ret ?_
               refine TQ.inBR ?_
               refine TQ.roundR (L' := (Blk b12218 [.int .i64 y12205.f0, .slice A12214 y12205.f1.length c12215] 27 :: Blk b12227 [.int .i64 y12205.f0, .slice A12214 y12205.f1.length c12215] 27 :: Blk b17912 [.int .i64 y17899.f0, .int .i64 y17899.f1, .int .i64 y17899.f2, .int .i64 y17899.f3, .int .i64 y17899.f4, .slice A17908 y17899.f5.length c17909] 40 :: Blk b6 [.slice A1 a0.length c2] 22 :: Blk b7 [.bool false] 4 :: Mk (o13261 :: ds5334) :: Ob o13260 (LoopO R13259 .done (some .ret)) :: L)) 6 rfl rfl (After.mk hf17914 rfl ?_)
               refine TL.cons (TO.val rfl rfl rfl (Val.not_ rfl) ?_)
               refine TL.nil ?_
               refine TQ.then_ ?_
               refine TC.condT rfl ?_
               refine TC.ret ?_
               refine TQ.inBR ?_
               refine TQ.thenR ?_
               refine TQ.thenR ?_
               refine TQ.inBR ?_
               refine TQ.thenR ?_
               refine TQ.inBR ?_
               refine TQ.thenR ?_
               refine TQ.thenR ?_
               refine TQ.inBR ?_
               refine TQ.thenR ?_
               refine TQ.fin (v := .tuple #[]) (.inl rfl) rfl Tryd.results77 .nil rfl (RangeP.ret (L' := (Blk b12218 [.int .i64 y12205.f0, .slice A12214 y12205.f1.length c12215] 27 :: Blk b12227 [.int .i64 y12205.f0, .slice A12214 y12205.f1.length c12215] 27 :: Blk b17912 [.int .i64 y17899.f0, .int .i64 y17899.f1, .int .i64 y17899.f2, .int .i64 y17899.f3, .int .i64 y17899.f4, .slice A17908 y17899.f5.length c17909] 40 :: Blk b6 [.slice A1 a0.length c2] 22 :: Blk b7 [.bool false] 4 :: Mk (o13261 :: ds5334) :: Emp :: L)) 6 hf13267 rfl rfl rfl ?_)
               refine TQ.inBR ?_
               refine TQ.inBR ?_
               refine TQ.thenR ?_
               refine TQ.thenR ?_
               refine TQ.inBR ?_
               refine TQ.thenR ?_
               refine TQ.thenR ?_
               refine TQ.finL (ds := List.map mark (o13261 :: ds5334)) (.inl rfl) rfl (fun a_ hx18020 => ?_)
               refine Lv.marks (L' := (Blk b12218 [.int .i64 y12205.f0, .slice A12214 y12205.f1.length c12215] 27 :: Blk b12227 [.int .i64 y12205.f0, .slice A12214 y12205.f1.length c12215] 27 :: Blk b17912 [.int .i64 y17899.f0, .int .i64 y17899.f1, .int .i64 y17899.f2, .int .i64 y17899.f3, .int .i64 y17899.f4, .slice A17908 y17899.f5.length c17909] 40 :: Blk b6 [.slice A1 a0.length c2] 22 :: Blk b7 [.bool false] 4 :: Emp :: Emp :: L)) 5 rfl rfl ?_
               obtain rfl := Option.some.inj h
               have h := ko17468
               obtain rfl := Option.some.inj h
               have h := ko15388
               obtain rfl := Option.some.inj h
               have h := ko7986
               obtain rfl := Option.some.inj h
               exact Lv.nil hx18020 Tryd.results14 (.cell 4 rfl rfl agg4 rfl .nil) rfl (FRel.mk (Ls := []) [] 7 (Gd.le.refl _) rfl rfl rfl ⟨rfl, rfl, rfl⟩)
              ·
               refine TC.skip ?_
               refine TQ.inB ?_
               refine TQ.roundN (L' := (Blk b12218 [.int .i64 y12205.f0, .slice A12214 y12205.f1.length c12215] 27 :: Blk b12227 [.int .i64 y12205.f0, .slice A12214 y12205.f1.length c12215] 27 :: Blk b17912 [.int .i64 y17899.f0, .int .i64 y17899.f1, .int .i64 y17899.f2, .int .i64 y17899.f3, .int .i64 y17899.f4, .slice A17908 y17899.f5.length c17909] 40 :: Blk b6 [.slice A1 a0.length c2] 22 :: Blk b7 [.bool false] 4 :: Mk (o13261 :: ds5334) :: Ob o13260 (LoopO R13259 .ready none) :: L)) 6 rfl rfl (After.mk hf17914 rfl ?_)
               refine TL.cons (TO.val rfl rfl rfl (Val.not_ rfl) ?_)
               refine TL.nil ?_
               refine TQ.then_ ?_
               refine TC.condF rfl ?_
               refine TC.skip ?_
               refine TQ.inB ?_
               refine TQ.then_ ?_
               refine TC.region ?_
               refine TL.cons (TO.val rfl rfl rfl (Val.cmp rfl rfl run_add) ?_)
               refine TL.cons (TO.val rfl rfl rfl (Val.move rfl) ?_)
               refine TL.nil ?_
               exact fun a W hF hO => ⟨IntKind.i64.wrap (x17192 + 1), h, hF.sub ⟨rfl, rfl, rfl, rfl, rfl, rfl, rfl, trivial⟩, hO.selT (Ls := [Blk b12218 [.int .i64 y12205.f0, .slice A12214 y12205.f1.length c12215] 27, Blk b12227 [.int .i64 y12205.f0, .slice A12214 y12205.f1.length c12215] 27, Blk b6 [.slice A1 a0.length c2] 22, Blk b7 [.bool false] 4, Mk (o13261 :: ds5334), Ob o13260 (LoopO R13259 .ready none)]) [0, 1, 3, 4, 5, 6] 7 rfl rfl rfl⟩
             ·
              refine TC.regionAny [] [0, 1, 2, 3, 4, 5, 6, 7, 8, 9, 10, 11, 12, 13, 14] mixed (by kernel_rfl) ?_
              refine TA.take 0 rfl (by kernel_rfl) rfl (PQ.then_ (PQ.then_ (PQ.inB PQ.round))) rfl (Val.fieldAddrB Tryd.underlying40 rfl fsz3 rfl rfl rfl) (fun W hO => hO) ?_
              refine TA.take 1 rfl (by kernel_rfl) rfl (PQ.then_ (PQ.then_ (PQ.inB PQ.round))) rfl (Val.loadB 0 agg3 rfl rfl rfl) (fun W hO => hO) ?_
              refine TA.take 2 rfl (by kernel_rfl) rfl (PQ.then_ (PQ.then_ (PQ.inB PQ.round))) rfl (Val.cmp rfl rfl run_eql) (fun W hO => hO) ?_
              refine TA.take 3 rfl (by kernel_rfl) rfl (PQ.then_ (PQ.then_ (PQ.inB PQ.round))) rfl (Val.move rfl) (fun W hO => hO) ?_
              refine TK.split (p := y17899.f0 = 7) h (fun hg18037 h => ?_) (fun hg18037 h => ?_)
              ·
               have hk18038 : decide (y17899.f0 = 7) = true := decide_eq_true hg18037
               refine TA.take 4 rfl (by kernel_rfl) rfl (PQ.then_ (PQ.then_ (PQ.inB PQ.round))) (Wt.yes rfl rfl rfl hk18038) (Val.fieldAddrB Tryd.underlying40 rfl fsz38 rfl rfl rfl) (fun W hO => hO) ?_
               refine TA.take 5 rfl (by kernel_rfl) rfl (PQ.then_ (PQ.then_ (PQ.inB PQ.round))) (Wt.yes rfl rfl rfl hk18038) (Val.loadB 0 agg38 rfl rfl rfl) (fun W hO => hO) ?_
               refine TA.take 6 rfl (by kernel_rfl) rfl (PQ.then_ (PQ.then_ (PQ.inB PQ.round))) (Wt.yes rfl rfl rfl hk18038) (Val.len Tryd.underlying38 rfl) (fun W hO => hO) ?_
               refine TA.take 7 rfl (by kernel_rfl) rfl (PQ.then_ (PQ.then_ (PQ.inB PQ.round))) (Wt.yes rfl rfl rfl hk18038) (Val.loadB 4 agg22 rfl rfl rfl) (fun W hO => hO) ?_
               refine TA.take 8 rfl (by kernel_rfl) rfl (PQ.then_ (PQ.then_ (PQ.inB PQ.round))) (Wt.yes rfl rfl rfl hk18038) (Val.fieldAddrB Tryd.underlying40 rfl fsz3 rfl rfl rfl) (fun W hO => hO) ?_
               refine TA.take 9 rfl (by kernel_rfl) rfl (PQ.then_ (PQ.then_ (PQ.inB PQ.round))) (Wt.yes rfl rfl rfl hk18038) (Val.loadB 0 agg3 rfl rfl rfl) (fun W hO => hO) ?_
               obtain ⟨y18039, hx18040, h⟩ := bind_no h
               obtain ⟨ad18041, cs18047, hA18042, hi18043, hj18044, hcl18045, hK18046⟩ := Rd.at hr3 hx18040
               obtain ⟨A18048, c18049, rfl, hr18050, hl18051⟩ := k27_openR hK18046
               refine TA.take 10 rfl (by kernel_rfl) rfl (PQ.then_ (PQ.then_ (PQ.inB PQ.round))) (Wt.yes rfl rfl rfl hk18038) (Val.indexAddr Tryd.underlying22 fsz27 rfl hA18042 rfl hi18043 hj18044) (fun W hO => hO) ?_
               refine TA.take 11 rfl (by kernel_rfl) rfl (PQ.then_ (PQ.then_ (PQ.inB PQ.round))) (Wt.yes rfl rfl rfl hk18038) (Val.fieldAddrE Tryd.underlying27 rfl fsz3 rfl rfl) (fun W hO => hO) ?_
               refine TA.take 12 rfl (by kernel_rfl) rfl (PQ.then_ (PQ.then_ (PQ.inB PQ.round))) (Wt.yes rfl rfl rfl hk18038) (Val.loadS agg3 rfl (hcl18045 0 _ rfl)) (fun W hO => hO) ?_
               refine TA.take 13 rfl (by kernel_rfl) rfl (PQ.then_ (PQ.then_ (PQ.inB PQ.round))) (Wt.yes rfl rfl rfl hk18038) (Val.cmp rfl rfl run_neq) (fun W hO => hO) ?_
               refine TA.take 14 rfl (by kernel_rfl) rfl (PQ.then_ (PQ.then_ (PQ.inB PQ.round))) rfl (Val.pickY rfl hk18038 rfl) (fun W hO => hO) ?_
               refine TA.done (by kernel_rfl) ?_
               exact fun a W hF hO => ⟨(!decide ((y17899.f5.length : Int) = y18039.f0)), h, hF.sub ⟨rfl, rfl, trivial⟩, hO.selT (Ls := [Blk b12218 [.int .i64 y12205.f0, .slice A12214 y12205.f1.length c12215] 27, Blk b12227 [.int .i64 y12205.f0, .slice A12214 y12205.f1.length c12215] 27, Blk b17912 [.int .i64 y17899.f0, .int .i64 y17899.f1, .int .i64 y17899.f2, .int .i64 y17899.f3, .int .i64 y17899.f4, .slice A17908 y17899.f5.length c17909] 40, Blk b6 [.slice A1 a0.length c2] 22, Blk b7 [.bool false] 4, Mk (o13261 :: ds5334), Ob o13260 (LoopO R13259 .busy none)]) [2, 3, 1, 4, 5, 6, 7] 8 rfl rfl rfl⟩
              ·
               have hk18052 : decide (y17899.f0 = 7) = false := decide_eq_false hg18037
               refine TA.not 4 rfl (by kernel_rfl) rfl (PQ.then_ (PQ.then_ (PQ.inB PQ.round))) (Wt.no rfl rfl rfl hk18052) (fun W hO => hO) ?_
               refine TA.not 5 rfl (by kernel_rfl) rfl (PQ.then_ (PQ.then_ (PQ.inB PQ.round))) (Wt.no rfl rfl rfl hk18052) (fun W hO => hO) ?_
               refine TA.not 6 rfl (by kernel_rfl) rfl (PQ.then_ (PQ.then_ (PQ.inB PQ.round))) (Wt.no rfl rfl rfl hk18052) (fun W hO => hO) ?_
               refine TA.not 7 rfl (by kernel_rfl) rfl (PQ.then_ (PQ.then_ (PQ.inB PQ.round))) (Wt.no rfl rfl rfl hk18052) (fun W hO => hO) ?_
               refine TA.not 8 rfl (by kernel_rfl) rfl (PQ.then_ (PQ.then_ (PQ.inB PQ.round))) (Wt.no rfl rfl rfl hk18052) (fun W hO => hO) ?_
               refine TA.not 9 rfl (by kernel_rfl) rfl (PQ.then_ (PQ.then_ (PQ.inB PQ.round))) (Wt.no rfl rfl rfl hk18052) (fun W hO => hO) ?_
               refine TA.not 10 rfl (by kernel_rfl) rfl (PQ.then_ (PQ.then_ (PQ.inB PQ.round))) (Wt.no rfl rfl rfl hk18052) (fun W hO => hO) ?_
               refine TA.not 11 rfl (by kernel_rfl) rfl (PQ.then_ (PQ.then_ (PQ.inB PQ.round))) (Wt.no rfl rfl rfl hk18052) (fun W hO => hO) ?_
               refine TA.not 12 rfl (by kernel_rfl) rfl (PQ.then_ (PQ.then_ (PQ.inB PQ.round))) (Wt.no rfl rfl rfl hk18052) (fun W hO => hO) ?_
               refine TA.not 13 rfl (by kernel_rfl) rfl (PQ.then_ (PQ.then_ (PQ.inB PQ.round))) (Wt.no rfl rfl rfl hk18052) (fun W hO => hO) ?_
               refine TA.take 14 rfl (by kernel_rfl) rfl (PQ.then_ (PQ.then_ (PQ.inB PQ.round))) rfl (Val.pickN rfl hk18052 rfl) (fun W hO => hO) ?_
               refine TA.done (by kernel_rfl) ?_
               exact fun a W hF hO => ⟨false, h, hF.sub ⟨rfl, rfl, trivial⟩, hO.selT (Ls := [Blk b12218 [.int .i64 y12205.f0, .slice A12214 y12205.f1.length c12215] 27, Blk b12227 [.int .i64 y12205.f0, .slice A12214 y12205.f1.length c12215] 27, Blk b17912 [.int .i64 y17899.f0, .int .i64 y17899.f1, .int .i64 y17899.f2, .int .i64 y17899.f3, .int .i64 y17899.f4, .slice A17908 y17899.f5.length c17909] 40, Blk b6 [.slice A1 a0.length c2] 22, Blk b7 [.bool false] 4, Mk (o13261 :: ds5334), Ob o13260 (LoopO R13259 .busy none)]) [2, 3, 1, 4, 5, 6, 7] 8 rfl rfl rfl⟩
            ·
             refine TC.exit ?_
             refine TQ.thenX ?_
             refine TQ.thenX ?_
             refine TQ.inBX ?_
             exact fun a W hF hO => ⟨Option.some.inj h, hF.sub ⟨rfl, rfl, rfl, rfl, trivial⟩, hO.selT (Ls := [Blk b12218 [.int .i64 y12205.f0, .slice A12214 y12205.f1.length c12215] 27, Blk b12227 [.int .i64 y12205.f0, .slice A12214 y12205.f1.length c12215] 27, Blk b6 [.slice A1 a0.length c2] 22, Blk b7 [.bool false] 4, Mk (o13261 :: ds5334), Ob o13260 (LoopO R13259 .ready none)]) [0, 1, 2, 3, 4, 5] 6 rfl rfl rfl⟩
         ·
          refine TC.exit ?_
          refine TQ.thenX ?_
          refine TQ.thenX ?_
          refine TQ.inBX ?_
          exact fun a W hF hO => ⟨Option.some.inj h, hF.sub trivial, hO.selT (Ls := [Blk b12218 [.int .i64 y12205.f0, .slice A12214 y12205.f1.length c12215] 27, Blk b12227 [.int .i64 y12205.f0, .slice A12214 y12205.f1.length c12215] 27, Blk b6 [.slice A1 a0.length c2] 22, Blk b7 [.bool false] 4, Mk (o13261 :: ds5334), Ob o13260 (LoopO R13259 .ready none)]) [0, 1, 2, 3, 4, 5] 6 rfl rfl rfl⟩
     ·
      refine TC.exit ?_
      refine TQ.thenX ?_
      refine TQ.thenX ?_
      refine TQ.inBX ?_
      exact fun a W hF hO => ⟨ds5334, Option.some.inj h, hF.sub ⟨rfl, trivial⟩, hO.selT (Ls := [Blk b7 [.bool false] 4, Mk ds5334]) [1, 2] 3 rfl rfl rfl⟩
 ·
  refine TC.region ?_
  refine TL.cons (TO.val rfl rfl rfl (Val.loadB 1 agg22 rfl rfl rfl) ?_)
  refine TL.cons (TO.val rfl rfl rfl (Val.len Tryd.underlying22 rfl) ?_)
  obtain ⟨y18053, hy18054, h⟩ := bind_no h
  refine TL.cons (TL.callV (Lin := []) (args := [.int .i64 (a0.length : Int), .int .i64 1, .int .i64 256]) rfl rfl rfl hbd45 rfl rfl (code_within.calls (a0 := (a0.length : Int)) (a1 := 1) (a2 := 256) hy18054) rfl ?_)
  rintro _ _ _ _ ⟨rfl, rfl, rfl⟩
  refine TL.cons (TO.val rfl rfl rfl (Val.not_ rfl) ?_)
  refine TL.cons (TO.val rfl rfl rfl (Val.move rfl) ?_)
  refine TK.split (p := (!y18053) = true) h (fun hg18055 h => ?_) (fun hg18055 h => ?_)
  ·
   have hk18056 : (!y18053) = true := hg18055
   refine TL.cons (TL.not (Wt.no rfl rfl rfl hk18056) rfl ?_)
   refine TL.cons (TL.not (Wt.no rfl rfl rfl hk18056) rfl ?_)
   refine TL.cons (TL.not (Wt.no rfl rfl rfl hk18056) rfl ?_)
   refine TL.cons (TL.not (Wt.no rfl rfl rfl hk18056) rfl ?_)
   refine TL.cons (TL.not (Wt.no rfl rfl rfl hk18056) rfl ?_)
   refine TL.cons (TO.val rfl rfl rfl (Val.pickY rfl hk18056 rfl) ?_)
   refine TL.nil ?_
   exact fun a W hF hO => ⟨true, h, hF.sub ⟨rfl, rfl, rfl, trivial⟩, hO.selT (Ls := [Blk b6 [.slice A1 a0.length c2] 22, Blk b7 [.bool false] 4, Mk []]) [1, 0, 2] 3 rfl rfl rfl⟩
  ·
   have hk18057 : (!y18053) = false := (by simpa using hg18055)
   refine TL.cons (TO.val (Wt.yes rfl rfl rfl hk18057) rfl rfl (Val.loadB 1 agg22 rfl rfl rfl) ?_)
   obtain ⟨y18058, hx18059, h⟩ := bind_no h
   obtain ⟨ad18060, cs18066, hA18061, hi18062, hj18063, hcl18064, hK18065⟩ := Rd.at hr3 hx18059
   obtain ⟨A18067, c18068, rfl, hr18069, hl18070⟩ := k27_openR hK18065
   refine TL.cons (TO.val (Wt.yes rfl rfl rfl hk18057) rfl rfl (Val.indexAddr Tryd.underlying22 fsz27 rfl hA18061 rfl hi18062 hj18063) ?_)
   refine TL.cons (TO.val (Wt.yes rfl rfl rfl hk18057) rfl rfl (Val.fieldAddrE Tryd.underlying27 rfl fsz3 rfl rfl) ?_)
   refine TL.cons (TO.val (Wt.yes rfl rfl rfl hk18057) rfl rfl (Val.loadS agg3 rfl (hcl18064 0 _ rfl)) ?_)
   refine TL.cons (TO.val (Wt.yes rfl rfl rfl hk18057) rfl rfl (Val.cmp rfl rfl run_neq) ?_)
   refine TL.cons (TO.val rfl rfl rfl (Val.pickN rfl hk18057 rfl) ?_)
   refine TL.nil ?_
   exact fun a W hF hO => ⟨(!decide (y18058.f0 = 0)), h, hF.sub ⟨rfl, rfl, rfl, trivial⟩, hO.selT (Ls := [Blk b6 [.slice A1 a0.length c2] 22, Blk b7 [.bool false] 4, Mk []]) [1, 0, 2] 3 rfl rfl rfl⟩
end Go.Proofs.YtmacdhkfgoahcaaDoor.Sy
set_option linter.unusedVariables false
set_option linter.unusedSimpArgs false
set_option maxRecDepth 100000
set_option maxHeartbeats 4000000
namespace Go.Proofs.YtmacdhkfgoahcaaDoor.Sy
open Go Go.RowKit Go.Proofs.YtmacdhkfgoahcaaDoorW.PrintWords 
def swageref14_Program.l2 (a0 : (List S27)) (x4315 : Int) (x11462 : Int) : Nat → Int → Option (Sum (Sum (Sum Bool (Unit)) (Unit)) (Unit))
 | 0, _ => none
 | n13965 + 1, x13771 => (at? a0 x4315).bind fun y14158 => (at? y14158.f1 x11462).bind fun y14171 => (if x13771 < (y14171.f0.length : Int) then (at? y14171.f0 x13771).bind fun y14268 => jn (γ := (Sum (Sum (Sum Bool (Unit)) (Unit)) (Unit))) (fun (x14314 : Bool) => (if x14314 = true then some (.inl (.inl (.inl false))) else swageref14_Program.l2 a0 x4315 x11462 n13965 (IntKind.i64.wrap (x13771 + 1)))) (fun (j14315 : (Bool → Option (Sum (Sum (Sum Bool (Unit)) (Unit)) (Unit)))) => (if y14268.f0 = 7 then (at? a0 y14268.f4).bind fun y14336 => j14315 (!decide ((y14268.f5.length : Int) = y14336.f0)) else j14315 false)) else some (.inr ()))
def swageref14_Program.l1 (a0 : (List S27)) (x4315 : Int) : Nat → Int → Option (Sum (Sum Bool (Unit)) (Unit))
 | 0, _ => none
 | n12179 + 1, x11462 => (at? a0 x4315).bind fun y12895 => (if x11462 < (y12895.f1.length : Int) then (swageref14_Program.l2 a0 x4315 x11462 ((at? a0 x4315).elim 0 (fun vy13966 => (at? vy13966.f1 x11462).elim 0 (fun vy13979 => vy13979.f0.length)) + 1) 0).bind fun | .inl q_ => some q_ | .inr _ => (swageref14_Program.l1 a0 x4315 n12179 (IntKind.i64.wrap (x11462 + 1))) else some (.inr ()))
def swageref14_Program.l0 (a0 : (List S27)) : Nat → Int → Option (Sum Bool (Unit))
 | 0, _ => none
 | n6460 + 1, x4315 => (if x4315 < (a0.length : Int) then (at? a0 x4315).bind fun y10014 => (swageref14_Right.f y10014 (a0.length : Int)).bind fun (y10027 : Bool) => (if (!y10027) = true then some (.inl false) else (swageref14_Program.l1 a0 x4315 ((at? a0 x4315).elim 0 (fun vy12180 => vy12180.f1.length) + 1) 0).bind fun | .inl q_ => some q_ | .inr _ => (swageref14_Program.l0 a0 n6460 (IntKind.i64.wrap (x4315 + 1)))) else some (.inr ()))
def swageref14_Program.f (a0 : (List S27)) : Option Bool := jn (γ := Bool) (fun (x24 : Bool) => (if x24 = true then some false else (swageref14_Program.l0 a0 (a0.length + 1) 0).bind fun | .inl q_ => some q_ | .inr _ => (some true))) (fun (j25 : (Bool → Option Bool)) => (if (a0.length : Int) < 1 then j25 true else (if 256 < (a0.length : Int) then j25 true else (at? a0 0).bind fun y14356 => j25 (!decide (y14356.f0 = 0)))))
def swageref14_Program.post (G : Gd)  (r : Bool) (v : Value) (G' : Gd) (Lr : List Ch) : Prop := G = G' ∧ v = .bool r ∧ Lr = []
theorem swageref14_Program.calls {G : Gd} {r : Bool} {a0 : (List S27)} {A1 : Option Addr} {c2 : Nat} (hr3 : Rd G k27 A1 a0) (hl4 : a0.length ≤ c2) (h : swageref14_Program.f a0 = some r) : Fn Tryd.prog 15 G [] [.slice A1 a0.length c2] (swageref14_Program.post G  r) := by
 refine Fn.intro (e := [(0, .slice A1 a0.length c2)]) 89 Tryd.func15 rfl Tryd.ntmps15 rfl rfl (Nat.le_of_ble_eq_true rfl) (fun L => ?_)
 unfold swageref14_Program.f at h
 refine TC.seq ?_
 refine TC.region ?_
 refine TL.cons (TO.val rfl rfl rfl (Val.assign rfl) ?_)
 refine TL.nil ?_
 refine TQ.then_ ?_
 refine TC.seq ?_
 refine TC.seq ?_
 obtain ⟨j25, hj25, h⟩ := jn_no h
 refine TC.tail (fun a W => ∃ (x24 : Bool), j25 x24 = some r ∧ Fr 89 a [(0, .slice A1 a0.length c2), (22, .bool x24)] ∧ Own G (L) W) ?_ ?_
 ·
  rintro a W ⟨x24, h, hF, hO⟩
  rw [hj25] at h
  refine TQ.use ?_ hF hO
  clear hF hO
  refine TQ.then_ ?_
  refine TC.cond_b rfl h (fun hc27 h => ?_) (fun hc27 h => ?_)
  ·
   refine TC.seq ?_
   refine TC.region ?_
   refine TL.cons (TO.val rfl rfl rfl (Val.assign rfl) ?_)
   refine TL.nil ?_
   refine TQ.then_ ?_
   refine TC.ret ?_
   refine TQ.thenR ?_
   obtain rfl := Option.some.inj h
   exact TQ.fin (.inl rfl) rfl Tryd.results15 (.tmp rfl .nil) rfl (FRel.mk (Ls := []) [] 0 (Gd.le.refl _) rfl rfl rfl ⟨rfl, rfl, rfl⟩)
  ·
   refine TC.skip ?_
   refine TQ.then_ ?_
   refine TC.seq ?_
   refine TC.seq ?_
   refine TC.region ?_
   refine TL.cons (TO.val rfl rfl rfl (Val.assign rfl) ?_)
   refine TL.nil ?_
   refine TQ.then_ ?_
   obtain ⟨o6459, ho6459, ko6459⟩ := bind_no h
   clear h
   refine TC.tail (fun a W => (.inr ()) = o6459 ∧ Fr 89 a [] ∧ Own G (L) W) ?_ ?_
   ·
    rintro a W ⟨rfl, hF, hO⟩
    have h := ko6459
    clear ko6459 ho6459
    refine TQ.use ?_ hF hO
    clear hF hO
    refine TQ.then_ ?_
    refine TC.seq ?_
    refine TC.region ?_
    refine TL.cons (TO.val rfl rfl rfl (Val.assign rfl) ?_)
    refine TL.nil ?_
    refine TQ.then_ ?_
    refine TC.ret ?_
    obtain rfl := Option.some.inj h
    exact TQ.fin (.inl rfl) rfl Tryd.results15 (.tmp rfl .nil) rfl (FRel.mk (Ls := []) [] 0 (Gd.le.refl _) rfl rfl rfl ⟨rfl, rfl, rfl⟩)
   ·
    refine TC.block ?_
    intro a W hF hO
    have hS : ∃ (x4315 : Int), swageref14_Program.l0 a0 (a0.length + 1) x4315 = some o6459 ∧ Fr 89 a [(0, .slice A1 a0.length c2), (3, .int .i64 x4315)] ∧ Own G (L) W := by
     exact ⟨0, ho6459, hF.sub ⟨rfl, rfl, trivial⟩, hO.selT (Ls := []) [] 0 rfl rfl rfl⟩
    clear hF hO ho6459
    refine TC.loop (fun n6460 a W => ∃ (x4315 : Int), swageref14_Program.l0 a0 n6460 x4315 = some o6459 ∧ Fr 89 a [(0, .slice A1 a0.length c2), (3, .int .i64 x4315)] ∧ Own G (L) W) ?_ ?_ hS
    ·
     rintro a W ⟨x4315, h, hF, hO⟩
     exact none_no h
    ·
     clear hS
     rintro n6460 a W ⟨x4315, h, hF, hO⟩
     rw [swageref14_Program.l0] at h
     refine TC.use ?_ hF hO
     clear hF hO
     refine TC.seq ?_
     refine TC.seq ?_
     refine TC.region ?_
     refine TL.cons (TO.val rfl rfl rfl (Val.move rfl) ?_)
     refine TL.cons (TO.val rfl rfl rfl (Val.move rfl) ?_)
     refine TL.cons (TO.val rfl rfl rfl (Val.len Tryd.underlying22 rfl) ?_)
     refine TL.cons (TO.val rfl rfl rfl (Val.cmp rfl rfl run_lss) ?_)
     refine TL.nil ?_
     refine TQ.then_ ?_
     refine TC.cond_p rfl h (fun hc8605 h => ?_) (fun hc8605 h => ?_)
     ·
      refine TC.skip ?_
      refine TQ.then_ ?_
      refine TC.seq ?_
      refine TC.block ?_
      refine TC.seq ?_
      refine TC.region ?_
      refine TL.cons (TO.val rfl rfl rfl (Val.move rfl) ?_)
      refine TL.cons (TO.val rfl rfl rfl (Val.move rfl) ?_)
      obtain ⟨y10014, hx10015, h⟩ := bind_no h
      obtain ⟨ad10016, cs10022, hA10017, hi10018, hj10019, hcl10020, hK10021⟩ := Rd.at hr3 hx10015
      obtain ⟨A10023, c10024, rfl, hr10025, hl10026⟩ := k27_openR hK10021
      refine TL.cons (TO.val rfl rfl rfl (Val.indexAddr Tryd.underlying22 fsz27 rfl hA10017 rfl hi10018 hj10019) ?_)
      refine TL.cons (TO.val rfl rfl rfl (Val.loadsS (cs := [.int .i64 y10014.f0, .slice A10023 y10014.f1.length c10024]) agg27 fsz27 rfl rfl (Cl.sub (off := 0) (n := 2) hcl10020 rfl)) ?_)
      refine TL.cons (TO.val rfl rfl rfl (Val.move rfl) ?_)
      refine TL.cons (TO.val rfl rfl rfl (Val.len Tryd.underlying22 rfl) ?_)
      obtain ⟨y10027, hy10028, h⟩ := bind_no h
      refine TL.cons (TL.callV (Lin := []) (args := [.agg #[.int .i64 y10014.f0, .slice A10023 y10014.f1.length c10024], .int .i64 (a0.length : Int)]) rfl rfl rfl hbd28 rfl rfl (swageref14_Right.calls (a0 := y10014) (a1 := (a0.length : Int)) hr10025 hl10026 hy10028) rfl ?_)
      rintro _ _ _ _ ⟨rfl, rfl, rfl⟩
      refine TL.cons (TO.val rfl rfl rfl (Val.assign rfl) ?_)
      refine TL.nil ?_
      refine TQ.then_ ?_
      refine TC.seq ?_
      refine TC.seq ?_
      refine TC.region ?_
      refine TL.cons (TO.val rfl rfl rfl (Val.move rfl) ?_)
      refine TL.cons (TO.val rfl rfl rfl (Val.not_ rfl) ?_)
      refine TL.nil ?_
      refine TQ.then_ ?_
      refine TC.cond_b rfl h (fun hc10030 h => ?_) (fun hc10030 h => ?_)
      ·
       refine TC.seq ?_
       refine TC.region ?_
       refine TL.cons (TO.val rfl rfl rfl (Val.assign rfl) ?_)
       refine TL.nil ?_
       refine TQ.then_ ?_
       refine TC.ret ?_
       refine TQ.thenR ?_
       refine TQ.inBR ?_
       refine TQ.thenR ?_
       refine TQ.thenR ?_
       refine TQ.inBR ?_
       refine TQ.thenR ?_
       refine TQ.thenR ?_
       obtain rfl := Option.some.inj h
       have h := ko6459
       obtain rfl := Option.some.inj h
       exact TQ.fin (.inl rfl) rfl Tryd.results15 (.tmp rfl .nil) rfl (FRel.mk (Ls := []) [] 0 (Gd.le.refl _) rfl rfl rfl ⟨rfl, rfl, rfl⟩)
      ·
       refine TC.skip ?_
       refine TQ.then_ ?_
       refine TC.seq ?_
       refine TC.region ?_
       refine TL.cons (TO.val rfl rfl rfl (Val.assign rfl) ?_)
       refine TL.nil ?_
       refine TQ.then_ ?_
       obtain ⟨o12178, ho12178, ko12178⟩ := bind_no h
       clear h
       refine TC.tail (fun a W => (.inr ()) = o12178 ∧ Fr 89 a [(0, .slice A1 a0.length c2), (3, .int .i64 x4315)] ∧ Own G (L) W) ?_ ?_
       ·
        rintro a W ⟨rfl, hF, hO⟩
        have h := ko12178
        clear ko12178 ho12178
        refine TQ.use ?_ hF hO
        clear hF hO
        refine TQ.inB ?_
        refine TQ.then_ ?_
        refine TC.region ?_
        refine TL.cons (TO.val rfl rfl rfl (Val.move rfl) ?_)
        refine TL.cons (TO.val rfl rfl rfl (Val.cmp rfl rfl run_add) ?_)
        refine TL.cons (TO.val rfl rfl rfl (Val.assign rfl) ?_)
        refine TL.nil ?_
        exact fun a W hF hO => ⟨IntKind.i64.wrap (x4315 + 1), h, hF.sub ⟨rfl, rfl, trivial⟩, hO.selT (Ls := []) [] 0 rfl rfl rfl⟩
       ·
        refine TC.block ?_
        intro a W hF hO
        have hS : ∃ (x11462 : Int), swageref14_Program.l1 a0 x4315 ((at? a0 x4315).elim 0 (fun vy12180 => vy12180.f1.length) + 1) x11462 = some o12178 ∧ Fr 89 a [(0, .slice A1 a0.length c2), (3, .int .i64 x4315), (5, .int .i64 x11462)] ∧ Own G (L) W := by
         exact ⟨0, ho12178, hF.sub ⟨rfl, rfl, rfl, trivial⟩, hO.selT (Ls := []) [] 0 rfl rfl rfl⟩
        clear hF hO ho12178
        refine TC.loop (fun n12179 a W => ∃ (x11462 : Int), swageref14_Program.l1 a0 x4315 n12179 x11462 = some o12178 ∧ Fr 89 a [(0, .slice A1 a0.length c2), (3, .int .i64 x4315), (5, .int .i64 x11462)] ∧ Own G (L) W) ?_ ?_ hS
        ·
         rintro a W ⟨x11462, h, hF, hO⟩
         exact none_no h
        ·
         clear hS
         rintro n12179 a W ⟨x11462, h, hF, hO⟩
         rw [swageref14_Program.l1] at h
         refine TC.use ?_ hF hO
         clear hF hO
         refine TC.seq ?_
         refine TC.seq ?_
         refine TC.region ?_
         refine TL.cons (TO.val rfl rfl rfl (Val.move rfl) ?_)
         refine TL.cons (TO.val rfl rfl rfl (Val.move rfl) ?_)
         refine TL.cons (TO.val rfl rfl rfl (Val.move rfl) ?_)
         obtain ⟨y12895, hx12896, h⟩ := bind_no h
         obtain ⟨ad12897, cs12903, hA12898, hi12899, hj12900, hcl12901, hK12902⟩ := Rd.at hr3 hx12896
         obtain ⟨A12904, c12905, rfl, hr12906, hl12907⟩ := k27_openR hK12902
         refine TL.cons (TO.val rfl rfl rfl (Val.indexAddr Tryd.underlying22 fsz27 rfl hA12898 rfl hi12899 hj12900) ?_)
         refine TL.cons (TO.val rfl rfl rfl (Val.fieldAddrE Tryd.underlying27 rfl fsz25 rfl rfl) ?_)
         refine TL.cons (TO.val rfl rfl rfl (Val.loadS agg25 rfl (hcl12901 1 _ rfl)) ?_)
         refine TL.cons (TO.val rfl rfl rfl (Val.len Tryd.underlying25 rfl) ?_)
         refine TL.cons (TO.val rfl rfl rfl (Val.cmp rfl rfl run_lss) ?_)
         refine TL.nil ?_
         refine TQ.then_ ?_
         refine TC.cond_p rfl h (fun hc12909 h => ?_) (fun hc12909 h => ?_)
         ·
          refine TC.skip ?_
          refine TQ.then_ ?_
          refine TC.seq ?_
          refine TC.block ?_
          refine TC.seq ?_
          refine TC.region ?_
          refine TL.cons (TO.val rfl rfl rfl (Val.assign rfl) ?_)
          refine TL.nil ?_
          refine TQ.then_ ?_
          obtain ⟨o13964, ho13964, ko13964⟩ := bind_no h
          clear h
          refine TC.tail (fun a W => (.inr ()) = o13964 ∧ Fr 89 a [(0, .slice A1 a0.length c2), (3, .int .i64 x4315), (5, .int .i64 x11462)] ∧ Own G (L) W) ?_ ?_
          ·
           rintro a W ⟨rfl, hF, hO⟩
           have h := ko13964
           clear ko13964 ho13964
           refine TQ.use ?_ hF hO
           clear hF hO
           refine TQ.inB ?_
           refine TQ.then_ ?_
           refine TC.region ?_
           refine TL.cons (TO.val rfl rfl rfl (Val.move rfl) ?_)
           refine TL.cons (TO.val rfl rfl rfl (Val.cmp rfl rfl run_add) ?_)
           refine TL.cons (TO.val rfl rfl rfl (Val.assign rfl) ?_)
           refine TL.nil ?_
           exact fun a W hF hO => ⟨IntKind.i64.wrap (x11462 + 1), h, hF.sub ⟨rfl, rfl, rfl, trivial⟩, hO.selT (Ls := []) [] 0 rfl rfl rfl⟩
          ·
           refine TC.block ?_
           intro a W hF hO
           have hS : ∃ (x13771 : Int), swageref14_Program.l2 a0 x4315 x11462 ((at? a0 x4315).elim 0 (fun vy13966 => (at? vy13966.f1 x11462).elim 0 (fun vy13979 => vy13979.f0.length)) + 1) x13771 = some o13964 ∧ Fr 89 a [(0, .slice A1 a0.length c2), (3, .int .i64 x4315), (5, .int .i64 x11462), (6, .int .i64 x13771)] ∧ Own G (L) W := by
            exact ⟨0, ho13964, hF.sub ⟨rfl, rfl, rfl, rfl, trivial⟩, hO.selT (Ls := []) [] 0 rfl rfl rfl⟩
           clear hF hO ho13964
           refine TC.loop (fun n13965 a W => ∃ (x13771 : Int), swageref14_Program.l2 a0 x4315 x11462 n13965 x13771 = some o13964 ∧ Fr 89 a [(0, .slice A1 a0.length c2), (3, .int .i64 x4315), (5, .int .i64 x11462), (6, .int .i64 x13771)] ∧ Own G (L) W) ?_ ?_ hS
           ·
            rintro a W ⟨x13771, h, hF, hO⟩
            exact none_no h
           ·
            clear hS
            rintro n13965 a W ⟨x13771, h, hF, hO⟩
            rw [swageref14_Program.l2] at h
            refine TC.use ?_ hF hO
            clear hF hO
            refine TC.seq ?_
            refine TC.seq ?_
            refine TC.region ?_
            refine TL.cons (TO.val rfl rfl rfl (Val.move rfl) ?_)
            refine TL.cons (TO.val rfl rfl rfl (Val.move rfl) ?_)
            refine TL.cons (TO.val rfl rfl rfl (Val.move rfl) ?_)
            obtain ⟨y14158, hx14159, h⟩ := bind_no h
            obtain ⟨ad14160, cs14166, hA14161, hi14162, hj14163, hcl14164, hK14165⟩ := Rd.at hr3 hx14159
            obtain ⟨A14167, c14168, rfl, hr14169, hl14170⟩ := k27_openR hK14165
            refine TL.cons (TO.val rfl rfl rfl (Val.indexAddr Tryd.underlying22 fsz27 rfl hA14161 rfl hi14162 hj14163) ?_)
            refine TL.cons (TO.val rfl rfl rfl (Val.fieldAddrE Tryd.underlying27 rfl fsz25 rfl rfl) ?_)
            refine TL.cons (TO.val rfl rfl rfl (Val.loadS agg25 rfl (hcl14164 1 _ rfl)) ?_)
            refine TL.cons (TO.val rfl rfl rfl (Val.move rfl) ?_)
            obtain ⟨y14171, hx14172, h⟩ := bind_no h
            obtain ⟨ad14173, cs14179, hA14174, hi14175, hj14176, hcl14177, hK14178⟩ := Rd.at hr14169 hx14172
            obtain ⟨A14180, c14181, rfl, hr14182, hl14183⟩ := k37_openR hK14178
            refine TL.cons (TO.val rfl rfl rfl (Val.indexAddr Tryd.underlying25 fsz37 rfl hA14174 rfl hi14175 hj14176) ?_)
            refine TL.cons (TO.val rfl rfl rfl (Val.fieldAddrE Tryd.underlying37 rfl fsz33 rfl rfl) ?_)
            refine TL.cons (TO.val rfl rfl rfl (Val.loadS agg33 rfl (hcl14177 0 _ rfl)) ?_)
            refine TL.cons (TO.val rfl rfl rfl (Val.len Tryd.underlying33 rfl) ?_)
            refine TL.cons (TO.val rfl rfl rfl (Val.cmp rfl rfl run_lss) ?_)
            refine TL.nil ?_
            refine TQ.then_ ?_
            refine TC.cond_p rfl h (fun hc14185 h => ?_) (fun hc14185 h => ?_)
            ·
             refine TC.skip ?_
             refine TQ.then_ ?_
             refine TC.seq ?_
             refine TC.block ?_
             refine TC.seq ?_
             refine TC.region ?_
             refine TL.cons (TO.val rfl rfl rfl (Val.move rfl) ?_)
             refine TL.cons (TO.val rfl rfl rfl (Val.move rfl) ?_)
             refine TL.cons (TO.val rfl rfl rfl (Val.indexAddr Tryd.underlying22 fsz27 rfl hA14161 rfl hi14162 hj14163) ?_)
             refine TL.cons (TO.val rfl rfl rfl (Val.fieldAddrE Tryd.underlying27 rfl fsz25 rfl rfl) ?_)
             refine TL.cons (TO.val rfl rfl rfl (Val.loadS agg25 rfl (hcl14164 1 _ rfl)) ?_)
             refine TL.cons (TO.val rfl rfl rfl (Val.move rfl) ?_)
             refine TL.cons (TO.val rfl rfl rfl (Val.indexAddr Tryd.underlying25 fsz37 rfl hA14174 rfl hi14175 hj14176) ?_)
             refine TL.cons (TO.val rfl rfl rfl (Val.fieldAddrE Tryd.underlying37 rfl fsz33 rfl rfl) ?_)
             refine TL.cons (TO.val rfl rfl rfl (Val.loadS agg33 rfl (hcl14177 0 _ rfl)) ?_)
             refine TL.cons (TO.val rfl rfl rfl (Val.move rfl) ?_)
             obtain ⟨y14268, hx14269, h⟩ := bind_no h
             obtain ⟨ad14270, cs14276, hA14271, hi14272, hj14273, hcl14274, hK14275⟩ := Rd.at hr14182 hx14269
             obtain ⟨A14277, c14278, rfl, hr14279, hl14280⟩ := k40_openR hK14275
             refine TL.cons (TO.val rfl rfl rfl (Val.indexAddr Tryd.underlying33 fsz40 rfl hA14271 rfl hi14272 hj14273) ?_)
             refine TL.cons (TO.val rfl rfl rfl (Val.loadsS (cs := [.int .i64 y14268.f0, .int .i64 y14268.f1, .int .i64 y14268.f2, .int .i64 y14268.f3, .int .i64 y14268.f4, .slice A14277 y14268.f5.length c14278]) agg40 fsz40 rfl rfl (Cl.sub (off := 0) (n := 6) hcl14274 rfl)) ?_)
             refine TL.cons (TL.alloc (cs := [.int .i64 0, .int .i64 0, .int .i64 0, .int .i64 0, .int .i64 0, .slice none 0 0]) rfl rfl zr40 rfl (fun b14281 => ?_))
             refine TL.cons (TL.store 0 (ds := [.int .i64 y14268.f0, .int .i64 y14268.f1, .int .i64 y14268.f2, .int .i64 y14268.f3, .int .i64 y14268.f4, .slice A14277 y14268.f5.length c14278]) (cs' := [.int .i64 y14268.f0, .int .i64 y14268.f1, .int .i64 y14268.f2, .int .i64 y14268.f3, .int .i64 y14268.f4, .slice A14277 y14268.f5.length c14278]) (L' := (Blk b14281 [.int .i64 y14268.f0, .int .i64 y14268.f1, .int .i64 y14268.f2, .int .i64 y14268.f3, .int .i64 y14268.f4, .slice A14277 y14268.f5.length c14278] 40 :: L)) rfl fsz40 rfl rfl rfl rfl rfl (Nat.le_of_ble_eq_true rfl) rfl rfl ?_)
             refine TL.nil ?_
             refine TQ.then_ ?_
             refine TC.seq ?_
             obtain ⟨j14315, hj14315, h⟩ := jn_no h
             refine TC.tail (fun a W => ∃ (x14314 : Bool), j14315 x14314 = some o13964 ∧ Fr 89 a [(0, .slice A1 a0.length c2), (3, .int .i64 x4315), (5, .int .i64 x11462), (6, .int .i64 x13771), (88, .bool x14314)] ∧ Own G (L) W) ?_ ?_
             ·
              rintro a W ⟨x14314, h, hF, hO⟩
              rw [hj14315] at h
              refine TQ.use ?_ hF hO
              clear hF hO
              refine TQ.then_ ?_
              refine TC.cond_b rfl h (fun hc14317 h => ?_) (fun hc14317 h => ?_)
              ·
               refine TC.seq ?_
               refine TC.region ?_
               refine TL.cons (TO.val rfl rfl rfl (Val.assign rfl) ?_)
               refine TL.nil ?_
               refine TQ.then_ ?_
               refine TC.ret ?_
               refine TQ.inBR ?_
               refine TQ.thenR ?_
               refine TQ.thenR ?_
               refine TQ.inBR ?_
               refine TQ.thenR ?_
               refine TQ.inBR ?_
               refine TQ.thenR ?_
               refine TQ.thenR ?_
               refine TQ.inBR ?_
               refine TQ.thenR ?_
               refine TQ.inBR ?_
               refine TQ.thenR ?_
               refine TQ.thenR ?_
               refine TQ.inBR ?_
               refine TQ.thenR ?_
               refine TQ.thenR ?_
               obtain rfl := Option.some.inj h
               have h := ko13964
               obtain rfl := Option.some.inj h
               have h := ko12178
               obtain rfl := Option.some.inj h
               have h := ko6459
               obtain rfl := Option.some.inj h
               exact TQ.fin (.inl rfl) rfl Tryd.results15 (.tmp rfl .nil) rfl (FRel.mk (Ls := []) [] 0 (Gd.le.refl _) rfl rfl rfl ⟨rfl, rfl, rfl⟩)
              ·
               refine TC.skip ?_
               refine TQ.inB ?_
               refine TQ.then_ ?_
               refine TC.region ?_
               refine TL.cons (TO.val rfl rfl rfl (Val.move rfl) ?_)
               refine TL.cons (TO.val rfl rfl rfl (Val.cmp rfl rfl run_add) ?_)
               refine TL.cons (TO.val rfl rfl rfl (Val.assign rfl) ?_)
               refine TL.nil ?_
               exact fun a W hF hO => ⟨IntKind.i64.wrap (x13771 + 1), h, hF.sub ⟨rfl, rfl, rfl, rfl, trivial⟩, hO.selT (Ls := []) [] 0 rfl rfl rfl⟩
             ·
              refine TC.regionAny [] [0, 1, 2, 3, 4, 5, 6, 7, 8, 9, 10, 11, 12, 13, 14] mixed (by kernel_rfl) ?_
              refine TA.take 0 rfl (by kernel_rfl) rfl (PQ.then_ (PQ.then_ (PQ.inB (PQ.then_ (PQ.then_ (PQ.inB (PQ.then_ (PQ.inB (PQ.then_ (PQ.then_ (PQ.inB (PQ.then_ (PQ.inB (PQ.then_ (PQ.then_ (PQ.inB (PQ.then_ (PQ.then_ PQ.body)))))))))))))))))) rfl (Val.fieldAddrB Tryd.underlying40 rfl fsz3 rfl rfl rfl) (fun W hO => hO) ?_
              refine TA.take 1 rfl (by kernel_rfl) rfl (PQ.then_ (PQ.then_ (PQ.inB (PQ.then_ (PQ.then_ (PQ.inB (PQ.then_ (PQ.inB (PQ.then_ (PQ.then_ (PQ.inB (PQ.then_ (PQ.inB (PQ.then_ (PQ.then_ (PQ.inB (PQ.then_ (PQ.then_ PQ.body)))))))))))))))))) rfl (Val.loadB 0 agg3 rfl rfl rfl) (fun W hO => hO) ?_
              refine TA.take 2 rfl (by kernel_rfl) rfl (PQ.then_ (PQ.then_ (PQ.inB (PQ.then_ (PQ.then_ (PQ.inB (PQ.then_ (PQ.inB (PQ.then_ (PQ.then_ (PQ.inB (PQ.then_ (PQ.inB (PQ.then_ (PQ.then_ (PQ.inB (PQ.then_ (PQ.then_ PQ.body)))))))))))))))))) rfl (Val.cmp rfl rfl run_eql) (fun W hO => hO) ?_
              refine TA.take 3 rfl (by kernel_rfl) rfl (PQ.then_ (PQ.then_ (PQ.inB (PQ.then_ (PQ.then_ (PQ.inB (PQ.then_ (PQ.inB (PQ.then_ (PQ.then_ (PQ.inB (PQ.then_ (PQ.inB (PQ.then_ (PQ.then_ (PQ.inB (PQ.then_ (PQ.then_ PQ.body)))))))))))))))))) rfl (Val.move rfl) (fun W hO => hO) ?_
              refine TK.split (p := y14268.f0 = 7) h (fun hg14334 h => ?_) (fun hg14334 h => ?_)
              ·
               have hk14335 : decide (y14268.f0 = 7) = true := decide_eq_true hg14334
               refine TA.take 4 rfl (by kernel_rfl) rfl (PQ.then_ (PQ.then_ (PQ.inB (PQ.then_ (PQ.then_ (PQ.inB (PQ.then_ (PQ.inB (PQ.then_ (PQ.then_ (PQ.inB (PQ.then_ (PQ.inB (PQ.then_ (PQ.then_ (PQ.inB (PQ.then_ (PQ.then_ PQ.body)))))))))))))))))) (Wt.yes rfl rfl rfl hk14335) (Val.fieldAddrB Tryd.underlying40 rfl fsz38 rfl rfl rfl) (fun W hO => hO) ?_
               refine TA.take 5 rfl (by kernel_rfl) rfl (PQ.then_ (PQ.then_ (PQ.inB (PQ.then_ (PQ.then_ (PQ.inB (PQ.then_ (PQ.inB (PQ.then_ (PQ.then_ (PQ.inB (PQ.then_ (PQ.inB (PQ.then_ (PQ.then_ (PQ.inB (PQ.then_ (PQ.then_ PQ.body)))))))))))))))))) (Wt.yes rfl rfl rfl hk14335) (Val.loadB 0 agg38 rfl rfl rfl) (fun W hO => hO) ?_
               refine TA.take 6 rfl (by kernel_rfl) rfl (PQ.then_ (PQ.then_ (PQ.inB (PQ.then_ (PQ.then_ (PQ.inB (PQ.then_ (PQ.inB (PQ.then_ (PQ.then_ (PQ.inB (PQ.then_ (PQ.inB (PQ.then_ (PQ.then_ (PQ.inB (PQ.then_ (PQ.then_ PQ.body)))))))))))))))))) (Wt.yes rfl rfl rfl hk14335) (Val.len Tryd.underlying38 rfl) (fun W hO => hO) ?_
               refine TA.take 7 rfl (by kernel_rfl) rfl (PQ.then_ (PQ.then_ (PQ.inB (PQ.then_ (PQ.then_ (PQ.inB (PQ.then_ (PQ.inB (PQ.then_ (PQ.then_ (PQ.inB (PQ.then_ (PQ.inB (PQ.then_ (PQ.then_ (PQ.inB (PQ.then_ (PQ.then_ PQ.body)))))))))))))))))) (Wt.yes rfl rfl rfl hk14335) (Val.move rfl) (fun W hO => hO) ?_
               refine TA.take 8 rfl (by kernel_rfl) rfl (PQ.then_ (PQ.then_ (PQ.inB (PQ.then_ (PQ.then_ (PQ.inB (PQ.then_ (PQ.inB (PQ.then_ (PQ.then_ (PQ.inB (PQ.then_ (PQ.inB (PQ.then_ (PQ.then_ (PQ.inB (PQ.then_ (PQ.then_ PQ.body)))))))))))))))))) (Wt.yes rfl rfl rfl hk14335) (Val.fieldAddrB Tryd.underlying40 rfl fsz3 rfl rfl rfl) (fun W hO => hO) ?_
               refine TA.take 9 rfl (by kernel_rfl) rfl (PQ.then_ (PQ.then_ (PQ.inB (PQ.then_ (PQ.then_ (PQ.inB (PQ.then_ (PQ.inB (PQ.then_ (PQ.then_ (PQ.inB (PQ.then_ (PQ.inB (PQ.then_ (PQ.then_ (PQ.inB (PQ.then_ (PQ.then_ PQ.body)))))))))))))))))) (Wt.yes rfl rfl rfl hk14335) (Val.loadB 0 agg3 rfl rfl rfl) (fun W hO => hO) ?_
               obtain ⟨y14336, hx14337, h⟩ := bind_no h
               obtain ⟨ad14338, cs14344, hA14339, hi14340, hj14341, hcl14342, hK14343⟩ := Rd.at hr3 hx14337
               obtain ⟨A14345, c14346, rfl, hr14347, hl14348⟩ := k27_openR hK14343
               refine TA.take 10 rfl (by kernel_rfl) rfl (PQ.then_ (PQ.then_ (PQ.inB (PQ.then_ (PQ.then_ (PQ.inB (PQ.then_ (PQ.inB (PQ.then_ (PQ.then_ (PQ.inB (PQ.then_ (PQ.inB (PQ.then_ (PQ.then_ (PQ.inB (PQ.then_ (PQ.then_ PQ.body)))))))))))))))))) (Wt.yes rfl rfl rfl hk14335) (Val.indexAddr Tryd.underlying22 fsz27 rfl hA14339 rfl hi14340 hj14341) (fun W hO => hO) ?_
               refine TA.take 11 rfl (by kernel_rfl) rfl (PQ.then_ (PQ.then_ (PQ.inB (PQ.then_ (PQ.then_ (PQ.inB (PQ.then_ (PQ.inB (PQ.then_ (PQ.then_ (PQ.inB (PQ.then_ (PQ.inB (PQ.then_ (PQ.then_ (PQ.inB (PQ.then_ (PQ.then_ PQ.body)))))))))))))))))) (Wt.yes rfl rfl rfl hk14335) (Val.fieldAddrE Tryd.underlying27 rfl fsz3 rfl rfl) (fun W hO => hO) ?_
               refine TA.take 12 rfl (by kernel_rfl) rfl (PQ.then_ (PQ.then_ (PQ.inB (PQ.then_ (PQ.then_ (PQ.inB (PQ.then_ (PQ.inB (PQ.then_ (PQ.then_ (PQ.inB (PQ.then_ (PQ.inB (PQ.then_ (PQ.then_ (PQ.inB (PQ.then_ (PQ.then_ PQ.body)))))))))))))))))) (Wt.yes rfl rfl rfl hk14335) (Val.loadS agg3 rfl (hcl14342 0 _ rfl)) (fun W hO => hO) ?_
               refine TA.take 13 rfl (by kernel_rfl) rfl (PQ.then_ (PQ.then_ (PQ.inB (PQ.then_ (PQ.then_ (PQ.inB (PQ.then_ (PQ.inB (PQ.then_ (PQ.then_ (PQ.inB (PQ.then_ (PQ.inB (PQ.then_ (PQ.then_ (PQ.inB (PQ.then_ (PQ.then_ PQ.body)))))))))))))))))) (Wt.yes rfl rfl rfl hk14335) (Val.cmp rfl rfl run_neq) (fun W hO => hO) ?_
               refine TA.take 14 rfl (by kernel_rfl) rfl (PQ.then_ (PQ.then_ (PQ.inB (PQ.then_ (PQ.then_ (PQ.inB (PQ.then_ (PQ.inB (PQ.then_ (PQ.then_ (PQ.inB (PQ.then_ (PQ.inB (PQ.then_ (PQ.then_ (PQ.inB (PQ.then_ (PQ.then_ PQ.body)))))))))))))))))) rfl (Val.pickY rfl hk14335 rfl) (fun W hO => hO) ?_
               refine TA.done (by kernel_rfl) ?_
               exact fun a W hF hO => ⟨(!decide ((y14268.f5.length : Int) = y14336.f0)), h, hF.sub ⟨rfl, rfl, rfl, rfl, rfl, trivial⟩, hO.selT (Ls := []) [] 1 rfl rfl rfl⟩
              ·
               have hk14349 : decide (y14268.f0 = 7) = false := decide_eq_false hg14334
               refine TA.not 4 rfl (by kernel_rfl) rfl (PQ.then_ (PQ.then_ (PQ.inB (PQ.then_ (PQ.then_ (PQ.inB (PQ.then_ (PQ.inB (PQ.then_ (PQ.then_ (PQ.inB (PQ.then_ (PQ.inB (PQ.then_ (PQ.then_ (PQ.inB (PQ.then_ (PQ.then_ PQ.body)))))))))))))))))) (Wt.no rfl rfl rfl hk14349) (fun W hO => hO) ?_
               refine TA.not 5 rfl (by kernel_rfl) rfl (PQ.then_ (PQ.then_ (PQ.inB (PQ.then_ (PQ.then_ (PQ.inB (PQ.then_ (PQ.inB (PQ.then_ (PQ.then_ (PQ.inB (PQ.then_ (PQ.inB (PQ.then_ (PQ.then_ (PQ.inB (PQ.then_ (PQ.then_ PQ.body)))))))))))))))))) (Wt.no rfl rfl rfl hk14349) (fun W hO => hO) ?_
               refine TA.not 6 rfl (by kernel_rfl) rfl (PQ.then_ (PQ.then_ (PQ.inB (PQ.then_ (PQ.then_ (PQ.inB (PQ.then_ (PQ.inB (PQ.then_ (PQ.then_ (PQ.inB (PQ.then_ (PQ.inB (PQ.then_ (PQ.then_ (PQ.inB (PQ.then_ (PQ.then_ PQ.body)))))))))))))))))) (Wt.no rfl rfl rfl hk14349) (fun W hO => hO) ?_
               refine TA.not 7 rfl (by kernel_rfl) rfl (PQ.then_ (PQ.then_ (PQ.inB (PQ.then_ (PQ.then_ (PQ.inB (PQ.then_ (PQ.inB (PQ.then_ (PQ.then_ (PQ.inB (PQ.then_ (PQ.inB (PQ.then_ (PQ.then_ (PQ.inB (PQ.then_ (PQ.then_ PQ.body)))))))))))))))))) (Wt.no rfl rfl rfl hk14349) (fun W hO => hO) ?_
               refine TA.not 8 rfl (by kernel_rfl) rfl (PQ.then_ (PQ.then_ (PQ.inB (PQ.then_ (PQ.then_ (PQ.inB (PQ.then_ (PQ.inB (PQ.then_ (PQ.then_ (PQ.inB (PQ.then_ (PQ.inB (PQ.then_ (PQ.then_ (PQ.inB (PQ.then_ (PQ.then_ PQ.body)))))))))))))))))) (Wt.no rfl rfl rfl hk14349) (fun W hO => hO) ?_
               refine TA.not 9 rfl (by kernel_rfl) rfl (PQ.then_ (PQ.then_ (PQ.inB (PQ.then_ (PQ.then_ (PQ.inB (PQ.then_ (PQ.inB (PQ.then_ (PQ.then_ (PQ.inB (PQ.then_ (PQ.inB (PQ.then_ (PQ.then_ (PQ.inB (PQ.then_ (PQ.then_ PQ.body)))))))))))))))))) (Wt.no rfl rfl rfl hk14349) (fun W hO => hO) ?_
               refine TA.not 10 rfl (by kernel_rfl) rfl (PQ.then_ (PQ.then_ (PQ.inB (PQ.then_ (PQ.then_ (PQ.inB (PQ.then_ (PQ.inB (PQ.then_ (PQ.then_ (PQ.inB (PQ.then_ (PQ.inB (PQ.then_ (PQ.then_ (PQ.inB (PQ.then_ (PQ.then_ PQ.body)))))))))))))))))) (Wt.no rfl rfl rfl hk14349) (fun W hO => hO) ?_
               refine TA.not 11 rfl (by kernel_rfl) rfl (PQ.then_ (PQ.then_ (PQ.inB (PQ.then_ (PQ.then_ (PQ.inB (PQ.then_ (PQ.inB (PQ.then_ (PQ.then_ (PQ.inB (PQ.then_ (PQ.inB (PQ.then_ (PQ.then_ (PQ.inB (PQ.then_ (PQ.then_ PQ.body)))))))))))))))))) (Wt.no rfl rfl rfl hk14349) (fun W hO => hO) ?_
               refine TA.not 12 rfl (by kernel_rfl) rfl (PQ.then_ (PQ.then_ (PQ.inB (PQ.then_ (PQ.then_ (PQ.inB (PQ.then_ (PQ.inB (PQ.then_ (PQ.then_ (PQ.inB (PQ.then_ (PQ.inB (PQ.then_ (PQ.then_ (PQ.inB (PQ.then_ (PQ.then_ PQ.body)))))))))))))))))) (Wt.no rfl rfl rfl hk14349) (fun W hO => hO) ?_
               refine TA.not 13 rfl (by kernel_rfl) rfl (PQ.then_ (PQ.then_ (PQ.inB (PQ.then_ (PQ.then_ (PQ.inB (PQ.then_ (PQ.inB (PQ.then_ (PQ.then_ (PQ.inB (PQ.then_ (PQ.inB (PQ.then_ (PQ.then_ (PQ.inB (PQ.then_ (PQ.then_ PQ.body)))))))))))))))))) (Wt.no rfl rfl rfl hk14349) (fun W hO => hO) ?_
               refine TA.take 14 rfl (by kernel_rfl) rfl (PQ.then_ (PQ.then_ (PQ.inB (PQ.then_ (PQ.then_ (PQ.inB (PQ.then_ (PQ.inB (PQ.then_ (PQ.then_ (PQ.inB (PQ.then_ (PQ.inB (PQ.then_ (PQ.then_ (PQ.inB (PQ.then_ (PQ.then_ PQ.body)))))))))))))))))) rfl (Val.pickN rfl hk14349 rfl) (fun W hO => hO) ?_
               refine TA.done (by kernel_rfl) ?_
               exact fun a W hF hO => ⟨false, h, hF.sub ⟨rfl, rfl, rfl, rfl, rfl, trivial⟩, hO.selT (Ls := []) [] 1 rfl rfl rfl⟩
            ·
             refine TC.exit ?_
             refine TQ.thenX ?_
             refine TQ.thenX ?_
             refine TQ.inBX ?_
             exact fun a W hF hO => ⟨Option.some.inj h, hF.sub ⟨rfl, rfl, rfl, trivial⟩, hO.selT (Ls := []) [] 0 rfl rfl rfl⟩
         ·
          refine TC.exit ?_
          refine TQ.thenX ?_
          refine TQ.thenX ?_
          refine TQ.inBX ?_
          exact fun a W hF hO => ⟨Option.some.inj h, hF.sub ⟨rfl, rfl, trivial⟩, hO.selT (Ls := []) [] 0 rfl rfl rfl⟩
     ·
      refine TC.exit ?_
      refine TQ.thenX ?_
      refine TQ.thenX ?_
      refine TQ.inBX ?_
      exact fun a W hF hO => ⟨Option.some.inj h, hF.sub trivial, hO.selT (Ls := []) [] 0 rfl rfl rfl⟩
 ·
  refine TC.region ?_
  refine TL.cons (TO.val rfl rfl rfl (Val.move rfl) ?_)
  refine TL.cons (TO.val rfl rfl rfl (Val.len Tryd.underlying22 rfl) ?_)
  refine TL.cons (TO.val rfl rfl rfl (Val.cmp rfl rfl run_lss) ?_)
  refine TL.cons (TO.val rfl rfl rfl (Val.move rfl) ?_)
  refine TK.split (p := (a0.length : Int) < 1) h (fun hg14350 h => ?_) (fun hg14350 h => ?_)
  ·
   have hk14351 : decide ((a0.length : Int) < 1) = true := decide_eq_true hg14350
   refine TL.cons (TL.not (Wt.no rfl rfl rfl hk14351) rfl ?_)
   refine TL.cons (TL.not (Wt.no rfl rfl rfl hk14351) rfl ?_)
   refine TL.cons (TL.not (Wt.no rfl rfl rfl hk14351) rfl ?_)
   refine TL.cons (TO.val rfl rfl rfl (Val.pickY rfl hk14351 rfl) ?_)
   refine TL.cons (TO.val rfl rfl rfl (Val.move rfl) ?_)
   refine TL.cons (TL.not (Wt.no rfl rfl rfl rfl) rfl ?_)
   refine TL.cons (TL.not (Wt.no rfl rfl rfl rfl) rfl ?_)
   refine TL.cons (TL.not (Wt.no rfl rfl rfl rfl) rfl ?_)
   refine TL.cons (TL.not (Wt.no rfl rfl rfl rfl) rfl ?_)
   refine TL.cons (TL.not (Wt.no rfl rfl rfl rfl) rfl ?_)
   refine TL.cons (TO.val rfl rfl rfl (Val.pickY rfl rfl rfl) ?_)
   refine TL.nil ?_
   exact fun a W hF hO => ⟨true, h, hF.sub ⟨rfl, rfl, trivial⟩, hO.selT (Ls := []) [] 0 rfl rfl rfl⟩
  ·
   have hk14352 : decide ((a0.length : Int) < 1) = false := decide_eq_false hg14350
   refine TL.cons (TO.val (Wt.yes rfl rfl rfl hk14352) rfl rfl (Val.move rfl) ?_)
   refine TL.cons (TO.val (Wt.yes rfl rfl rfl hk14352) rfl rfl (Val.len Tryd.underlying22 rfl) ?_)
   refine TL.cons (TO.val (Wt.yes rfl rfl rfl hk14352) rfl rfl (Val.cmp rfl rfl run_gtr) ?_)
   refine TL.cons (TO.val rfl rfl rfl (Val.pickN rfl hk14352 rfl) ?_)
   refine TL.cons (TO.val rfl rfl rfl (Val.move rfl) ?_)
   refine TK.split (p := 256 < (a0.length : Int)) h (fun hg14353 h => ?_) (fun hg14353 h => ?_)
   ·
    have hk14354 : decide (256 < (a0.length : Int)) = true := decide_eq_true hg14353
    refine TL.cons (TL.not (Wt.no rfl rfl rfl hk14354) rfl ?_)
    refine TL.cons (TL.not (Wt.no rfl rfl rfl hk14354) rfl ?_)
    refine TL.cons (TL.not (Wt.no rfl rfl rfl hk14354) rfl ?_)
    refine TL.cons (TL.not (Wt.no rfl rfl rfl hk14354) rfl ?_)
    refine TL.cons (TL.not (Wt.no rfl rfl rfl hk14354) rfl ?_)
    refine TL.cons (TO.val rfl rfl rfl (Val.pickY rfl hk14354 rfl) ?_)
    refine TL.nil ?_
    exact fun a W hF hO => ⟨true, h, hF.sub ⟨rfl, rfl, trivial⟩, hO.selT (Ls := []) [] 0 rfl rfl rfl⟩
   ·
    have hk14355 : decide (256 < (a0.length : Int)) = false := decide_eq_false hg14353
    refine TL.cons (TO.val (Wt.yes rfl rfl rfl hk14355) rfl rfl (Val.move rfl) ?_)
    obtain ⟨y14356, hx14357, h⟩ := bind_no h
    obtain ⟨ad14358, cs14364, hA14359, hi14360, hj14361, hcl14362, hK14363⟩ := Rd.at hr3 hx14357
    obtain ⟨A14365, c14366, rfl, hr14367, hl14368⟩ := k27_openR hK14363
    refine TL.cons (TO.val (Wt.yes rfl rfl rfl hk14355) rfl rfl (Val.indexAddr Tryd.underlying22 fsz27 rfl hA14359 rfl hi14360 hj14361) ?_)
    refine TL.cons (TO.val (Wt.yes rfl rfl rfl hk14355) rfl rfl (Val.fieldAddrE Tryd.underlying27 rfl fsz3 rfl rfl) ?_)
    refine TL.cons (TO.val (Wt.yes rfl rfl rfl hk14355) rfl rfl (Val.loadS agg3 rfl (hcl14362 0 _ rfl)) ?_)
    refine TL.cons (TO.val (Wt.yes rfl rfl rfl hk14355) rfl rfl (Val.cmp rfl rfl run_neq) ?_)
    refine TL.cons (TO.val rfl rfl rfl (Val.pickN rfl hk14355 rfl) ?_)
    refine TL.nil ?_
    exact fun a W hF hO => ⟨(!decide (y14356.f0 = 0)), h, hF.sub ⟨rfl, rfl, trivial⟩, hO.selT (Ls := []) [] 0 rfl rfl rfl⟩
end Go.Proofs.YtmacdhkfgoahcaaDoor.Sy
set_option linter.unusedVariables false
set_option linter.unusedSimpArgs false
namespace Go.Proofs.YtmacdhkfgoahcaaDoor.Sy
open Go Go.RowKit Go.Proofs.YtmacdhkfgoahcaaDoorW.PrintWords Go.Proofs.YtmacdhkfgoahcaaDoor.SyO
theorem rreg_f (a : Int) : swageref14_reg.f a = some (decide (Rg a)) := by
  unfold swageref14_reg.f Rg
  by_cases h : 1 ≤ a <;> simp [h]
theorem rfield_f (a : Int) (b : Bool) : swageref14_field.f a b = some (if b then decide (Rg a) else decide (a = 0)) := by
  unfold swageref14_field.f
  rw [rreg_f]
  cases b
  · simp
  · by_cases h : Rg a <;> simp [h]
theorem known_b (a : Int) : word_Known.f a = some (decide (1 ≤ a ∧ a ≤ 14)) := by
  unfold word_Known.f
  by_cases h : 1 ≤ a <;> simp [h]
theorem rknown_b (a : Int) : swageref01_Known.f a = some (decide (1 ≤ a ∧ a ≤ 14)) := by
  unfold swageref01_Known.f
  by_cases h : 1 ≤ a <;> simp [h]
/-- Arguments that are registers. -/
def Ra (o : S40) : Bool := o.f5.all fun a => decide (Rg a)
theorem cop_l0 {o : S40} (hl : o.f5.length ≤ 1000) : (code_RightOp.l0 o (fun x => some (!(decide (0 ≤ x)))) (o.f5.length + 1) 0).bind (fun | .inl q => some q | .inr _ => some true) = some (Ra o) := by
  have := loopd (xs := o.f5) (F := fun n i => code_RightOp.l0 o (fun x => some (!(decide (0 ≤ x)))) n i) (P := fun ys r => r.bind (fun | .inl q => some q | .inr _ => some true) = some (ys.all fun a => decide (Rg a))) (by omega) (fun n => ?_) (fun n i y r hd hlt hat hm hw ih => ?_) (o.f5.length + 1) (by omega)
  · exact this
  · simp [code_RightOp.l0]
  · show Option.bind (code_RightOp.l0 o (fun x => some (!(decide (0 ≤ x)))) (n + 1) i) _ = _
    rw [code_RightOp.l0, if_pos hlt, hat, Option.bind_some]
    unfold code_RightOp_1.f
    rw [reg_f, Option.bind_some, Option.bind_some]
    by_cases hy : Rg y
    · rw [decide_eq_true hy, if_neg (by simp), hw]
      simp only [List.all_cons, decide_eq_true hy, Bool.true_and]
      exact ih
    · rw [decide_eq_false hy, if_pos (by simp)]
      simp [hy]
theorem rop_l0' {o : S40} (hl : o.f5.length ≤ 1000) : swageref14_RightOp.l0 o (o.f5.length + 1) 0 = some (if Ra o then .inr () else .inl false) := by
  have := loopd (xs := o.f5) (F := fun n i => swageref14_RightOp.l0 o n i) (P := fun ys r => r = some (if (ys.all fun a => decide (Rg a)) then .inr () else .inl false)) (by omega) (fun n => ?_) (fun n i y r hd hlt hat hm hw ih => ?_) (o.f5.length + 1) (by omega)
  · exact this
  · simp [swageref14_RightOp.l0]
  · rw [swageref14_RightOp.l0, if_pos hlt, hat, Option.bind_some, rreg_f, Option.bind_some]
    by_cases hy : Rg y
    · rw [decide_eq_true hy, if_neg (by simp), hw, ih]
      simp [hy]
    · rw [decide_eq_false hy, if_pos (by simp)]
      simp [hy]
/-- What an operation has to be. -/
def okOp (o : S40) (k : Int) : Bool :=
  decide (1 ≤ o.f0 ∧ o.f0 ≤ 9) && (if o.f0 = 5 ∨ o.f0 = 9 then decide (o.f1 = 0) else decide (Rg o.f1)) && (if o.f0 = 2 ∨ o.f0 = 3 ∨ o.f0 = 4 ∨ o.f0 = 5 ∨ o.f0 = 9 then decide (Rg o.f2) else decide (o.f2 = 0)) &&
  (if o.f0 = 2 ∨ o.f0 = 5 then decide (Rg o.f3) else decide (o.f3 = 0)) &&
  (if o.f0 = 1 then true else if o.f0 = 2 then decide (1 ≤ o.f4 ∧ o.f4 ≤ 14) else if o.f0 = 4 ∨ o.f0 = 5 then decide (-2147483648 ≤ o.f4 ∧ o.f4 ≤ 2147483647) else if o.f0 = 6 then decide (0 ≤ o.f4 ∧ o.f4 ≤ 1048576) else if o.f0 = 7 then decide (0 ≤ o.f4 ∧ o.f4 < k) else decide (o.f4 = 0)) &&
  (if o.f0 = 7 then decide (o.f5.length ≤ 8) && Ra o else decide (o.f5.length = 0))
theorem nine {n : Int} (h1 : 1 ≤ n) (h9 : n ≤ 9) : n = 1 ∨ n = 2 ∨ n = 3 ∨ n = 4 ∨ n = 5 ∨ n = 6 ∨ n = 7 ∨ n = 8 ∨ n = 9 := by omega
theorem ra_nil {o : S40} (h : o.f5.length = 0) : Ra o = true := by
  unfold Ra; rw [List.eq_nil_of_length_eq_zero h]; rfl
theorem cop_f {o : S40} {k : Int} (hl : o.f5.length ≤ 20) (hk0 : 0 ≤ k) (hk1 : k ≤ 1000) : code_RightOp.f o k = some (okOp o k) := by
  have hw : IntKind.i64.wrap (k - 1) = k - 1 := w64 (by omega) (by omega)
  have hl0 := cop_l0 (o := o) (by omega)
  unfold code_RightOp.f code_immediate.f
  simp only [jn, shape_f, field_f, within_f, known_b, Option.bind_some, hw]
  clear hw
  unfold okOp
  generalize o.f5.length = L at *
  by_cases hkk : 1 ≤ o.f0 ∧ o.f0 ≤ 9
  · rcases nine hkk.1 hkk.2 with h | h | h | h | h | h | h | h | h <;> simp only [h] <;> simp [hl0]
    all_goals (try split) <;> (try split) <;> (try split) <;> (try split) <;> (try split) <;> simp_all [hl0] <;> first | (intros; omega) | skip
    refine Eq.trans hl0 ?_
    have h1 : o.f4 < k := by omega
    have h2 : L ≤ 8 := by omega
    simp [h1, h2]
  · simp only [decide_eq_false hkk]
    have : ¬ o.f0 = 1 ∧ ¬ o.f0 = 2 ∧ ¬ o.f0 = 3 ∧ ¬ o.f0 = 4 ∧ ¬ o.f0 = 5 ∧ ¬ o.f0 = 6 ∧ ¬ o.f0 = 7 ∧ ¬ o.f0 = 8 ∧ ¬ o.f0 = 9 := by omega
    obtain ⟨a1, a2, a3, a4, a5, a6, a7, a8, a9⟩ := this
    simp [a1, a2, a3, a4, a5, a6, a7, a8, a9]
theorem rop_f' {o : S40} {k : Int} (hl : o.f5.length ≤ 20) : swageref14_RightOp.f o k = some (okOp o k) := by
  have hl0 := rop_l0' (o := o) (by omega)
  have hra := ra_nil (o := o)
  unfold swageref14_RightOp.f swageref14_shape.f
  simp only [jn, rfield_f, rknown_b, Option.bind_some, hl0]
  clear hl0
  unfold okOp
  generalize o.f5.length = L at *
  generalize Ra o = R at *
  by_cases hkk : 1 ≤ o.f0 ∧ o.f0 ≤ 9
  · rcases nine hkk.1 hkk.2 with h | h | h | h | h | h | h | h | h <;> simp only [h] <;> simp
    all_goals (try split) <;> (try split) <;> (try split) <;> (try split) <;> (try split) <;> (try split) <;> (try split) <;> simp_all <;> first | (intros; omega) | skip
    cases R <;> simp_all
  · simp only [decide_eq_false hkk]
    have : ¬ o.f0 = 1 ∧ ¬ o.f0 = 2 ∧ ¬ o.f0 = 3 ∧ ¬ o.f0 = 4 ∧ ¬ o.f0 = 5 ∧ ¬ o.f0 = 6 ∧ ¬ o.f0 = 7 ∧ ¬ o.f0 = 8 ∧ ¬ o.f0 = 9 := by omega
    obtain ⟨a1, a2, a3, a4, a5, a6, a7, a8, a9⟩ := this
    simp [a1, a2, a3, a4, a5, a6, a7, a8, a9]
theorem beq_dec (a b : Int) : (a == b) = decide (a = b) := by by_cases h : a = b <;> simp [h]
/-- What a block's end has to be. -/
def okTerm (t : S35) (n : Int) : Bool :=
  if t.f0 = 1 then decide (0 ≤ t.f2 ∧ t.f2 < n) && decide (t.f1 = 0) && decide (t.f3 = 0)
  else if t.f0 = 2 then decide (0 ≤ t.f2 ∧ t.f2 < n) && decide (0 ≤ t.f3 ∧ t.f3 < n) && decide (Rg t.f1)
  else if t.f0 = 3 then decide (Rg t.f1) && decide (t.f2 = 0) && decide (t.f3 = 0)
  else if t.f0 = 4 then decide (1 ≤ t.f2 ∧ t.f2 ≤ 15) && decide (t.f1 = 0) && decide (t.f3 = 0) else false
theorem cterm_f {t : S35} {n : Int} (h0 : 0 ≤ n) (h1 : n ≤ 5000) : code_rightTerm.f t n = some (okTerm t n) := by
  have hw : IntKind.i64.wrap (n - 1) = n - 1 := w64 (by omega) (by omega)
  have hn : ∀ a : Int, (0 ≤ a ∧ a ≤ n - 1) ↔ (0 ≤ a ∧ a < n) := fun a => by omega
  unfold code_rightTerm.f okTerm
  simp only [within_f, reg_f, Option.bind_some, hw, hn]
  by_cases a1 : t.f0 = 1
  · simp only [a1, if_true]; by_cases q1 : 0 ≤ t.f2 ∧ t.f2 < n <;> simp [q1, beq_dec]
  by_cases a2 : t.f0 = 2
  · simp only [a2]; by_cases q1 : 0 ≤ t.f2 ∧ t.f2 < n <;> by_cases q2 : 0 ≤ t.f3 ∧ t.f3 < n <;> simp [q1, q2]
  by_cases a3 : t.f0 = 3
  · simp only [a3]; by_cases q1 : Rg t.f1 <;> simp [q1, beq_dec]
  by_cases a4 : t.f0 = 4
  · simp only [a4]; by_cases q1 : 1 ≤ t.f2 ∧ t.f2 ≤ 15 <;> simp [q1, beq_dec]
  simp [a1, a2, a3, a4]
theorem rterm_f' {t : S35} {n : Int} : swageref14_rightTerm.f t n = some (okTerm t n) := by
  unfold swageref14_rightTerm.f okTerm
  simp only [jn, rreg_f, Option.bind_some]
  by_cases a1 : t.f0 = 1
  · simp only [a1, if_true]; by_cases q1 : 0 ≤ t.f2 <;> by_cases q2 : t.f2 < n <;> by_cases q3 : t.f1 = 0 <;> by_cases q4 : 0 ≤ t.f3 <;> simp [q1, q2, q3, q4]
  by_cases a2 : t.f0 = 2
  · simp only [a2]; by_cases q1 : 0 ≤ t.f2 <;> by_cases q2 : t.f2 < n <;> by_cases q3 : 0 ≤ t.f3 <;> by_cases q4 : t.f3 < n <;> simp [q1, q2, q3, q4]
  by_cases a3 : t.f0 = 3
  · simp only [a3]; by_cases q1 : Rg t.f1 <;> by_cases q2 : t.f2 = 0 <;> by_cases q4 : 0 ≤ t.f3 <;> by_cases q5 : 0 ≤ t.f2 <;> simp [q1, q2, q4, q5]
  by_cases a4 : t.f0 = 4
  · simp only [a4]; by_cases q1 : 1 ≤ t.f2 <;> by_cases q2 : t.f2 ≤ 15 <;> by_cases q3 : t.f1 = 0 <;> by_cases q4 : 0 ≤ t.f3 <;> by_cases q5 : 0 ≤ t.f2 <;> simp [q1, q2, q3, q4, q5]
  simp [a1, a2, a3, a4]
/-- What a function has to be, beside so many. -/
def okFn (t : S27) (k : Int) : Bool :=
  decide (1 ≤ t.f1.length ∧ t.f1.length ≤ 4096) && decide (0 ≤ t.f0 ∧ t.f0 ≤ 8) && (t.f1.all fun y => okTerm y.f1 t.f1.length) && (t.f1.all fun y => y.f0.all fun o => okOp o k)
theorem cright_l2 {t : S27} (hl : t.f1.length ≤ 4096) {j : Int → Option Bool} : (∀ x : Nat, j x = some false) → ((t.f1.all fun y => okTerm y.f1 t.f1.length) = true ∧ code_Right.l2 t j (t.f1.length + 1) 0 = some (.inr ())) ∨ ((t.f1.all fun y => okTerm y.f1 t.f1.length) = false ∧ code_Right.l2 t j (t.f1.length + 1) 0 = some (.inl false)) := fun hj => by
  refine loopd (xs := t.f1) (F := fun n i => code_Right.l2 t j n i) (P := fun ys r => ((ys.all fun y => okTerm y.f1 t.f1.length) = true ∧ r = some (.inr ())) ∨ ((ys.all fun y => okTerm y.f1 t.f1.length) = false ∧ r = some (.inl false))) (by omega) (fun n => ?_) (fun n i y r hd hlt hat hm hw ih => ?_) (t.f1.length + 1) (by omega)
  · left; simp [code_Right.l2]
  · rw [code_Right.l2, if_pos hlt, hat, Option.bind_some, cterm_f (by omega) (by omega), Option.bind_some]
    cases hy : okTerm y.f1 t.f1.length with
    | true => rw [if_neg (by simp), hw]; simpa [hy] using ih
    | false => rw [if_pos (by simp), hj i]; right; simp [hy]
theorem cright_l1 {y : S37} {k : Int} (hk0 : 0 ≤ k) (hk1 : k ≤ 1000) (hl : y.f0.length ≤ 250) (ho : ∀ o ∈ y.f0, o.f5.length ≤ 20) {z : Nat} (hz : z ≤ 10000) : ((y.f0.all fun o => okOp o k) = true ∧ code_Right.l1 k y (y.f0.length + 1) 0 (z : Int) = some (.inr ((z + y.f0.length : Nat) : Int))) ∨ ((y.f0.all fun o => okOp o k) = false ∧ code_Right.l1 k y (y.f0.length + 1) 0 (z : Int) = some (.inl (.inl false))) := by
  have := loopd (xs := y.f0) (F := fun n i w => code_Right.l1 k y n i w) (P := fun os f => ∀ w : Nat, w + os.length ≤ 11000 → ((os.all fun o => okOp o k) = true ∧ f (w : Int) = some (.inr ((w + os.length : Nat) : Int))) ∨ ((os.all fun o => okOp o k) = false ∧ f (w : Int) = some (.inl (.inl false)))) (by omega) (fun n w hw => ?_) (fun n i o r hd hlt hat hm hw ih w hwl => ?_) (y.f0.length + 1) (by omega)
  · exact this z (by omega)
  · left; simp [code_Right.l1]
  · simp only [List.length_cons] at hwl
    show (_ ∧ code_Right.l1 k y (n + 1) i w = _) ∨ (_ ∧ code_Right.l1 k y (n + 1) i w = _)
    rw [code_Right.l1, if_pos hlt, hat, Option.bind_some]
    simp only [jn, wsucc (show w ≤ 140737488355328 by omega)]
    rw [if_neg (by omega), cop_f (ho o hm) hk0 hk1, Option.bind_some]
    cases hy : okOp o k with
    | true =>
      rw [if_neg (by simp), hw]
      have := ih (w + 1) (by omega)
      rw [show w + 1 + r.length = w + (o :: r).length by simp; omega] at this
      simpa [hy] using this
    | false => rw [if_pos (by simp)]; right; simp [hy]
theorem cright_l0 {t : S27} {k : Int} (hk0 : 0 ≤ k) (hk1 : k ≤ 1000) (hf : Fewp t) : ((t.f1.all fun y => y.f0.all fun o => okOp o k) = true ∧ ∃ x, code_Right.l0 t k (t.f1.length + 1) 0 0 = some (.inr x)) ∨ ((t.f1.all fun y => y.f0.all fun o => okOp o k) = false ∧ code_Right.l0 t k (t.f1.length + 1) 0 0 = some (.inl false)) := by
  obtain ⟨f1, f2, f3⟩ := hf
  have := loopd (xs := t.f1) (F := fun n i w => code_Right.l0 t k n i w) (P := fun os f => ∀ w : Nat, w + 250 * os.length ≤ 10000 → ((os.all fun y => y.f0.all fun o => okOp o k) = true ∧ ∃ x, f (w : Int) = some (.inr x)) ∨ ((os.all fun y => y.f0.all fun o => okOp o k) = false ∧ f (w : Int) = some (.inl false))) (by omega) (fun n w hw => ?_) (fun n i y r hd hlt hat hm hw ih w hwl => ?_) (t.f1.length + 1) (by omega)
  · exact this 0 (by omega)
  · left; simp [code_Right.l0]
  · simp only [List.length_cons] at hwl
    show (_ ∧ ∃ x, code_Right.l0 t k (n + 1) i w = _) ∨ (_ ∧ code_Right.l0 t k (n + 1) i w = _)
    rw [code_Right.l0, if_pos hlt, hat, Option.bind_some]
    rcases cright_l1 hk0 hk1 (f3 y hm).1 (f3 y hm).2 (z := w) (by omega) with ⟨h1, h2⟩ | ⟨h1, h2⟩
    · rw [h2, Option.bind_some]
      simp only [hw]
      have := ih (w + y.f0.length) (by have := (f3 y hm).1; omega)
      simpa [h1] using this
    · rw [h2, Option.bind_some]; right; simp [h1]
theorem cright_f {t : S27} {k : Int} (hk0 : 0 ≤ k) (hk1 : k ≤ 1000) (hf : Fewp t) : code_Right.f t k = some (okFn t k) := by
  have hf' := hf
  obtain ⟨f1, f2, f3⟩ := hf'
  unfold code_Right.f okFn
  simp only [jn, within_f, Option.bind_some]
  have e1 : ((1 : Int) ≤ (t.f1.length : Int) ∧ (t.f1.length : Int) ≤ 4096) ↔ (1 ≤ t.f1.length ∧ t.f1.length ≤ 4096) := by omega
  simp only [e1]
  by_cases h1 : 1 ≤ t.f1.length ∧ t.f1.length ≤ 4096
  · by_cases h2 : 0 ≤ t.f0 ∧ t.f0 ≤ 8
    · simp only [decide_eq_true h1, decide_eq_true h2, Bool.not_true, Bool.false_eq_true, if_false, Bool.true_and]
      have key : ∀ (j : Int → Option Bool) (hj : ∀ x : Nat, j x = some false) (X : Bool) (hX : j (-1) = some X), Option.bind (code_Right.l2 t j (t.f1.length + 1) 0) (fun r => match r with | .inl q => some q | .inr _ => j (-1)) = some ((t.f1.all fun y => okTerm y.f1 t.f1.length) && X) := by
        intro j hj X hX
        rcases cright_l2 (t := t) (by omega) hj with ⟨h3, h4⟩ | ⟨h3, h4⟩
        · rw [h4, h3]; simp [hX]
        · rw [h4, h3]; simp
      refine key _ (fun x => by simp) (t.f1.all fun y => y.f0.all fun o => okOp o k) ?_
      rw [if_neg (by omega)]
      rcases cright_l0 hk0 hk1 hf with ⟨h5, x, h6⟩ | ⟨h5, h6⟩ <;> rw [h6, h5] <;> rfl
    · simp [h1, h2]
  · simp [h1]
theorem rright_l1 {t : S27} {k : Int} {j : Int} {y : S37} (hy : at? t.f1 j = some y) (hl : y.f0.length ≤ 250) (ho : ∀ o ∈ y.f0, o.f5.length ≤ 20) : swageref14_Right.l1 t k j (y.f0.length + 1) 0 = some (if (y.f0.all fun o => okOp o k) then .inr () else .inl (.inl false)) := by
  refine loopd (xs := y.f0) (F := fun n i => swageref14_Right.l1 t k j n i) (P := fun os r => r = some (if (os.all fun o => okOp o k) then .inr () else .inl (.inl false))) (by omega) (fun n => ?_) (fun n i o r hd hlt hat hm hw ih => ?_) (y.f0.length + 1) (by omega)
  · simp [swageref14_Right.l1, hy]
  · rw [swageref14_Right.l1, hy, Option.bind_some, if_pos hlt, hat, Option.bind_some, rop_f' (ho o hm), Option.bind_some]
    cases hy2 : okOp o k with
    | true => rw [if_neg (by simp), hw, ih]; simp [hy2]
    | false => rw [if_pos (by simp)]; simp [hy2]
theorem rright_f {t : S27} {k : Int} (hf : Fewp t) : swageref14_Right.f t k = some (okFn t k) := by
  obtain ⟨f1, f2, f3⟩ := hf
  have hlp := loopd (xs := t.f1) (F := fun n i w => swageref14_Right.l0 t k n w i) (P := fun os f => ∀ w : Nat, w + 250 * os.length ≤ 10000 → f (w : Int) = some (if ((os.all fun y => okTerm y.f1 t.f1.length) && (os.all fun y => y.f0.all fun o => okOp o k)) then .inr () else .inl false)) (by omega) (fun n w hw => by simp [swageref14_Right.l0]) (fun n i y r hd hlt hat hm hw ih w hwl => by
    simp only [List.length_cons] at hwl
    show swageref14_Right.l0 t k (n + 1) w i = _
    have hb := (f3 y hm).1
    have hadd : IntKind.i64.wrap ((w : Int) + (y.f0.length : Int)) = ((w + y.f0.length : Nat) : Int) := by rw [w64 (by omega) (by omega)]; omega
    rw [swageref14_Right.l0, if_pos hlt]
    simp only [jn, hat, Option.bind_some, Option.elim_some, hadd, rterm_f', hw]
    rw [if_neg (by omega)]
    cases h1 : okTerm y.f1 t.f1.length with
    | true =>
      rw [if_neg (by simp), rright_l1 hat hb (f3 y hm).2]
      cases h2 : (y.f0.all fun o => okOp o k) with
      | true =>
        simp only [if_true, Option.bind_some]
        have h3 : swageref14_Right.l0 t k n ((w + y.f0.length : Nat) : Int) ((i + 1 : Nat) : Int) = _ := ih (w + y.f0.length) (by omega)
        rw [h3]; simp only [List.all_cons, h1, h2, Bool.true_and]
      | false => simp [h1, h2]
    | false => rw [if_pos (by simp)]; simp [h1]) (t.f1.length + 1) (by omega) 0 (by omega)
  have hlp' : swageref14_Right.l0 t k (t.f1.length + 1) 0 0 = _ := hlp
  unfold swageref14_Right.f okFn
  simp only [jn, hlp']
  by_cases h1 : 1 ≤ t.f1.length ∧ t.f1.length ≤ 4096
  · rw [if_neg (by omega), if_neg (by omega)]
    by_cases h2 : 0 ≤ t.f0
    · rw [if_neg (by omega)]
      by_cases h3 : t.f0 ≤ 8
      · simp only [decide_eq_false (show ¬ 8 < t.f0 by omega), decide_eq_true h1, decide_eq_true (And.intro h2 h3), Bool.false_eq_true, if_false, Bool.true_and]
        generalize ((t.f1.all fun y => okTerm y.f1 ↑t.f1.length) && (t.f1.all fun y => y.f0.all fun o => okOp o k)) = b
        cases b <;> rfl
      · simp [h1, h2, h3]
    · rw [if_pos (by omega)]; simp [h2]
  · by_cases h2 : t.f1.length < 1
    · rw [if_pos (by omega)]; simp [h1]
    · rw [if_neg (by omega), if_pos (by omega)]; simp [h1]
/-- What a row of functions has to be. -/
def okCall (l : List S27) (o : S40) : Bool := if o.f0 = 7 then (match at? l o.f4 with | some g => decide ((o.f5.length : Int) = g.f0) | none => false) else true
theorem call_at {l : List S27} {o : S40} (h : okOp o l.length = true) (h7 : o.f0 = 7) : ∃ g, at? l o.f4 = some g := by
  unfold okOp at h
  simp only [h7] at h
  simp at h
  obtain ⟨⟨_, h1⟩, _⟩ := h
  have h0 : o.f4.toNat < l.length := by omega
  exact ⟨l[o.f4.toNat], by unfold at?; rw [if_pos (by omega), List.getElem?_eq_getElem h0]⟩
theorem cprog_l2 {l : List S27} {y : S37} (hl : y.f0.length ≤ 250) (ho : ∀ o ∈ y.f0, okOp o l.length = true) : code_Program.l2 l y (y.f0.length + 1) 0 = some (if (y.f0.all fun o => okCall l o) then .inr () else .inl (.inl (.inl false))) := by
  refine loopd (xs := y.f0) (F := fun n i => code_Program.l2 l y n i) (P := fun os r => r = some (if (os.all fun o => okCall l o) then .inr () else .inl (.inl (.inl false)))) (by omega) (fun n => by simp [code_Program.l2]) (fun n i o r hd hlt hat hm hw ih => ?_) (y.f0.length + 1) (by omega)
  rw [code_Program.l2, if_pos hlt]
  simp only [hat, Option.bind_some, jn, hw]
  by_cases h7 : o.f0 = 7
  · obtain ⟨g, hg⟩ := call_at (ho o hm) h7
    rw [if_pos h7, hg, Option.bind_some, ih]
    by_cases hc : (o.f5.length : Int) = g.f0 <;> simp [okCall, h7, hg, hc]
  · rw [if_neg h7, if_neg (by simp), ih]
    simp [okCall, h7]
theorem cprog_l1 {l : List S27} {t : S27} (hf : Fewp t) (hr : okFn t l.length = true) : code_Program.l1 l t (t.f1.length + 1) 0 = some (if (t.f1.all fun y => y.f0.all fun o => okCall l o) then .inr () else .inl (.inl false)) := by
  obtain ⟨f1, f2, f3⟩ := hf
  unfold okFn at hr
  obtain ⟨_, hr⟩ := (Bool.and_eq_true _ _).mp hr
  have hr' : ∀ y ∈ t.f1, ∀ o ∈ y.f0, okOp o l.length = true := fun y hy o ho => List.all_eq_true.1 (List.all_eq_true.1 hr y hy) o ho
  refine loopd (xs := t.f1) (F := fun n i => code_Program.l1 l t n i) (P := fun os r => r = some (if (os.all fun y => y.f0.all fun o => okCall l o) then .inr () else .inl (.inl false))) (by omega) (fun n => by simp [code_Program.l1]) (fun n i y r hd hlt hat hm hw ih => ?_) (t.f1.length + 1) (by omega)
  rw [code_Program.l1, if_pos hlt]
  simp only [hat, Option.bind_some, cprog_l2 (f3 y hm).1 (hr' y hm), hw]
  cases hc : (y.f0.all fun o => okCall l o) with
  | true => simp only [if_true, Option.bind_some, List.all_cons, hc, Bool.true_and]; exact ih
  | false => simp only [Bool.false_eq_true, if_false, Option.bind_some, List.all_cons, hc, Bool.false_and]
theorem rprog_l2 {l : List S27} {t : S27} {y : S37} {j b : Int} (ht : at? l j = some t) (hy : at? t.f1 b = some y) (hl : y.f0.length ≤ 250) (ho : ∀ o ∈ y.f0, okOp o l.length = true) : swageref14_Program.l2 l j b (y.f0.length + 1) 0 = some (if (y.f0.all fun o => okCall l o) then .inr () else .inl (.inl (.inl false))) := by
  refine loopd (xs := y.f0) (F := fun n i => swageref14_Program.l2 l j b n i) (P := fun os r => r = some (if (os.all fun o => okCall l o) then .inr () else .inl (.inl (.inl false)))) (by omega) (fun n => by simp [swageref14_Program.l2, ht, hy]) (fun n i o r hd hlt hat hm hw ih => ?_) (y.f0.length + 1) (by omega)
  rw [swageref14_Program.l2]
  simp only [ht, hy, Option.bind_some, if_pos hlt, hat, jn, hw]
  by_cases h7 : o.f0 = 7
  · obtain ⟨g, hg⟩ := call_at (ho o hm) h7
    rw [if_pos h7, hg, Option.bind_some, ih]
    by_cases hc : (o.f5.length : Int) = g.f0 <;> simp [okCall, h7, hg, hc]
  · rw [if_neg h7, if_neg (by simp), ih]
    simp [okCall, h7]
theorem rprog_l1 {l : List S27} {t : S27} {j : Int} (ht : at? l j = some t) (hf : Fewp t) (hr : okFn t l.length = true) : swageref14_Program.l1 l j (t.f1.length + 1) 0 = some (if (t.f1.all fun y => y.f0.all fun o => okCall l o) then .inr () else .inl (.inl false)) := by
  obtain ⟨f1, f2, f3⟩ := hf
  unfold okFn at hr
  obtain ⟨_, hr⟩ := (Bool.and_eq_true _ _).mp hr
  have hr' : ∀ y ∈ t.f1, ∀ o ∈ y.f0, okOp o l.length = true := fun y hy o ho => List.all_eq_true.1 (List.all_eq_true.1 hr y hy) o ho
  refine loopd (xs := t.f1) (F := fun n i => swageref14_Program.l1 l j n i) (P := fun os r => r = some (if (os.all fun y => y.f0.all fun o => okCall l o) then .inr () else .inl (.inl false))) (by omega) (fun n => by simp [swageref14_Program.l1, ht]) (fun n i y r hd hlt hat hm hw ih => ?_) (t.f1.length + 1) (by omega)
  rw [swageref14_Program.l1]
  simp only [ht, Option.bind_some, if_pos hlt, hat, Option.elim_some, rprog_l2 ht hat (f3 y hm).1 (hr' y hm), hw]
  cases hc : (y.f0.all fun o => okCall l o) with
  | true => simp only [if_true, Option.bind_some, List.all_cons, hc, Bool.true_and]; exact ih
  | false => simp only [Bool.false_eq_true, if_false, Option.bind_some, List.all_cons, hc, Bool.false_and]
theorem prog_f {l : List S27} (hl : l.length ≤ 10) (hf : ∀ t ∈ l, Fewp t) : ∃ b, code_Program.f l = some b ∧ swageref14_Program.f l = some b := by
  have h1 : code_Program.l0 l (l.length + 1) 0 = some (if (l.all fun t => okFn t l.length && (t.f1.all fun y => y.f0.all fun o => okCall l o)) then .inr () else .inl false) := by
    refine loopd (xs := l) (F := fun n i => code_Program.l0 l n i) (P := fun ts r => r = some (if (ts.all fun t => okFn t l.length && (t.f1.all fun y => y.f0.all fun o => okCall l o)) then .inr () else .inl false)) (by omega) (fun n => by simp [code_Program.l0]) (fun n i t r hd hlt hat hm hw ih => ?_) (l.length + 1) (by omega)
    rw [code_Program.l0, if_pos hlt]
    simp only [hat, Option.bind_some, cright_f (k := (l.length : Int)) (by omega) (by omega) (hf t hm), hw]
    cases hr : okFn t l.length with
    | false => rw [if_pos (by simp)]; simp [hr]
    | true =>
      rw [if_neg (by simp), cprog_l1 (hf t hm) hr]
      cases hc : (t.f1.all fun y => y.f0.all fun o => okCall l o) with
      | true => simp only [if_true, Option.bind_some, List.all_cons, hr, hc, Bool.true_and]; exact ih
      | false => simp only [Bool.false_eq_true, if_false, Option.bind_some, List.all_cons, hr, hc, Bool.true_and, Bool.false_and]
  have h2 : swageref14_Program.l0 l (l.length + 1) 0 = some (if (l.all fun t => okFn t l.length && (t.f1.all fun y => y.f0.all fun o => okCall l o)) then .inr () else .inl false) := by
    refine loopd (xs := l) (F := fun n i => swageref14_Program.l0 l n i) (P := fun ts r => r = some (if (ts.all fun t => okFn t l.length && (t.f1.all fun y => y.f0.all fun o => okCall l o)) then .inr () else .inl false)) (by omega) (fun n => by simp [swageref14_Program.l0]) (fun n i t r hd hlt hat hm hw ih => ?_) (l.length + 1) (by omega)
    rw [swageref14_Program.l0, if_pos hlt]
    simp only [hat, Option.bind_some, rright_f (k := (l.length : Int)) (hf t hm), Option.elim_some, hw]
    cases hr : okFn t l.length with
    | false => rw [if_pos (by simp)]; simp [hr]
    | true =>
      rw [if_neg (by simp), rprog_l1 hat (hf t hm) hr]
      cases hc : (t.f1.all fun y => y.f0.all fun o => okCall l o) with
      | true => simp only [if_true, Option.bind_some, List.all_cons, hr, hc, Bool.true_and]; exact ih
      | false => simp only [Bool.false_eq_true, if_false, Option.bind_some, List.all_cons, hr, hc, Bool.true_and, Bool.false_and]
  unfold code_Program.f swageref14_Program.f
  simp only [jn, within_f, Option.bind_some, h1, h2]
  rcases Nat.eq_zero_or_pos l.length with h0 | h0
  · have a1 : (l.length : Int) < 1 := by omega
    have a3 : ¬ ((1 : Int) ≤ (l.length : Int) ∧ (l.length : Int) ≤ 256) := by omega
    simp only [a1, decide_eq_false a3, if_true, Bool.not_false]; exact ⟨_, rfl, rfl⟩
  · have h3 : ∃ g, at? l 0 = some g := ⟨l[0], by unfold at?; simp [h0]⟩
    obtain ⟨g, hg⟩ := h3
    have a1 : ¬ (l.length : Int) < 1 := by omega
    have a2 : ¬ 256 < (l.length : Int) := by omega
    have a3 : ((1 : Int) ≤ (l.length : Int) ∧ (l.length : Int) ≤ 256) := by omega
    simp only [a1, a2, decide_eq_true a3, if_false, Bool.not_true, Bool.false_eq_true, hg, Option.bind_some]
    generalize (l.all fun t => okFn t l.length && (t.f1.all fun y => y.f0.all fun o => okCall l o)) = b
    by_cases hz : g.f0 = 0
    · simp only [decide_eq_true hz]; cases b <;> exact ⟨_, rfl, rfl⟩
    · simp only [decide_eq_false hz]; exact ⟨_, rfl, rfl⟩
end Go.Proofs.YtmacdhkfgoahcaaDoor.Sy
set_option linter.unusedVariables false
set_option linter.unusedSimpArgs false
set_option maxRecDepth 100000
set_option maxHeartbeats 4000000
namespace Go.Proofs.YtmacdhkfgoahcaaDoor.Sy
open Go Go.RowKit Go.Proofs.YtmacdhkfgoahcaaDoorW.PrintWords 
def code_Sets.f (a0 : S40) : Option Int := (code_shapeOf.f a0.f0).bind fun (y6 : (S70 × Bool)) => (if (!y6.1.f0) = true then some 0 else some a0.f1)
def code_Sets.post (G : Gd)  (r : Int) (v : Value) (G' : Gd) (Lr : List Ch) : Prop := G = G' ∧ v = .int .i64 r ∧ Lr = []
theorem code_Sets.calls {G : Gd} {r : Int} {a0 : S40} {A1 : Option Addr} {c2 : Nat} (hr3 : Rd G (Kd.int .i64) A1 a0.f5) (hl4 : a0.f5.length ≤ c2) (h : code_Sets.f a0 = some r) : Fn Tryd.prog 18 G [] [.agg #[.int .i64 a0.f0, .int .i64 a0.f1, .int .i64 a0.f2, .int .i64 a0.f3, .int .i64 a0.f4, .slice A1 a0.f5.length c2]] (code_Sets.post G  r) := by
 refine Fn.intro (e := [(0, .agg #[.int .i64 a0.f0, .int .i64 a0.f1, .int .i64 a0.f2, .int .i64 a0.f3, .int .i64 a0.f4, .slice A1 a0.f5.length c2])]) 16 Tryd.func18 rfl Tryd.ntmps18 rfl rfl (Nat.le_of_ble_eq_true rfl) (fun L => ?_)
 unfold code_Sets.f at h
 refine TC.seq ?_
 refine TC.region ?_
 refine TL.cons (TL.box (cs := [.int .i64 a0.f0, .int .i64 a0.f1, .int .i64 a0.f2, .int .i64 a0.f3, .int .i64 a0.f4, .slice A1 a0.f5.length c2]) rfl rfl rfl rfl (fun b5 => ?_))
 refine TL.cons (TO.val rfl rfl rfl (Val.assign rfl) ?_)
 refine TL.nil ?_
 refine TQ.then_ ?_
 refine TC.seq ?_
 refine TC.seq ?_
 refine TC.region ?_
 refine TL.cons (TO.val rfl rfl rfl (Val.fieldAddrB Tryd.underlying40 rfl fsz3 rfl rfl rfl) ?_)
 refine TL.cons (TO.val rfl rfl rfl (Val.loadB 0 agg3 rfl rfl rfl) ?_)
 obtain ⟨y6, hy7, h⟩ := bind_no h
 refine TL.cons (TL.callV (Lin := []) (args := [.int .i64 a0.f0]) rfl rfl rfl hbd50 rfl rfl (code_shapeOf.calls (a0 := a0.f0) hy7) rfl ?_)
 rintro _ _ _ _ ⟨rfl, rfl, rfl⟩
 refine TL.cons (TO.val rfl rfl rfl (Val.move rfl) ?_)
 refine TL.cons (TO.val rfl rfl rfl (Val.extract rfl rfl) ?_)
 refine TL.cons (TO.val rfl rfl rfl (Val.extract rfl rfl) ?_)
 refine TL.cons (TL.alloc (cs := [.bool false, .bool false, .bool false, .bool false]) rfl rfl zr70 rfl (fun b8 => ?_))
 refine TL.cons (TL.store 0 (ds := [.bool y6.1.f0, .bool y6.1.f1, .bool y6.1.f2, .bool y6.1.f3]) (cs' := [.bool y6.1.f0, .bool y6.1.f1, .bool y6.1.f2, .bool y6.1.f3]) (L' := (Blk b8 [.bool y6.1.f0, .bool y6.1.f1, .bool y6.1.f2, .bool y6.1.f3] 70 :: Blk b5 [.int .i64 a0.f0, .int .i64 a0.f1, .int .i64 a0.f2, .int .i64 a0.f3, .int .i64 a0.f4, .slice A1 a0.f5.length c2] 40 :: L)) rfl fsz70 rfl rfl rfl rfl rfl (Nat.le_of_ble_eq_true rfl) rfl rfl ?_)
 refine TL.cons (TO.val rfl rfl rfl (Val.assign rfl) ?_)
 refine TL.nil ?_
 refine TQ.then_ ?_
 refine TC.seq ?_
 refine TC.region ?_
 refine TL.cons (TO.val rfl rfl rfl (Val.fieldAddrB Tryd.underlying70 rfl fsz4 rfl rfl rfl) ?_)
 refine TL.cons (TO.val rfl rfl rfl (Val.loadB 0 agg4 rfl rfl rfl) ?_)
 refine TL.cons (TO.val rfl rfl rfl (Val.not_ rfl) ?_)
 refine TL.nil ?_
 refine TQ.then_ ?_
 refine TC.cond_b rfl h (fun hc10 h => ?_) (fun hc10 h => ?_)
 ·
  refine TC.seq ?_
  refine TC.region ?_
  refine TL.cons (TO.val rfl rfl rfl (Val.assign rfl) ?_)
  refine TL.nil ?_
  refine TQ.then_ ?_
  refine TC.ret ?_
  refine TQ.thenR ?_
  obtain rfl := Option.some.inj h
  exact TQ.fin (.inl rfl) rfl Tryd.results18 (.tmp rfl .nil) rfl (FRel.mk (Ls := []) [] 2 (Gd.le.refl _) rfl rfl rfl ⟨rfl, rfl, rfl⟩)
 ·
  refine TC.skip ?_
  refine TQ.then_ ?_
  refine TC.seq ?_
  refine TC.region ?_
  refine TL.cons (TO.val rfl rfl rfl (Val.fieldAddrB Tryd.underlying40 rfl fsz3 rfl rfl rfl) ?_)
  refine TL.cons (TO.val rfl rfl rfl (Val.loadB 1 agg3 rfl rfl rfl) ?_)
  refine TL.cons (TO.val rfl rfl rfl (Val.assign rfl) ?_)
  refine TL.nil ?_
  refine TQ.then_ ?_
  refine TC.ret ?_
  obtain rfl := Option.some.inj h
  exact TQ.fin (.inl rfl) rfl Tryd.results18 (.tmp rfl .nil) rfl (FRel.mk (Ls := []) [] 2 (Gd.le.refl _) rfl rfl rfl ⟨rfl, rfl, rfl⟩)
end Go.Proofs.YtmacdhkfgoahcaaDoor.Sy
set_option linter.unusedVariables false
set_option linter.unusedSimpArgs false
set_option maxRecDepth 100000
set_option maxHeartbeats 4000000
namespace Go.Proofs.YtmacdhkfgoahcaaDoor.Sy
open Go Go.RowKit Go.Proofs.YtmacdhkfgoahcaaDoorW.PrintWords 
def code_Uses.f (a0 : S40) : Option (List Int) := (code_shapeOf.f a0.f0).bind fun (y6 : (S70 × Bool)) => jn (γ := (List Int)) (fun (x12 : Bool) => jn (γ := (List Int)) (fun (l20 : (List Int)) => jn (γ := (List Int)) (fun (x28 : Bool) => jn (γ := (List Int)) (fun (l35 : (List Int)) => jn (γ := (List Int)) (fun (l44 : (List Int)) => some l44) (fun (j48 : ((List Int) → Option (List Int))) => (if a0.f0 = 7 then (if l35.length + a0.f5.length ≤ 17592186044416 then j48 (l35 ++ a0.f5) else none) else j48 l35))) (fun (j39 : ((List Int) → Option (List Int))) => (if x28 = true then (if l20.length < 17592186044416 then j39 (l20 ++ [a0.f3]) else none) else j39 l20))) (fun (j29 : (Bool → Option (List Int))) => (if y6.2 = true then j29 y6.1.f2 else j29 false))) (fun (j24 : ((List Int) → Option (List Int))) => (if x12 = true then (if ([] : List Int).length < 17592186044416 then j24 (([] : List Int) ++ [a0.f2]) else none) else j24 []))) (fun (j13 : (Bool → Option (List Int))) => (if y6.2 = true then j13 y6.1.f1 else j13 false))
def code_Uses.post (G : Gd)  (r : (List Int)) (v : Value) (G' : Gd) (Lr : List Ch) : Prop := G = G' ∧ ∃ (A_1 : Option Addr) (c_1 : Nat), v = .slice A_1 r.length c_1 ∧ Lr = [Row (Kd.int .i64) 3 (.slice A_1 r.length c_1) r]
theorem code_Uses.calls {G : Gd} {r : (List Int)} {a0 : S40} {A1 : Option Addr} {c2 : Nat} (hr3 : Rd G (Kd.int .i64) A1 a0.f5) (hl4 : a0.f5.length ≤ c2) (h : code_Uses.f a0 = some r) : Fn Tryd.prog 19 G [] [.agg #[.int .i64 a0.f0, .int .i64 a0.f1, .int .i64 a0.f2, .int .i64 a0.f3, .int .i64 a0.f4, .slice A1 a0.f5.length c2]] (code_Uses.post G  r) := by
 refine Fn.intro (e := [(0, .agg #[.int .i64 a0.f0, .int .i64 a0.f1, .int .i64 a0.f2, .int .i64 a0.f3, .int .i64 a0.f4, .slice A1 a0.f5.length c2])]) 40 Tryd.func19 rfl Tryd.ntmps19 rfl rfl (Nat.le_of_ble_eq_true rfl) (fun L => ?_)
 unfold code_Uses.f at h
 refine TC.seq ?_
 refine TC.region ?_
 refine TL.cons (TL.box (cs := [.int .i64 a0.f0, .int .i64 a0.f1, .int .i64 a0.f2, .int .i64 a0.f3, .int .i64 a0.f4, .slice A1 a0.f5.length c2]) rfl rfl rfl rfl (fun b5 => ?_))
 refine TL.cons (TO.val rfl rfl rfl (Val.assign rfl) ?_)
 refine TL.nil ?_
 refine TQ.then_ ?_
 refine TC.seq ?_
 refine TC.region ?_
 refine TL.cons (TO.val rfl rfl rfl (Val.fieldAddrB Tryd.underlying40 rfl fsz3 rfl rfl rfl) ?_)
 refine TL.cons (TO.val rfl rfl rfl (Val.loadB 0 agg3 rfl rfl rfl) ?_)
 obtain ⟨y6, hy7, h⟩ := bind_no h
 refine TL.cons (TL.callV (Lin := []) (args := [.int .i64 a0.f0]) rfl rfl rfl hbd50 rfl rfl (code_shapeOf.calls (a0 := a0.f0) hy7) rfl ?_)
 rintro _ _ _ _ ⟨rfl, rfl, rfl⟩
 refine TL.cons (TO.val rfl rfl rfl (Val.move rfl) ?_)
 refine TL.cons (TO.val rfl rfl rfl (Val.extract rfl rfl) ?_)
 refine TL.cons (TO.val rfl rfl rfl (Val.extract rfl rfl) ?_)
 refine TL.cons (TL.alloc (cs := [.bool false, .bool false, .bool false, .bool false]) rfl rfl zr70 rfl (fun b8 => ?_))
 refine TL.cons (TL.store 0 (ds := [.bool y6.1.f0, .bool y6.1.f1, .bool y6.1.f2, .bool y6.1.f3]) (cs' := [.bool y6.1.f0, .bool y6.1.f1, .bool y6.1.f2, .bool y6.1.f3]) (L' := (Blk b8 [.bool y6.1.f0, .bool y6.1.f1, .bool y6.1.f2, .bool y6.1.f3] 70 :: Blk b5 [.int .i64 a0.f0, .int .i64 a0.f1, .int .i64 a0.f2, .int .i64 a0.f3, .int .i64 a0.f4, .slice A1 a0.f5.length c2] 40 :: L)) rfl fsz70 rfl rfl rfl rfl rfl (Nat.le_of_ble_eq_true rfl) rfl rfl ?_)
 refine TL.cons (TO.val rfl rfl rfl (Val.assign rfl) ?_)
 refine TL.nil ?_
 refine TQ.then_ ?_
 refine TC.seq ?_
 refine TC.region ?_
 refine TL.cons (TO.val rfl rfl rfl (Val.assign rfl) ?_)
 refine TL.nil ?_
 refine TQ.then_ ?_
 refine TC.seq ?_
 refine TC.seq ?_
 obtain ⟨j13, hj13, h⟩ := jn_no h
 refine TC.tail (fun a W => ∃ (x12 : Bool), j13 x12 = some r ∧ Fr 40 a [(1, .pointer (some ⟨b5, 0, none⟩)), (3, .pointer (some ⟨b8, 0, none⟩)), (4, .bool y6.2), (5, .slice none 0 0), (16, .bool x12)] ∧ Own G (Blk b5 [.int .i64 a0.f0, .int .i64 a0.f1, .int .i64 a0.f2, .int .i64 a0.f3, .int .i64 a0.f4, .slice A1 a0.f5.length c2] 40 :: Blk b8 [.bool y6.1.f0, .bool y6.1.f1, .bool y6.1.f2, .bool y6.1.f3] 70 :: L) W) ?_ ?_
 ·
  rintro a W ⟨x12, h, hF, hO⟩
  rw [hj13] at h
  refine TQ.use ?_ hF hO
  clear hF hO
  refine TQ.then_ ?_
  obtain ⟨j24, hj24, h⟩ := jn_no h
  refine TC.tail (fun a W => ∃ (l20 : (List Int)) (A21 : Option Addr) (c22 : Nat), j24 l20 = some r ∧ Fr 40 a [(1, .pointer (some ⟨b5, 0, none⟩)), (3, .pointer (some ⟨b8, 0, none⟩)), (4, .bool y6.2), (5, .slice A21 l20.length c22)] ∧ Own G (Blk b5 [.int .i64 a0.f0, .int .i64 a0.f1, .int .i64 a0.f2, .int .i64 a0.f3, .int .i64 a0.f4, .slice A1 a0.f5.length c2] 40 :: Blk b8 [.bool y6.1.f0, .bool y6.1.f1, .bool y6.1.f2, .bool y6.1.f3] 70 :: Row (Kd.int .i64) 3 (.slice A21 l20.length c22) l20 :: L) W) ?_ ?_
  ·
   rintro a W ⟨l20, A21, c22, h, hF, hO⟩
   rw [hj24] at h
   refine TQ.use ?_ hF hO
   clear hF hO
   refine TQ.then_ ?_
   refine TC.seq ?_
   refine TC.seq ?_
   obtain ⟨j29, hj29, h⟩ := jn_no h
   refine TC.tail (fun a W => ∃ (x28 : Bool), j29 x28 = some r ∧ Fr 40 a [(1, .pointer (some ⟨b5, 0, none⟩)), (5, .slice A21 l20.length c22), (26, .bool x28)] ∧ Own G (Blk b5 [.int .i64 a0.f0, .int .i64 a0.f1, .int .i64 a0.f2, .int .i64 a0.f3, .int .i64 a0.f4, .slice A1 a0.f5.length c2] 40 :: Row (Kd.int .i64) 3 (.slice A21 l20.length c22) l20 :: L) W) ?_ ?_
   ·
    rintro a W ⟨x28, h, hF, hO⟩
    rw [hj29] at h
    refine TQ.use ?_ hF hO
    clear hF hO
    refine TQ.then_ ?_
    obtain ⟨j39, hj39, h⟩ := jn_no h
    refine TC.tail (fun a W => ∃ (l35 : (List Int)) (A36 : Option Addr) (c37 : Nat), j39 l35 = some r ∧ Fr 40 a [(1, .pointer (some ⟨b5, 0, none⟩)), (5, .slice A36 l35.length c37)] ∧ Own G (Blk b5 [.int .i64 a0.f0, .int .i64 a0.f1, .int .i64 a0.f2, .int .i64 a0.f3, .int .i64 a0.f4, .slice A1 a0.f5.length c2] 40 :: Row (Kd.int .i64) 3 (.slice A36 l35.length c37) l35 :: L) W) ?_ ?_
    ·
     rintro a W ⟨l35, A36, c37, h, hF, hO⟩
     rw [hj39] at h
     refine TQ.use ?_ hF hO
     clear hF hO
     refine TQ.then_ ?_
     refine TC.seq ?_
     refine TC.seq ?_
     refine TC.region ?_
     refine TL.cons (TO.val rfl rfl rfl (Val.fieldAddrB Tryd.underlying40 rfl fsz3 rfl rfl rfl) ?_)
     refine TL.cons (TO.val rfl rfl rfl (Val.loadB 0 agg3 rfl rfl rfl) ?_)
     refine TL.cons (TO.val rfl rfl rfl (Val.cmp rfl rfl run_eql) ?_)
     refine TL.nil ?_
     refine TQ.then_ ?_
     obtain ⟨j48, hj48, h⟩ := jn_no h
     refine TC.tail (fun a W => ∃ (l44 : (List Int)) (A45 : Option Addr) (c46 : Nat), j48 l44 = some r ∧ Fr 40 a [(5, .slice A45 l44.length c46)] ∧ Own G (Row (Kd.int .i64) 3 (.slice A45 l44.length c46) l44 :: L) W) ?_ ?_
     ·
      rintro a W ⟨l44, A45, c46, h, hF, hO⟩
      rw [hj48] at h
      refine TQ.use ?_ hF hO
      clear hF hO
      refine TQ.then_ ?_
      refine TC.seq ?_
      refine TC.region ?_
      refine TL.cons (TO.val rfl rfl rfl (Val.move rfl) ?_)
      refine TL.cons (TO.val rfl rfl rfl (Val.assign rfl) ?_)
      refine TL.nil ?_
      refine TQ.then_ ?_
      refine TC.ret ?_
      obtain rfl := Option.some.inj h
      exact TQ.fin (.inl rfl) rfl Tryd.results19 (.tmp rfl .nil) rfl (FRel.mk (Ls := [Row (Kd.int .i64) 3 (.slice A45 l44.length c46) l44]) [0] 1 (Gd.le.refl _) rfl rfl rfl ⟨rfl, A45, c46, rfl, rfl⟩)
     ·
      refine TC.cond_p rfl h (fun hc49 h => ?_) (fun hc49 h => ?_)
      ·
       refine TC.region ?_
       refine TL.cons (TO.val rfl rfl rfl (Val.move rfl) ?_)
       refine TL.cons (TO.val rfl rfl rfl (Val.fieldAddrB Tryd.underlying40 rfl fsz38 rfl rfl rfl) ?_)
       refine TL.cons (TO.val rfl rfl rfl (Val.loadB 0 agg38 rfl rfl rfl) ?_)
       refine TK.sel (Ls := [Row (Kd.int .i64) 3 (.slice A36 l35.length c37) l35, Blk b5 [.int .i64 a0.f0, .int .i64 a0.f1, .int .i64 a0.f2, .int .i64 a0.f3, .int .i64 a0.f4, .slice A1 a0.f5.length c2] 40]) [1, 0] 2 rfl rfl rfl ?_
       obtain ⟨ha50, h⟩ := ite_no h
       refine TL.cons (TL.appendR (xs := l35) (ys := a0.f5) (Kd.int .i64) (Kd.int .i64) rfl rfl Tryd.underlying38 inf3 rfl (Nat.le_of_ble_eq_true rfl) (Nat.le_of_ble_eq_true rfl) rfl rfl (by omega) hr3 rfl (fun _ _ _ _ _ h => h) (fun A51 c52 => ?_))
       refine TL.cons (TO.val rfl rfl rfl (Val.assign rfl) ?_)
       refine TL.nil ?_
       exact fun a W hF hO => ⟨(l35 ++ a0.f5), A51, c52, h, hF.sub ⟨rfl, trivial⟩, hO.selT (Ls := [Row (Kd.int .i64) 3 (.slice A51 (l35 ++ a0.f5).length c52) (l35 ++ a0.f5)]) [0] 2 rfl rfl rfl⟩
      ·
       refine TC.skip ?_
       exact fun a W hF hO => ⟨l35, A36, c37, h, hF.sub ⟨rfl, trivial⟩, hO.selT (Ls := [Row (Kd.int .i64) 3 (.slice A36 l35.length c37) l35]) [1] 2 rfl rfl rfl⟩
    ·
     refine TC.cond_b rfl h (fun hc53 h => ?_) (fun hc53 h => ?_)
     ·
      refine TC.region ?_
      refine TL.cons (TO.val rfl rfl rfl (Val.move rfl) ?_)
      refine TL.cons (TO.val rfl rfl rfl (Val.fieldAddrB Tryd.underlying40 rfl fsz3 rfl rfl rfl) ?_)
      refine TL.cons (TO.val rfl rfl rfl (Val.loadB 0 agg3 rfl rfl rfl) ?_)
      refine TL.cons (TL.buildSlice (xs := [.tmp 29]) (vs := [.int .i64 a0.f3]) (cs := [.int .i64 a0.f3]) rfl rfl Tryd.underlying38 zs3 rfl rfl rfl rfl rfl rfl rfl rfl (fun b54 => ?_))
      refine TK.new (El.of (k := (Kd.int .i64)) (xv := a0.f3) (cs := [.int .i64 a0.f3]) (fun W B => rfl)) ?_
      refine TK.sel (Ls := [Row (Kd.int .i64) 3 (.slice A21 l20.length c22) l20, El (Kd.int .i64) a0.f3 [.int .i64 a0.f3], Blk b54 [.int .i64 a0.f3] 3, Blk b5 [.int .i64 a0.f0, .int .i64 a0.f1, .int .i64 a0.f2, .int .i64 a0.f3, .int .i64 a0.f4, .slice A1 a0.f5.length c2] 40]) [3, 0, 1, 2] 4 rfl rfl rfl ?_
      obtain ⟨ha55, h⟩ := ite_no h
      refine TL.cons (TL.append (xs := l20) (Kd.int .i64) rfl rfl Tryd.underlying38 inf3 rfl (Nat.le_of_ble_eq_true rfl) (Nat.le_of_ble_eq_true rfl) rfl rfl (by omega) (fun A56 c57 => ?_))
      refine TL.cons (TO.val rfl rfl rfl (Val.assign rfl) ?_)
      refine TL.nil ?_
      exact fun a W hF hO => ⟨(l20 ++ [a0.f3]), A56, c57, h, hF.sub ⟨rfl, rfl, trivial⟩, hO.selT (Ls := [Blk b5 [.int .i64 a0.f0, .int .i64 a0.f1, .int .i64 a0.f2, .int .i64 a0.f3, .int .i64 a0.f4, .slice A1 a0.f5.length c2] 40, Row (Kd.int .i64) 3 (.slice A56 (l20 ++ [a0.f3]).length c57) (l20 ++ [a0.f3])]) [1, 0] 2 rfl rfl rfl⟩
     ·
      refine TC.skip ?_
      exact fun a W hF hO => ⟨l20, A21, c22, h, hF.sub ⟨rfl, rfl, trivial⟩, hO.selT (Ls := [Blk b5 [.int .i64 a0.f0, .int .i64 a0.f1, .int .i64 a0.f2, .int .i64 a0.f3, .int .i64 a0.f4, .slice A1 a0.f5.length c2] 40, Row (Kd.int .i64) 3 (.slice A21 l20.length c22) l20]) [0, 1] 2 rfl rfl rfl⟩
   ·
    refine TC.region ?_
    refine TL.cons (TO.val rfl rfl rfl (Val.move rfl) ?_)
    refine TL.cons (TO.val rfl rfl rfl (Val.move rfl) ?_)
    refine TK.split (p := y6.2 = true) h (fun hg58 h => ?_) (fun hg58 h => ?_)
    ·
     have hk59 : y6.2 = true := hg58
     refine TL.cons (TO.val (Wt.yes rfl rfl rfl hk59) rfl rfl (Val.fieldAddrB Tryd.underlying70 rfl fsz4 rfl rfl rfl) ?_)
     refine TL.cons (TO.val (Wt.yes rfl rfl rfl hk59) rfl rfl (Val.loadB 1 agg4 rfl rfl rfl) ?_)
     refine TL.cons (TO.val rfl rfl rfl (Val.pickY rfl hk59 rfl) ?_)
     refine TL.nil ?_
     exact fun a W hF hO => ⟨y6.1.f2, h, hF.sub ⟨rfl, rfl, rfl, trivial⟩, hO.selT (Ls := [Blk b5 [.int .i64 a0.f0, .int .i64 a0.f1, .int .i64 a0.f2, .int .i64 a0.f3, .int .i64 a0.f4, .slice A1 a0.f5.length c2] 40, Row (Kd.int .i64) 3 (.slice A21 l20.length c22) l20]) [0, 2] 3 rfl rfl rfl⟩
    ·
     have hk60 : y6.2 = false := (by simpa using hg58)
     refine TL.cons (TL.not (Wt.no rfl rfl rfl hk60) rfl ?_)
     refine TL.cons (TL.not (Wt.no rfl rfl rfl hk60) rfl ?_)
     refine TL.cons (TO.val rfl rfl rfl (Val.pickN rfl hk60 rfl) ?_)
     refine TL.nil ?_
     exact fun a W hF hO => ⟨false, h, hF.sub ⟨rfl, rfl, rfl, trivial⟩, hO.selT (Ls := [Blk b5 [.int .i64 a0.f0, .int .i64 a0.f1, .int .i64 a0.f2, .int .i64 a0.f3, .int .i64 a0.f4, .slice A1 a0.f5.length c2] 40, Row (Kd.int .i64) 3 (.slice A21 l20.length c22) l20]) [0, 2] 3 rfl rfl rfl⟩
  ·
   refine TC.cond_b rfl h (fun hc61 h => ?_) (fun hc61 h => ?_)
   ·
    refine TC.region ?_
    refine TL.cons (TO.val rfl rfl rfl (Val.move rfl) ?_)
    refine TL.cons (TO.val rfl rfl rfl (Val.fieldAddrB Tryd.underlying40 rfl fsz3 rfl rfl rfl) ?_)
    refine TL.cons (TO.val rfl rfl rfl (Val.loadB 0 agg3 rfl rfl rfl) ?_)
    refine TL.cons (TL.buildSlice (xs := [.tmp 19]) (vs := [.int .i64 a0.f2]) (cs := [.int .i64 a0.f2]) rfl rfl Tryd.underlying38 zs3 rfl rfl rfl rfl rfl rfl rfl rfl (fun b62 => ?_))
    refine TK.new (Row.nil (Kd.int .i64) 3) ?_
    refine TK.new (El.of (k := (Kd.int .i64)) (xv := a0.f2) (cs := [.int .i64 a0.f2]) (fun W B => rfl)) ?_
    refine TK.sel (Ls := [Row (Kd.int .i64) 3 (.slice none 0 0) ([] : List Int), El (Kd.int .i64) a0.f2 [.int .i64 a0.f2], Blk b62 [.int .i64 a0.f2] 3, Blk b5 [.int .i64 a0.f0, .int .i64 a0.f1, .int .i64 a0.f2, .int .i64 a0.f3, .int .i64 a0.f4, .slice A1 a0.f5.length c2] 40, Blk b8 [.bool y6.1.f0, .bool y6.1.f1, .bool y6.1.f2, .bool y6.1.f3] 70]) [1, 0, 2, 3, 4] 5 rfl rfl rfl ?_
    obtain ⟨ha64, h⟩ := ite_no h
    refine TL.cons (TL.append (xs := ([] : List Int)) (Kd.int .i64) rfl rfl Tryd.underlying38 inf3 rfl (Nat.le_of_ble_eq_true rfl) (Nat.le_of_ble_eq_true rfl) rfl rfl (by omega) (fun A65 c66 => ?_))
    refine TL.cons (TO.val rfl rfl rfl (Val.assign rfl) ?_)
    refine TL.nil ?_
    exact fun a W hF hO => ⟨(([] : List Int) ++ [a0.f2]), A65, c66, h, hF.sub ⟨rfl, rfl, rfl, rfl, trivial⟩, hO.selT (Ls := [Blk b5 [.int .i64 a0.f0, .int .i64 a0.f1, .int .i64 a0.f2, .int .i64 a0.f3, .int .i64 a0.f4, .slice A1 a0.f5.length c2] 40, Blk b8 [.bool y6.1.f0, .bool y6.1.f1, .bool y6.1.f2, .bool y6.1.f3] 70, Row (Kd.int .i64) 3 (.slice A65 (([] : List Int) ++ [a0.f2]).length c66) (([] : List Int) ++ [a0.f2])]) [1, 2, 0] 3 rfl rfl rfl⟩
   ·
    refine TC.skip ?_
    exact fun a W hF hO => ⟨[], none, 0, h, hF.sub ⟨rfl, rfl, rfl, rfl, trivial⟩, (Own.nilRow (Kd.int .i64) 3 hO).selT (Ls := [Blk b5 [.int .i64 a0.f0, .int .i64 a0.f1, .int .i64 a0.f2, .int .i64 a0.f3, .int .i64 a0.f4, .slice A1 a0.f5.length c2] 40, Blk b8 [.bool y6.1.f0, .bool y6.1.f1, .bool y6.1.f2, .bool y6.1.f3] 70, Row (Kd.int .i64) 3 (.slice none ([] : List Int).length 0) ([] : List Int)]) [1, 2, 0] 3 rfl rfl rfl⟩
 ·
  refine TC.region ?_
  refine TL.cons (TO.val rfl rfl rfl (Val.move rfl) ?_)
  refine TL.cons (TO.val rfl rfl rfl (Val.move rfl) ?_)
  refine TK.split (p := y6.2 = true) h (fun hg67 h => ?_) (fun hg67 h => ?_)
  ·
   have hk68 : y6.2 = true := hg67
   refine TL.cons (TO.val (Wt.yes rfl rfl rfl hk68) rfl rfl (Val.fieldAddrB Tryd.underlying70 rfl fsz4 rfl rfl rfl) ?_)
   refine TL.cons (TO.val (Wt.yes rfl rfl rfl hk68) rfl rfl (Val.loadB 0 agg4 rfl rfl rfl) ?_)
   refine TL.cons (TO.val rfl rfl rfl (Val.pickY rfl hk68 rfl) ?_)
   refine TL.nil ?_
   exact fun a W hF hO => ⟨y6.1.f1, h, hF.sub ⟨rfl, rfl, rfl, rfl, rfl, trivial⟩, hO.selT (Ls := [Blk b5 [.int .i64 a0.f0, .int .i64 a0.f1, .int .i64 a0.f2, .int .i64 a0.f3, .int .i64 a0.f4, .slice A1 a0.f5.length c2] 40, Blk b8 [.bool y6.1.f0, .bool y6.1.f1, .bool y6.1.f2, .bool y6.1.f3] 70]) [1, 0] 2 rfl rfl rfl⟩
  ·
   have hk69 : y6.2 = false := (by simpa using hg67)
   refine TL.cons (TL.not (Wt.no rfl rfl rfl hk69) rfl ?_)
   refine TL.cons (TL.not (Wt.no rfl rfl rfl hk69) rfl ?_)
   refine TL.cons (TO.val rfl rfl rfl (Val.pickN rfl hk69 rfl) ?_)
   refine TL.nil ?_
   exact fun a W hF hO => ⟨false, h, hF.sub ⟨rfl, rfl, rfl, rfl, rfl, trivial⟩, hO.selT (Ls := [Blk b5 [.int .i64 a0.f0, .int .i64 a0.f1, .int .i64 a0.f2, .int .i64 a0.f3, .int .i64 a0.f4, .slice A1 a0.f5.length c2] 40, Blk b8 [.bool y6.1.f0, .bool y6.1.f1, .bool y6.1.f2, .bool y6.1.f3] 70]) [1, 0] 2 rfl rfl rfl⟩
end Go.Proofs.YtmacdhkfgoahcaaDoor.Sy
set_option linter.unusedVariables false
set_option linter.unusedSimpArgs false
set_option maxRecDepth 100000
set_option maxHeartbeats 4000000
namespace Go.Proofs.YtmacdhkfgoahcaaDoor.Sy
open Go Go.RowKit Go.Proofs.YtmacdhkfgoahcaaDoorW.PrintWords 
def slices_Index_int_int.l0 (a0 : (List Int)) (a1 : Int) : Nat → Int → Option (Sum Int (Unit))
 | 0, _ => none
 | n80 + 1, x54 => (if x54 < (a0.length : Int) then (at? a0 x54).bind fun y118 => (if a1 = y118 then some (.inl x54) else slices_Index_int_int.l0 a0 a1 n80 (IntKind.i64.wrap (x54 + 1))) else some (.inr ()))
def slices_Index_int_int.f (a0 : (List Int)) (a1 : Int) : Option Int := (slices_Index_int_int.l0 a0 a1 (a0.length + 1) 0).bind fun | .inl q_ => some q_ | .inr _ => (some (-1))
def slices_Index_int_int.post (G : Gd)  (r : Int) (v : Value) (G' : Gd) (Lr : List Ch) : Prop := G = G' ∧ v = .int .i64 r ∧ Lr = []
theorem slices_Index_int_int.calls {G : Gd} {r : Int} {a0 : (List Int)} {a1 : Int} {A1 : Option Addr} {c2 : Nat} (hr3 : Rd G (Kd.int .i64) A1 a0) (hl4 : a0.length ≤ c2) (h : slices_Index_int_int.f a0 a1 = some r) : Fn Tryd.prog 82 G [] [.slice A1 a0.length c2, .int .i64 a1] (slices_Index_int_int.post G  r) := by
 refine Fn.intro (e := [(0, .slice A1 a0.length c2), (1, .int .i64 a1)]) 19 Tryd.func82 rfl Tryd.ntmps82 rfl rfl (Nat.le_of_ble_eq_true rfl) (fun L => ?_)
 unfold slices_Index_int_int.f at h
 refine TC.seq ?_
 refine TC.region ?_
 refine TL.cons (TO.val rfl rfl rfl (Val.assign rfl) ?_)
 refine TL.nil ?_
 refine TQ.then_ ?_
 refine TC.seq ?_
 refine TC.seq ?_
 refine TC.region ?_
 refine TL.cons (TO.val rfl rfl rfl (Val.move rfl) ?_)
 refine TL.cons (TO.val rfl rfl rfl (Val.len Tryd.underlying38 rfl) ?_)
 refine TL.cons (TO.val rfl rfl rfl (Val.move rfl) ?_)
 refine TL.nil ?_
 refine TQ.then_ ?_
 obtain ⟨o79, ho79, ko79⟩ := bind_no h
 clear h
 refine TC.tail (fun a W => (.inr ()) = o79 ∧ Fr 19 a [] ∧ Own G (L) W) ?_ ?_
 ·
  rintro a W ⟨rfl, hF, hO⟩
  have h := ko79
  clear ko79 ho79
  refine TQ.use ?_ hF hO
  clear hF hO
  refine TQ.then_ ?_
  refine TC.seq ?_
  refine TC.region ?_
  refine TL.cons (TO.val rfl rfl rfl (Val.assign rfl) ?_)
  refine TL.nil ?_
  refine TQ.then_ ?_
  refine TC.ret ?_
  obtain rfl := Option.some.inj h
  exact TQ.fin (.inl rfl) rfl Tryd.results82 (.tmp rfl .nil) rfl (FRel.mk (Ls := []) [] 0 (Gd.le.refl _) rfl rfl rfl ⟨rfl, rfl, rfl⟩)
 ·
  refine TC.block ?_
  intro a W hF hO
  have hS : ∃ (x54 : Int), slices_Index_int_int.l0 a0 a1 (a0.length + 1) x54 = some o79 ∧ Fr 19 a [(0, .slice A1 a0.length c2), (1, .int .i64 a1), (7, .int .i64 (a0.length : Int)), (8, .int .i64 x54)] ∧ Own G (L) W := by
   exact ⟨0, ho79, hF.sub ⟨rfl, rfl, rfl, rfl, trivial⟩, hO.selT (Ls := []) [] 0 rfl rfl rfl⟩
  clear hF hO ho79
  refine TC.loop (fun n80 a W => ∃ (x54 : Int), slices_Index_int_int.l0 a0 a1 n80 x54 = some o79 ∧ Fr 19 a [(0, .slice A1 a0.length c2), (1, .int .i64 a1), (7, .int .i64 (a0.length : Int)), (8, .int .i64 x54)] ∧ Own G (L) W) ?_ ?_ hS
  ·
   rintro a W ⟨x54, h, hF, hO⟩
   exact none_no h
  ·
   clear hS
   rintro n80 a W ⟨x54, h, hF, hO⟩
   rw [slices_Index_int_int.l0] at h
   refine TC.use ?_ hF hO
   clear hF hO
   refine TC.seq ?_
   refine TC.region ?_
   refine TL.cons (TO.val rfl rfl rfl (Val.cmp rfl rfl run_lss) ?_)
   refine TL.nil ?_
   refine TQ.then_ ?_
   refine TC.seq ?_
   refine TC.cond_p rfl h (fun hc106 h => ?_) (fun hc106 h => ?_)
   ·
    refine TC.skip ?_
    refine TQ.then_ ?_
    refine TC.seq ?_
    refine TC.block ?_
    refine TC.seq ?_
    refine TC.region ?_
    refine TL.cons (TO.val rfl rfl rfl (Val.move rfl) ?_)
    refine TL.cons (TO.val rfl rfl rfl (Val.assign rfl) ?_)
    refine TL.nil ?_
    refine TQ.then_ ?_
    refine TC.seq ?_
    refine TC.region ?_
    refine TL.cons (TO.val rfl rfl rfl (Val.move rfl) ?_)
    refine TL.cons (TO.val rfl rfl rfl (Val.move rfl) ?_)
    refine TL.cons (TO.val rfl rfl rfl (Val.move rfl) ?_)
    obtain ⟨y118, hx119, h⟩ := bind_no h
    obtain ⟨ad120, cs126, hA121, hi122, hj123, hcl124, hK125⟩ := Rd.at hr3 hx119
    obtain rfl := RdK.int hK125
    refine TL.cons (TO.val rfl rfl rfl (Val.indexAddr Tryd.underlying38 fsz3 rfl hA121 rfl hi122 hj123) ?_)
    refine TL.cons (TO.val rfl rfl rfl (Val.loadS agg3 rfl (hcl124 0 _ rfl)) ?_)
    refine TL.cons (TO.val rfl rfl rfl (Val.cmp rfl rfl run_eql) ?_)
    refine TL.nil ?_
    refine TQ.then_ ?_
    refine TC.cond_p rfl h (fun hc128 h => ?_) (fun hc128 h => ?_)
    ·
     refine TC.seq ?_
     refine TC.region ?_
     refine TL.cons (TO.val rfl rfl rfl (Val.move rfl) ?_)
     refine TL.cons (TO.val rfl rfl rfl (Val.assign rfl) ?_)
     refine TL.nil ?_
     refine TQ.then_ ?_
     refine TC.ret ?_
     refine TQ.inBR ?_
     refine TQ.thenR ?_
     refine TQ.thenR ?_
     refine TQ.inBR ?_
     refine TQ.thenR ?_
     refine TQ.thenR ?_
     obtain rfl := Option.some.inj h
     have h := ko79
     obtain rfl := Option.some.inj h
     exact TQ.fin (.inl rfl) rfl Tryd.results82 (.tmp rfl .nil) rfl (FRel.mk (Ls := []) [] 0 (Gd.le.refl _) rfl rfl rfl ⟨rfl, rfl, rfl⟩)
    ·
     refine TC.skip ?_
     refine TQ.inB ?_
     refine TQ.then_ ?_
     refine TC.region ?_
     refine TL.cons (TO.val rfl rfl rfl (Val.cmp rfl rfl run_add) ?_)
     refine TL.cons (TO.val rfl rfl rfl (Val.move rfl) ?_)
     refine TL.nil ?_
     exact fun a W hF hO => ⟨IntKind.i64.wrap (x54 + 1), h, hF.sub ⟨rfl, rfl, rfl, rfl, trivial⟩, hO.selT (Ls := []) [] 0 rfl rfl rfl⟩
   ·
    refine TC.exit ?_
    refine TQ.thenX ?_
    refine TQ.thenX ?_
    refine TQ.inBX ?_
    exact fun a W hF hO => ⟨Option.some.inj h, hF.sub trivial, hO.selT (Ls := []) [] 0 rfl rfl rfl⟩
end Go.Proofs.YtmacdhkfgoahcaaDoor.Sy
set_option linter.unusedVariables false
set_option linter.unusedSimpArgs false
set_option maxRecDepth 100000
set_option maxHeartbeats 4000000
namespace Go.Proofs.YtmacdhkfgoahcaaDoor.Sy
open Go Go.RowKit Go.Proofs.YtmacdhkfgoahcaaDoorW.PrintWords 
def slices_Contains_int_int.f (a0 : (List Int)) (a1 : Int) : Option Bool := (slices_Index_int_int.f a0 a1).bind fun (y5 : Int) => some (decide (0 ≤ y5))
def slices_Contains_int_int.post (G : Gd)  (r : Bool) (v : Value) (G' : Gd) (Lr : List Ch) : Prop := G = G' ∧ v = .bool r ∧ Lr = []
theorem slices_Contains_int_int.calls {G : Gd} {r : Bool} {a0 : (List Int)} {a1 : Int} {A1 : Option Addr} {c2 : Nat} (hr3 : Rd G (Kd.int .i64) A1 a0) (hl4 : a0.length ≤ c2) (h : slices_Contains_int_int.f a0 a1 = some r) : Fn Tryd.prog 56 G [] [.slice A1 a0.length c2, .int .i64 a1] (slices_Contains_int_int.post G  r) := by
 refine Fn.intro (e := [(0, .slice A1 a0.length c2), (1, .int .i64 a1)]) 9 Tryd.func56 rfl Tryd.ntmps56 rfl rfl (Nat.le_of_ble_eq_true rfl) (fun L => ?_)
 unfold slices_Contains_int_int.f at h
 refine TC.seq ?_
 refine TC.region ?_
 refine TL.cons (TO.val rfl rfl rfl (Val.assign rfl) ?_)
 refine TL.nil ?_
 refine TQ.then_ ?_
 refine TC.seq ?_
 refine TC.region ?_
 refine TL.cons (TO.val rfl rfl rfl (Val.move rfl) ?_)
 refine TL.cons (TO.val rfl rfl rfl (Val.move rfl) ?_)
 obtain ⟨y5, hy6, h⟩ := bind_no h
 refine TL.cons (TL.callV (Lin := []) (args := [.slice A1 a0.length c2, .int .i64 a1]) rfl rfl rfl hbd82 rfl rfl (slices_Index_int_int.calls (a0 := a0) (a1 := a1) hr3 hl4 hy6) rfl ?_)
 rintro _ _ _ _ ⟨rfl, rfl, rfl⟩
 refine TL.cons (TO.val rfl rfl rfl (Val.cmp rfl rfl run_geq) ?_)
 refine TL.cons (TO.val rfl rfl rfl (Val.assign rfl) ?_)
 refine TL.nil ?_
 refine TQ.then_ ?_
 refine TC.ret ?_
 obtain rfl := Option.some.inj h
 exact TQ.fin (.inl rfl) rfl Tryd.results56 (.tmp rfl .nil) rfl (FRel.mk (Ls := []) [] 0 (Gd.le.refl _) rfl rfl rfl ⟨rfl, rfl, rfl⟩)
end Go.Proofs.YtmacdhkfgoahcaaDoor.Sy
set_option linter.unusedVariables false
set_option linter.unusedSimpArgs false
set_option maxRecDepth 100000
set_option maxHeartbeats 4000000
namespace Go.Proofs.YtmacdhkfgoahcaaDoor.Sy
open Go Go.RowKit Go.Proofs.YtmacdhkfgoahcaaDoorW.PrintWords 
def code_Pure.f (a0 : S40) : Option Bool := jn (γ := Bool) (fun (x46 : Bool) => (if x46 = true then some true else (if a0.f0 = 2 then (slices_Contains_int_int.f ([4, 5, 9, 10] : List Int) a0.f4).bind fun (y81 : Bool) => some (!y81) else some false))) (fun (j47 : (Bool → Option Bool)) => (if a0.f0 = 1 then j47 (decide (a0.f0 = 1)) else j47 (decide (a0.f0 = 3))))
def code_Pure.post (G : Gd)  (r : Bool) (v : Value) (G' : Gd) (Lr : List Ch) : Prop := G = G' ∧ v = .bool r ∧ Lr = []
theorem code_Pure.calls {G : Gd} {r : Bool} {a0 : S40} {A1 : Option Addr} {c2 : Nat} (hr3 : Rd G (Kd.int .i64) A1 a0.f5) (hl4 : a0.f5.length ≤ c2) (h : code_Pure.f a0 = some r) : Fn Tryd.prog 20 G [] [.agg #[.int .i64 a0.f0, .int .i64 a0.f1, .int .i64 a0.f2, .int .i64 a0.f3, .int .i64 a0.f4, .slice A1 a0.f5.length c2]] (code_Pure.post G  r) := by
 refine Fn.intro (e := [(0, .agg #[.int .i64 a0.f0, .int .i64 a0.f1, .int .i64 a0.f2, .int .i64 a0.f3, .int .i64 a0.f4, .slice A1 a0.f5.length c2])]) 15 Tryd.func20 rfl Tryd.ntmps20 rfl rfl (Nat.le_of_ble_eq_true rfl) (fun L => ?_)
 unfold code_Pure.f at h
 refine TC.seq ?_
 refine TC.region ?_
 refine TL.cons (TL.box (cs := [.int .i64 a0.f0, .int .i64 a0.f1, .int .i64 a0.f2, .int .i64 a0.f3, .int .i64 a0.f4, .slice A1 a0.f5.length c2]) rfl rfl rfl rfl (fun b5 => ?_))
 refine TL.cons (TO.val rfl rfl rfl (Val.assign rfl) ?_)
 refine TL.nil ?_
 refine TQ.then_ ?_
 refine TC.seq ?_
 refine TC.seq ?_
 refine TC.region ?_
 refine TL.cons (TO.val rfl rfl rfl (Val.fieldAddrB Tryd.underlying40 rfl fsz3 rfl rfl rfl) ?_)
 refine TL.cons (TO.val rfl rfl rfl (Val.loadB 0 agg3 rfl rfl rfl) ?_)
 refine TL.nil ?_
 refine TQ.then_ ?_
 refine TC.block ?_
 refine TC.seq ?_
 refine TC.seq ?_
 refine TC.region ?_
 refine TL.cons (TO.val rfl rfl rfl (Val.cmp rfl rfl run_eql) ?_)
 refine TL.cons (TO.val rfl rfl rfl (Val.assign rfl) ?_)
 refine TL.nil ?_
 refine TQ.then_ ?_
 obtain ⟨j47, hj47, h⟩ := jn_no h
 refine TC.tail (fun a W => ∃ (x46 : Bool), j47 x46 = some r ∧ Fr 15 a [(1, .pointer (some ⟨b5, 0, none⟩)), (4, .int .i64 a0.f0), (5, .bool x46)] ∧ Own G (Blk b5 [.int .i64 a0.f0, .int .i64 a0.f1, .int .i64 a0.f2, .int .i64 a0.f3, .int .i64 a0.f4, .slice A1 a0.f5.length c2] 40 :: L) W) ?_ ?_
 ·
  rintro a W ⟨x46, h, hF, hO⟩
  rw [hj47] at h
  refine TQ.use ?_ hF hO
  clear hF hO
  refine TQ.then_ ?_
  refine TC.cond_b rfl h (fun hc60 h => ?_) (fun hc60 h => ?_)
  ·
   refine TC.seq ?_
   refine TC.region ?_
   refine TL.cons (TO.val rfl rfl rfl (Val.assign rfl) ?_)
   refine TL.nil ?_
   refine TQ.then_ ?_
   refine TC.ret ?_
   refine TQ.inBR ?_
   refine TQ.thenR ?_
   obtain rfl := Option.some.inj h
   exact TQ.fin (.inl rfl) rfl Tryd.results20 (.tmp rfl .nil) rfl (FRel.mk (Ls := []) [] 1 (Gd.le.refl _) rfl rfl rfl ⟨rfl, rfl, rfl⟩)
  ·
   refine TC.seq ?_
   refine TC.region ?_
   refine TL.cons (TO.val rfl rfl rfl (Val.cmp rfl rfl run_eql) ?_)
   refine TL.cons (TO.val rfl rfl rfl (Val.assign rfl) ?_)
   refine TL.nil ?_
   refine TQ.then_ ?_
   refine TC.cond_p rfl h (fun hc72 h => ?_) (fun hc72 h => ?_)
   ·
    refine TC.seq ?_
    refine TC.region ?_
    refine TL.cons (TL.buildSlice (xs := [.const (.int .i64 4), .const (.int .i64 5), .const (.int .i64 9), .const (.int .i64 10)]) (vs := [.int .i64 4, .int .i64 5, .int .i64 9, .int .i64 10]) (cs := [.int .i64 4, .int .i64 5, .int .i64 9, .int .i64 10]) rfl rfl Tryd.underlying38 zs3 rfl rfl rfl rfl rfl rfl rfl rfl (fun b73 => ?_))
    refine TL.cons (TO.val rfl rfl rfl (Val.fieldAddrB Tryd.underlying40 rfl fsz3 rfl rfl rfl) ?_)
    refine TL.cons (TO.val rfl rfl rfl (Val.loadB 1 agg3 rfl rfl rfl) ?_)
    refine TK.new (Els.nil (Kd.int .i64)) ?_
    refine TK.new (El.of (k := (Kd.int .i64)) (xv := 4) (cs := [.int .i64 4]) (fun W B => rfl)) ?_
    refine TK.sel (Ls := [Els (Kd.int .i64) [] [], El (Kd.int .i64) 4 [.int .i64 4], Blk b73 [.int .i64 4, .int .i64 5, .int .i64 9, .int .i64 10] 3, Blk b5 [.int .i64 a0.f0, .int .i64 a0.f1, .int .i64 a0.f2, .int .i64 a0.f3, .int .i64 a0.f4, .slice A1 a0.f5.length c2] 40]) [1, 0, 2, 3] 4 rfl rfl rfl ?_
    refine TK.two (ch := Els (Kd.int .i64) [4] [.int .i64 4]) (Els.snoc (Kd.int .i64)) ?_
    refine TK.new (El.of (k := (Kd.int .i64)) (xv := 5) (cs := [.int .i64 5]) (fun W B => rfl)) ?_
    refine TK.sel (Ls := [Els (Kd.int .i64) [4] [.int .i64 4], El (Kd.int .i64) 5 [.int .i64 5], Blk b73 [.int .i64 4, .int .i64 5, .int .i64 9, .int .i64 10] 3, Blk b5 [.int .i64 a0.f0, .int .i64 a0.f1, .int .i64 a0.f2, .int .i64 a0.f3, .int .i64 a0.f4, .slice A1 a0.f5.length c2] 40]) [1, 0, 2, 3] 4 rfl rfl rfl ?_
    refine TK.two (ch := Els (Kd.int .i64) [4, 5] [.int .i64 4, .int .i64 5]) (Els.snoc (Kd.int .i64)) ?_
    refine TK.new (El.of (k := (Kd.int .i64)) (xv := 9) (cs := [.int .i64 9]) (fun W B => rfl)) ?_
    refine TK.sel (Ls := [Els (Kd.int .i64) [4, 5] [.int .i64 4, .int .i64 5], El (Kd.int .i64) 9 [.int .i64 9], Blk b73 [.int .i64 4, .int .i64 5, .int .i64 9, .int .i64 10] 3, Blk b5 [.int .i64 a0.f0, .int .i64 a0.f1, .int .i64 a0.f2, .int .i64 a0.f3, .int .i64 a0.f4, .slice A1 a0.f5.length c2] 40]) [1, 0, 2, 3] 4 rfl rfl rfl ?_
    refine TK.two (ch := Els (Kd.int .i64) [4, 5, 9] [.int .i64 4, .int .i64 5, .int .i64 9]) (Els.snoc (Kd.int .i64)) ?_
    refine TK.new (El.of (k := (Kd.int .i64)) (xv := 10) (cs := [.int .i64 10]) (fun W B => rfl)) ?_
    refine TK.sel (Ls := [Els (Kd.int .i64) [4, 5, 9] [.int .i64 4, .int .i64 5, .int .i64 9], El (Kd.int .i64) 10 [.int .i64 10], Blk b73 [.int .i64 4, .int .i64 5, .int .i64 9, .int .i64 10] 3, Blk b5 [.int .i64 a0.f0, .int .i64 a0.f1, .int .i64 a0.f2, .int .i64 a0.f3, .int .i64 a0.f4, .slice A1 a0.f5.length c2] 40]) [1, 0, 2, 3] 4 rfl rfl rfl ?_
    refine TK.two (ch := Els (Kd.int .i64) [4, 5, 9, 10] [.int .i64 4, .int .i64 5, .int .i64 9, .int .i64 10]) (Els.snoc (Kd.int .i64)) ?_
    refine TK.sel (Ls := [Blk b73 [.int .i64 4, .int .i64 5, .int .i64 9, .int .i64 10] 3, Els (Kd.int .i64) [4, 5, 9, 10] [.int .i64 4, .int .i64 5, .int .i64 9, .int .i64 10], Blk b5 [.int .i64 a0.f0, .int .i64 a0.f1, .int .i64 a0.f2, .int .i64 a0.f3, .int .i64 a0.f4, .slice A1 a0.f5.length c2] 40]) [1, 0, 2] 3 rfl rfl rfl ?_
    refine TK.two (ch := Row (Kd.int .i64) 3 (.slice (some ⟨b73, 0, none⟩) 4 4) ([4, 5, 9, 10] : List Int)) (Row.lit (Kd.int .i64) rfl rfl) ?_
    refine TK.share (fun G75 e76 hs77 hb78 => ?_)
    have rd79 : Rd G75 (Kd.int .i64) (some ⟨b73, 0, none⟩) ([4, 5, 9, 10] : List Int) := Rd.row hs77
    have le80 : ([4, 5, 9, 10] : List Int).length ≤ 4 := Row.le hs77
    obtain ⟨y81, hy82, h⟩ := bind_no h
    refine TL.cons (TL.callV (Lin := []) (args := [.slice (some ⟨b73, 0, none⟩) 4 4, .int .i64 a0.f4]) rfl rfl rfl hbd56 rfl rfl (slices_Contains_int_int.calls (a0 := ([4, 5, 9, 10] : List Int)) (a1 := a0.f4) rd79 le80 hy82) rfl ?_)
    rintro _ _ _ _ ⟨rfl, rfl, rfl⟩
    refine TL.cons (TO.val rfl rfl rfl (Val.not_ rfl) ?_)
    refine TL.cons (TO.val rfl rfl rfl (Val.assign rfl) ?_)
    refine TL.nil ?_
    refine TQ.then_ ?_
    refine TC.ret ?_
    refine TQ.inBR ?_
    refine TQ.thenR ?_
    refine TQ.back hb78 ?_
    obtain rfl := Option.some.inj h
    exact TQ.fin (.inl rfl) rfl Tryd.results20 (.tmp rfl .nil) rfl (FRel.mk (Ls := []) [] 2 (Gd.le.refl _) rfl rfl rfl ⟨rfl, rfl, rfl⟩)
   ·
    refine TC.skip ?_
    refine TQ.inB ?_
    refine TQ.then_ ?_
    refine TC.seq ?_
    refine TC.region ?_
    refine TL.cons (TO.val rfl rfl rfl (Val.assign rfl) ?_)
    refine TL.nil ?_
    refine TQ.then_ ?_
    refine TC.ret ?_
    obtain rfl := Option.some.inj h
    exact TQ.fin (.inl rfl) rfl Tryd.results20 (.tmp rfl .nil) rfl (FRel.mk (Ls := []) [] 1 (Gd.le.refl _) rfl rfl rfl ⟨rfl, rfl, rfl⟩)
 ·
  refine TC.cond_p rfl h (fun hc83 h => ?_) (fun hc83 h => ?_)
  ·
   refine TC.skip ?_
   exact fun a W hF hO => ⟨decide (a0.f0 = 1), h, hF.sub ⟨rfl, rfl, rfl, trivial⟩, hO.selT (Ls := [Blk b5 [.int .i64 a0.f0, .int .i64 a0.f1, .int .i64 a0.f2, .int .i64 a0.f3, .int .i64 a0.f4, .slice A1 a0.f5.length c2] 40]) [0] 1 rfl rfl rfl⟩
  ·
   refine TC.region ?_
   refine TL.cons (TO.val rfl rfl rfl (Val.cmp rfl rfl run_eql) ?_)
   refine TL.cons (TO.val rfl rfl rfl (Val.assign rfl) ?_)
   refine TL.nil ?_
   exact fun a W hF hO => ⟨decide (a0.f0 = 3), h, hF.sub ⟨rfl, rfl, rfl, trivial⟩, hO.selT (Ls := [Blk b5 [.int .i64 a0.f0, .int .i64 a0.f1, .int .i64 a0.f2, .int .i64 a0.f3, .int .i64 a0.f4, .slice A1 a0.f5.length c2] 40]) [0] 1 rfl rfl rfl⟩
end Go.Proofs.YtmacdhkfgoahcaaDoor.Sy
set_option linter.unusedVariables false
set_option linter.unusedSimpArgs false
set_option maxRecDepth 100000
set_option maxHeartbeats 4000000
namespace Go.Proofs.YtmacdhkfgoahcaaDoor.Sy
open Go Go.RowKit Go.Proofs.YtmacdhkfgoahcaaDoorW.PrintWords 
def code_TermUses.f (a0 : S35) : Option (List Int) := jn (γ := (List Int)) (fun (x5 : Bool) => (if x5 = true then some ([a0.f1] : List Int) else some ([] : List Int))) (fun (j6 : (Bool → Option (List Int))) => (if a0.f0 = 2 then j6 true else j6 (decide (a0.f0 = 3))))
def code_TermUses.post (G : Gd)  (r : (List Int)) (v : Value) (G' : Gd) (Lr : List Ch) : Prop := G = G' ∧ ∃ (A_1 : Option Addr) (c_1 : Nat), v = .slice A_1 r.length c_1 ∧ Lr = [Row (Kd.int .i64) 3 (.slice A_1 r.length c_1) r]
theorem code_TermUses.calls {G : Gd} {r : (List Int)} {a0 : S35} (h : code_TermUses.f a0 = some r) : Fn Tryd.prog 22 G [] [.agg #[.int .i64 a0.f0, .int .i64 a0.f1, .int .i64 a0.f2, .int .i64 a0.f3]] (code_TermUses.post G  r) := by
 refine Fn.intro (e := [(0, .agg #[.int .i64 a0.f0, .int .i64 a0.f1, .int .i64 a0.f2, .int .i64 a0.f3])]) 14 Tryd.func22 rfl Tryd.ntmps22 rfl rfl (Nat.le_of_ble_eq_true rfl) (fun L => ?_)
 unfold code_TermUses.f at h
 refine TC.seq ?_
 refine TC.region ?_
 refine TL.cons (TL.box (cs := [.int .i64 a0.f0, .int .i64 a0.f1, .int .i64 a0.f2, .int .i64 a0.f3]) rfl rfl rfl rfl (fun b1 => ?_))
 refine TL.cons (TO.val rfl rfl rfl (Val.assign rfl) ?_)
 refine TL.nil ?_
 refine TQ.then_ ?_
 refine TC.seq ?_
 refine TC.seq ?_
 obtain ⟨j6, hj6, h⟩ := jn_no h
 refine TC.tail (fun a W => ∃ (x5 : Bool), j6 x5 = some r ∧ Fr 14 a [(1, .pointer (some ⟨b1, 0, none⟩)), (10, .bool x5)] ∧ Own G (Blk b1 [.int .i64 a0.f0, .int .i64 a0.f1, .int .i64 a0.f2, .int .i64 a0.f3] 35 :: L) W) ?_ ?_
 ·
  rintro a W ⟨x5, h, hF, hO⟩
  rw [hj6] at h
  refine TQ.use ?_ hF hO
  clear hF hO
  refine TQ.then_ ?_
  refine TC.cond_b rfl h (fun hc9 h => ?_) (fun hc9 h => ?_)
  ·
   refine TC.seq ?_
   refine TC.region ?_
   refine TL.cons (TO.val rfl rfl rfl (Val.fieldAddrB Tryd.underlying35 rfl fsz3 rfl rfl rfl) ?_)
   refine TL.cons (TO.val rfl rfl rfl (Val.loadB 0 agg3 rfl rfl rfl) ?_)
   refine TL.cons (TL.buildSlice (xs := [.tmp 12]) (vs := [.int .i64 a0.f1]) (cs := [.int .i64 a0.f1]) rfl rfl Tryd.underlying38 zs3 rfl rfl rfl rfl rfl rfl rfl rfl (fun b10 => ?_))
   refine TL.cons (TO.val rfl rfl rfl (Val.assign rfl) ?_)
   refine TL.nil ?_
   refine TQ.then_ ?_
   refine TC.ret ?_
   refine TQ.thenR ?_
   refine TQ.new (Els.nil (Kd.int .i64)) ?_
   refine TQ.new (El.of (k := (Kd.int .i64)) (xv := a0.f1) (cs := [.int .i64 a0.f1]) (fun W B => rfl)) ?_
   refine TQ.sel (Ls := [Els (Kd.int .i64) [] [], El (Kd.int .i64) a0.f1 [.int .i64 a0.f1], Blk b10 [.int .i64 a0.f1] 3, Blk b1 [.int .i64 a0.f0, .int .i64 a0.f1, .int .i64 a0.f2, .int .i64 a0.f3] 35]) [1, 0, 2, 3] 4 rfl rfl rfl ?_
   refine TQ.two (ch := Els (Kd.int .i64) [a0.f1] [.int .i64 a0.f1]) (Els.snoc (Kd.int .i64)) ?_
   refine TQ.sel (Ls := [Blk b10 [.int .i64 a0.f1] 3, Els (Kd.int .i64) [a0.f1] [.int .i64 a0.f1], Blk b1 [.int .i64 a0.f0, .int .i64 a0.f1, .int .i64 a0.f2, .int .i64 a0.f3] 35]) [1, 0, 2] 3 rfl rfl rfl ?_
   refine TQ.two (ch := Row (Kd.int .i64) 3 (.slice (some ⟨b10, 0, none⟩) 1 1) ([a0.f1] : List Int)) (Row.lit (Kd.int .i64) rfl rfl) ?_
   obtain rfl := Option.some.inj h
   exact TQ.fin (.inl rfl) rfl Tryd.results22 (.tmp rfl .nil) rfl (FRel.mk (Ls := [Row (Kd.int .i64) 3 (.slice (some ⟨b10, 0, none⟩) 1 1) ([a0.f1] : List Int)]) [0] 2 (Gd.le.refl _) rfl rfl rfl ⟨rfl, (some ⟨b10, 0, none⟩), 1, rfl, rfl⟩)
  ·
   refine TC.skip ?_
   refine TQ.then_ ?_
   refine TC.seq ?_
   refine TC.region ?_
   refine TL.cons (TO.val rfl rfl rfl (Val.assign rfl) ?_)
   refine TL.nil ?_
   refine TQ.then_ ?_
   refine TC.ret ?_
   refine TQ.nilRow (Kd.int .i64) 3 ?_
   obtain rfl := Option.some.inj h
   exact TQ.fin (.inl rfl) rfl Tryd.results22 (.tmp rfl .nil) rfl (FRel.mk (Ls := [Row (Kd.int .i64) 3 (.slice none 0 0) ([] : List Int)]) [0] 2 (Gd.le.refl _) rfl rfl rfl ⟨rfl, none, 0, rfl, rfl⟩)
 ·
  refine TC.region ?_
  refine TL.cons (TO.val rfl rfl rfl (Val.fieldAddrB Tryd.underlying35 rfl fsz3 rfl rfl rfl) ?_)
  refine TL.cons (TO.val rfl rfl rfl (Val.loadB 0 agg3 rfl rfl rfl) ?_)
  refine TL.cons (TO.val rfl rfl rfl (Val.cmp rfl rfl run_eql) ?_)
  refine TL.cons (TO.val rfl rfl rfl (Val.move rfl) ?_)
  refine TK.split (p := a0.f0 = 2) h (fun hg13 h => ?_) (fun hg13 h => ?_)
  ·
   have hk14 : decide (a0.f0 = 2) = true := decide_eq_true hg13
   refine TL.cons (TL.not (Wt.no rfl rfl rfl hk14) rfl ?_)
   refine TL.cons (TL.not (Wt.no rfl rfl rfl hk14) rfl ?_)
   refine TL.cons (TL.not (Wt.no rfl rfl rfl hk14) rfl ?_)
   refine TL.cons (TO.val rfl rfl rfl (Val.pickY rfl hk14 rfl) ?_)
   refine TL.nil ?_
   exact fun a W hF hO => ⟨true, h, hF.sub ⟨rfl, rfl, trivial⟩, hO.selT (Ls := [Blk b1 [.int .i64 a0.f0, .int .i64 a0.f1, .int .i64 a0.f2, .int .i64 a0.f3] 35]) [0] 1 rfl rfl rfl⟩
  ·
   have hk15 : decide (a0.f0 = 2) = false := decide_eq_false hg13
   refine TL.cons (TO.val (Wt.yes rfl rfl rfl hk15) rfl rfl (Val.fieldAddrB Tryd.underlying35 rfl fsz3 rfl rfl rfl) ?_)
   refine TL.cons (TO.val (Wt.yes rfl rfl rfl hk15) rfl rfl (Val.loadB 0 agg3 rfl rfl rfl) ?_)
   refine TL.cons (TO.val (Wt.yes rfl rfl rfl hk15) rfl rfl (Val.cmp rfl rfl run_eql) ?_)
   refine TL.cons (TO.val rfl rfl rfl (Val.pickN rfl hk15 rfl) ?_)
   refine TL.nil ?_
   exact fun a W hF hO => ⟨decide (a0.f0 = 3), h, hF.sub ⟨rfl, rfl, trivial⟩, hO.selT (Ls := [Blk b1 [.int .i64 a0.f0, .int .i64 a0.f1, .int .i64 a0.f2, .int .i64 a0.f3] 35]) [0] 1 rfl rfl rfl⟩
end Go.Proofs.YtmacdhkfgoahcaaDoor.Sy
set_option linter.unusedVariables false
set_option linter.unusedSimpArgs false
set_option maxRecDepth 100000
set_option maxHeartbeats 4000000
namespace Go.Proofs.YtmacdhkfgoahcaaDoor.Sy
open Go Go.RowKit Go.Proofs.YtmacdhkfgoahcaaDoorW.PrintWords 
def code_Regs.l2 (y6304 : (List Int)) : Nat → Int → Int → Option (Int)
 | 0, _, _ => none
 | n6411 + 1, x6375, x6376 => (if x6375 < (y6304.length : Int) then (at? y6304 x6375).bind fun y6467 => code_Regs.l2 y6304 n6411 (IntKind.i64.wrap (x6375 + 1)) (if x6376 < y6467 then y6467 else x6376) else some x6376)
def code_Regs.l1 (a0 : S27) : Nat → Int → Int → Option (Int)
 | 0, _, _ => none
 | n5974 + 1, x5776, x5777 => (if x5776 < (a0.f1.length : Int) then (at? a0.f1 x5776).bind fun y6290 => (code_TermUses.f y6290.f1).bind fun (y6304 : (List Int)) => (code_Regs.l2 y6304 (y6304.length + 1) 0 x5777).bind fun (x6409 : Int) => code_Regs.l1 a0 n5974 (IntKind.i64.wrap (x5776 + 1)) x6409 else some x5777)
def code_Regs.l4 (y8834 : (List Int)) : Nat → Int → Int → Option (Int)
 | 0, _, _ => none
 | n8941 + 1, x8905, x8906 => (if x8905 < (y8834.length : Int) then (at? y8834 x8905).bind fun y8997 => code_Regs.l4 y8834 n8941 (IntKind.i64.wrap (x8905 + 1)) (if x8906 < y8997 then y8997 else x8906) else some x8906)
def code_Regs.l3 (y7163 : S37) : Nat → Int → Int → Option (Int)
 | 0, _, _ => none
 | n8179 + 1, x7843, x7844 => (if x7843 < (y7163.f0.length : Int) then (at? y7163.f0 x7843).bind fun y8703 => (code_Sets.f y8703).bind fun (y8832 : Int) => (code_Uses.f y8703).bind fun (y8834 : (List Int)) => (code_Regs.l4 y8834 (y8834.length + 1) 0 (if x7844 < y8832 then y8832 else x7844)).bind fun (x8939 : Int) => code_Regs.l3 y7163 n8179 (IntKind.i64.wrap (x7843 + 1)) x8939 else some x7844)
def code_Regs.l0 (a0 : S27) : Nat → Int → Int → Option (Int)
 | 0, _, _ => none
 | n4439 + 1, x3489, x3490 => (if x3489 < (a0.f1.length : Int) then (at? a0.f1 x3489).bind fun y7163 => (code_Regs.l3 y7163 (y7163.f0.length + 1) 0 x3490).bind fun (x8177 : Int) => code_Regs.l0 a0 n4439 (IntKind.i64.wrap (x3489 + 1)) x8177 else some x3490)
def code_Regs.f (a0 : S27) : Option Int := (code_Regs.l0 a0 (a0.f1.length + 1) 0 (if 0 < a0.f0 then a0.f0 else 0)).bind fun (x4437 : Int) => (code_Regs.l1 a0 (a0.f1.length + 1) 0 x4437).bind fun (x5972 : Int) => some x5972
def code_Regs.post (G : Gd)  (r : Int) (v : Value) (G' : Gd) (Lr : List Ch) : Prop := G = G' ∧ v = .int .i64 r ∧ Lr = []
theorem code_Regs.calls {G : Gd} {r : Int} {a0 : S27} {A1 : Option Addr} {c2 : Nat} (hr3 : Rd G k37 A1 a0.f1) (hl4 : a0.f1.length ≤ c2) (h : code_Regs.f a0 = some r) : Fn Tryd.prog 32 G [] [.agg #[.int .i64 a0.f0, .slice A1 a0.f1.length c2]] (code_Regs.post G  r) := by
 refine Fn.intro (e := [(0, .agg #[.int .i64 a0.f0, .slice A1 a0.f1.length c2])]) 53 Tryd.func32 rfl Tryd.ntmps32 rfl rfl (Nat.le_of_ble_eq_true rfl) (fun L => ?_)
 unfold code_Regs.f at h
 refine TC.new (ch := Mk []) Mk.nil ?_
 refine TC.seq ?_
 refine TC.region ?_
 refine TL.cons (TL.box (cs := [.int .i64 a0.f0, .slice A1 a0.f1.length c2]) rfl rfl rfl rfl (fun b6 => ?_))
 refine TL.cons (TO.val rfl rfl rfl (Val.assign rfl) ?_)
 refine TL.nil ?_
 refine TQ.then_ ?_
 refine TC.seq ?_
 refine TC.region ?_
 refine TL.cons (TO.val rfl rfl rfl (Val.fieldAddrB Tryd.underlying27 rfl fsz3 rfl rfl rfl) ?_)
 refine TL.cons (TO.val rfl rfl rfl (Val.loadB 0 agg3 rfl rfl rfl) ?_)
 refine TL.cons (TO.val rfl rfl rfl (Val.max2 rfl rfl) ?_)
 refine TL.cons (TL.alloc (cs := [.int .i64 0]) rfl rfl zr3 rfl (fun b7 => ?_))
 refine TL.cons (TL.store 0 (ds := [.int .i64 (if 0 < a0.f0 then a0.f0 else 0)]) (cs' := [.int .i64 (if 0 < a0.f0 then a0.f0 else 0)]) (L' := (Blk b7 [.int .i64 (if 0 < a0.f0 then a0.f0 else 0)] 3 :: Blk b6 [.int .i64 a0.f0, .slice A1 a0.f1.length c2] 27 :: Mk [] :: L)) rfl fsz3 rfl rfl rfl rfl rfl (Nat.le_of_ble_eq_true rfl) rfl rfl ?_)
 refine TL.nil ?_
 refine TQ.then_ ?_
 refine TC.seq ?_
 refine TC.seq ?_
 refine TC.region ?_
 refine TL.cons (TO.val rfl rfl rfl (Val.loadsB 1 (cs := [.int .i64 a0.f0, .slice A1 a0.f1.length c2]) agg27 fsz27 rfl rfl rfl rfl) ?_)
 refine TL.cons (TO.inl (args := [.agg #[.int .i64 a0.f0, .slice A1 a0.f1.length c2]]) (e' := [(0, .agg #[.int .i64 a0.f0, .slice A1 a0.f1.length c2])]) 4 rfl rfl hbd46 rfl rfl Tryd.func46 rfl Tryd.ntmps46 rfl rfl (Nat.le_of_ble_eq_true rfl) (fun a8 hf9 => ?_))
 refine TC.seq ?_
 refine TC.region ?_
 refine TL.cons (TL.box (cs := [.int .i64 a0.f0, .slice A1 a0.f1.length c2]) rfl rfl rfl rfl (fun b11 => ?_))
 refine TL.cons (TO.val rfl rfl rfl (Val.assign rfl) ?_)
 refine TL.nil ?_
 refine TQ.then_ ?_
 refine TC.seq ?_
 refine TC.region ?_
 refine TL.cons (TO.val rfl rfl rfl (Val.makeFunc (xs := []) (ys := [.pointer (some ⟨b11, 0, none⟩)]) rfl rfl) ?_)
 refine TL.cons (TO.val rfl rfl rfl (Val.assign rfl) ?_)
 refine TL.nil ?_
 refine TQ.then_ ?_
 refine TC.ret ?_
 refine TQ.fin (v := .func (.func 77) #[] #[.pointer (some ⟨b11, 0, none⟩)]) (.inl rfl) rfl Tryd.results46 (.tmp rfl .nil) rfl (After.mk hf9 rfl ?_)
 refine TL.nil ?_
 refine TQ.then_ ?_
 refine TC.block ?_
 refine TC.rangeFunc (e1 := fun l_ => [(0, .func (.yield l_) #[] #[]), (1, .pointer (some ⟨b11, 0, none⟩))]) 27 rfl hbd77 Tryd.func77 rfl Tryd.ntmps77 rfl (fun _ => rfl) (Nat.le_of_ble_eq_true rfl) (fun a1589 R1586 o1587 o1588 hp1590 ha1591 hb1592 hf1593 hf1594 => ?_)
 refine TC.sel (Ls := [Ob o1588 (.deferred (some [])), Mk [], Ob o1587 (LoopO R1586 .ready none), Blk b11 [.int .i64 a0.f0, .slice A1 a0.f1.length c2] 27, Blk b7 [.int .i64 (if 0 < a0.f0 then a0.f0 else 0)] 3, Blk b6 [.int .i64 a0.f0, .slice A1 a0.f1.length c2] 27]) [1, 5, 0, 2, 3, 4] 6 rfl rfl rfl ?_
 refine TC.two (ch := Mk (o1588 :: [])) Mk.cons ?_
 refine TC.seq ?_
 refine TC.region ?_
 refine TL.cons (TO.val rfl rfl rfl (Val.fieldAddrB Tryd.underlying27 rfl fsz25 rfl rfl rfl) ?_)
 refine TL.cons (TO.val rfl rfl rfl (Val.loadB 2 agg25 rfl rfl rfl) ?_)
 refine TL.cons (TO.val rfl rfl rfl (Val.len Tryd.underlying25 rfl) ?_)
 refine TL.cons (TO.val rfl rfl rfl (Val.move rfl) ?_)
 refine TL.nil ?_
 refine TQ.then_ ?_
 obtain ⟨o4438, ho4438, ko4438⟩ := bind_no h
 clear h
 refine TC.tail (fun a W => ∃ (x4437 : Int), x4437 = o4438 ∧ Fr 27 a [] ∧ Own G (Blk b11 [.int .i64 a0.f0, .slice A1 a0.f1.length c2] 27 :: Blk b6 [.int .i64 a0.f0, .slice A1 a0.f1.length c2] 27 :: Blk b7 [.int .i64 x4437] 3 :: Mk (o1588 :: []) :: Ob o1587 (LoopO R1586 .ready none) :: L) W) ?_ ?_
 ·
  rintro a W ⟨x4437, rfl, hF, hO⟩
  have h := ko4438
  clear ko4438 ho4438
  refine TQ.use ?_ hF hO
  clear hF hO
  refine TQ.fin (v := .tuple #[]) (.inr rfl) rfl Tryd.results77 .nil rfl (RangeP.normal (L' := (Blk b11 [.int .i64 a0.f0, .slice A1 a0.f1.length c2] 27 :: Blk b6 [.int .i64 a0.f0, .slice A1 a0.f1.length c2] 27 :: Blk b7 [.int .i64 x4437] 3 :: Mk (o1588 :: []) :: Emp :: L)) 4 hf1594 rfl rfl rfl ?_)
  refine TQ.inB ?_
  refine TQ.then_ ?_
  refine TC.seq ?_
  refine TC.seq ?_
  refine TC.region ?_
  refine TL.cons (TO.val rfl rfl rfl (Val.fieldAddrB Tryd.underlying27 rfl fsz25 rfl rfl rfl) ?_)
  refine TL.cons (TO.val rfl rfl rfl (Val.loadB 1 agg25 rfl rfl rfl) ?_)
  refine TL.cons (TO.val rfl rfl rfl (Val.len Tryd.underlying25 rfl) ?_)
  refine TL.cons (TO.val rfl rfl rfl (Val.move rfl) ?_)
  refine TL.nil ?_
  refine TQ.then_ ?_
  obtain ⟨o5973, ho5973, ko5973⟩ := bind_no h
  clear h
  refine TC.tail (fun a W => ∃ (x5972 : Int), x5972 = o5973 ∧ Fr (⟨53, List.map mark (o1588 :: [])⟩ : Nd) a [(3, .pointer (some ⟨b7, 0, none⟩))] ∧ Own G (Blk b7 [.int .i64 x5972] 3 :: Mk (o1588 :: []) :: L) W) ?_ ?_
  ·
   rintro a W ⟨x5972, rfl, hF, hO⟩
   have h := ko5973
   clear ko5973 ho5973
   refine TQ.use ?_ hF hO
   clear hF hO
   refine TQ.then_ ?_
   refine TC.seq ?_
   refine TC.region ?_
   refine TL.cons (TO.val rfl rfl rfl (Val.loadB 0 agg3 rfl rfl rfl) ?_)
   refine TL.cons (TO.val rfl rfl rfl (Val.assign rfl) ?_)
   refine TL.nil ?_
   refine TQ.then_ ?_
   refine TC.ret ?_
   refine TQ.finL (ds := List.map mark (o1588 :: [])) (.inl rfl) rfl (fun a_ hx6167 => ?_)
   refine Lv.marks (L' := (Blk b7 [.int .i64 x5972] 3 :: Emp :: L)) 1 rfl rfl ?_
   obtain rfl := Option.some.inj h
   exact Lv.nil hx6167 Tryd.results32 (.tmp rfl .nil) rfl (FRel.mk (Ls := []) [] 2 (Gd.le.refl _) rfl rfl rfl ⟨rfl, rfl, rfl⟩)
  ·
   refine TC.block ?_
   intro a W hF hO
   have hS : ∃ (x5776 : Int) (x5777 : Int), code_Regs.l1 a0 (a0.f1.length + 1) x5776 x5777 = some o5973 ∧ Fr (⟨53, List.map mark (o1588 :: [])⟩ : Nd) a [(3, .pointer (some ⟨b7, 0, none⟩)), (33, .slice A1 a0.f1.length c2), (34, .int .i64 (a0.f1.length : Int)), (35, .int .i64 x5776)] ∧ Own G (Blk b7 [.int .i64 x5777] 3 :: Mk (o1588 :: []) :: L) W := by
    exact ⟨0, x4437, ho5973, hF.sub ⟨rfl, rfl, rfl, rfl, trivial⟩, hO.selT (Ls := [Blk b7 [.int .i64 x4437] 3, Mk (o1588 :: [])]) [2, 3] 5 rfl rfl rfl⟩
   clear hF hO ho5973 ko5973
   refine TC.loop (fun n5974 a W => ∃ (x5776 : Int) (x5777 : Int), code_Regs.l1 a0 n5974 x5776 x5777 = some o5973 ∧ Fr (⟨53, List.map mark (o1588 :: [])⟩ : Nd) a [(3, .pointer (some ⟨b7, 0, none⟩)), (33, .slice A1 a0.f1.length c2), (34, .int .i64 (a0.f1.length : Int)), (35, .int .i64 x5776)] ∧ Own G (Blk b7 [.int .i64 x5777] 3 :: Mk (o1588 :: []) :: L) W) ?_ ?_ hS
   ·
    rintro a W ⟨x5776, x5777, h, hF, hO⟩
    exact none_no h
   ·
    clear hS
    rintro n5974 a W ⟨x5776, x5777, h, hF, hO⟩
    rw [code_Regs.l1] at h
    refine TC.use ?_ hF hO
    clear hF hO
    refine TC.seq ?_
    refine TC.region ?_
    refine TL.cons (TO.val rfl rfl rfl (Val.cmp rfl rfl run_lss) ?_)
    refine TL.nil ?_
    refine TQ.then_ ?_
    refine TC.seq ?_
    refine TC.cond_p rfl h (fun hc6169 h => ?_) (fun hc6169 h => ?_)
    ·
     refine TC.skip ?_
     refine TQ.then_ ?_
     refine TC.seq ?_
     refine TC.block ?_
     refine TC.seq ?_
     refine TC.region ?_
     obtain ⟨y6290, hx6291, h⟩ := bind_no h
     obtain ⟨ad6292, cs6298, hA6293, hi6294, hj6295, hcl6296, hK6297⟩ := Rd.at hr3 hx6291
     obtain ⟨A6299, c6300, rfl, hr6301, hl6302⟩ := k37_openR hK6297
     refine TL.cons (TO.val rfl rfl rfl (Val.indexAddr Tryd.underlying25 fsz37 rfl hA6293 rfl hi6294 hj6295) ?_)
     refine TL.cons (TO.val rfl rfl rfl (Val.loadsS (cs := [.slice A6299 y6290.f0.length c6300, .int .i64 y6290.f1.f0, .int .i64 y6290.f1.f1, .int .i64 y6290.f1.f2, .int .i64 y6290.f1.f3]) agg37 fsz37 rfl rfl (Cl.sub (off := 0) (n := 5) hcl6296 rfl)) ?_)
     refine TL.cons (TL.alloc (cs := [.slice none 0 0, .int .i64 0, .int .i64 0, .int .i64 0, .int .i64 0]) rfl rfl zr37 rfl (fun b6303 => ?_))
     refine TL.cons (TL.store 0 (ds := [.slice A6299 y6290.f0.length c6300, .int .i64 y6290.f1.f0, .int .i64 y6290.f1.f1, .int .i64 y6290.f1.f2, .int .i64 y6290.f1.f3]) (cs' := [.slice A6299 y6290.f0.length c6300, .int .i64 y6290.f1.f0, .int .i64 y6290.f1.f1, .int .i64 y6290.f1.f2, .int .i64 y6290.f1.f3]) (L' := (Blk b6303 [.slice A6299 y6290.f0.length c6300, .int .i64 y6290.f1.f0, .int .i64 y6290.f1.f1, .int .i64 y6290.f1.f2, .int .i64 y6290.f1.f3] 37 :: Blk b7 [.int .i64 x5777] 3 :: Mk (o1588 :: []) :: L)) rfl fsz37 rfl rfl rfl rfl rfl (Nat.le_of_ble_eq_true rfl) rfl rfl ?_)
     refine TL.nil ?_
     refine TQ.then_ ?_
     refine TC.seq ?_
     refine TC.region ?_
     refine TL.cons (TO.val rfl rfl rfl (Val.fieldAddrB Tryd.underlying37 rfl fsz35 rfl rfl rfl) ?_)
     refine TL.cons (TO.val rfl rfl rfl (Val.loadsB 0 (cs := [.int .i64 y6290.f1.f0, .int .i64 y6290.f1.f1, .int .i64 y6290.f1.f2, .int .i64 y6290.f1.f3]) agg35 fsz35 rfl rfl rfl rfl) ?_)
     obtain ⟨y6304, hy6305, h⟩ := bind_no h
     refine TL.cons (TL.callV (Lin := []) (args := [.agg #[.int .i64 y6290.f1.f0, .int .i64 y6290.f1.f1, .int .i64 y6290.f1.f2, .int .i64 y6290.f1.f3]]) rfl rfl rfl hbd22 rfl rfl (code_TermUses.calls (a0 := y6290.f1) hy6305) rfl ?_)
     rintro _ _ _ _ ⟨rfl, A6306, c6307, rfl, rfl⟩
     refine TL.cons (TO.val rfl rfl rfl (Val.len Tryd.underlying38 rfl) ?_)
     refine TL.cons (TO.val rfl rfl rfl (Val.move rfl) ?_)
     refine TL.nil ?_
     refine TQ.then_ ?_
     obtain ⟨o6410, ho6410, ko6410⟩ := bind_no h
     clear h
     refine TC.tail (fun a W => ∃ (x6409 : Int), x6409 = o6410 ∧ Fr (⟨53, List.map mark (o1588 :: [])⟩ : Nd) a [(3, .pointer (some ⟨b7, 0, none⟩)), (33, .slice A1 a0.f1.length c2), (34, .int .i64 (a0.f1.length : Int)), (35, .int .i64 x5776)] ∧ Own G (Blk b7 [.int .i64 x6409] 3 :: Mk (o1588 :: []) :: L) W) ?_ ?_
     ·
      rintro a W ⟨x6409, rfl, hF, hO⟩
      have h := ko6410
      clear ko6410 ho6410
      refine TQ.use ?_ hF hO
      clear hF hO
      refine TQ.inB ?_
      refine TQ.then_ ?_
      refine TC.region ?_
      refine TL.cons (TO.val rfl rfl rfl (Val.cmp rfl rfl run_add) ?_)
      refine TL.cons (TO.val rfl rfl rfl (Val.move rfl) ?_)
      refine TL.nil ?_
      exact fun a W hF hO => ⟨IntKind.i64.wrap (x5776 + 1), x6409, h, hF.sub ⟨rfl, rfl, rfl, rfl, trivial⟩, hO.selT (Ls := [Blk b7 [.int .i64 x6409] 3, Mk (o1588 :: [])]) [0, 1] 2 rfl rfl rfl⟩
     ·
      refine TC.block ?_
      intro a W hF hO
      have hS : ∃ (x6375 : Int) (x6376 : Int), code_Regs.l2 y6304 (y6304.length + 1) x6375 x6376 = some o6410 ∧ Fr (⟨53, List.map mark (o1588 :: [])⟩ : Nd) a [(3, .pointer (some ⟨b7, 0, none⟩)), (33, .slice A1 a0.f1.length c2), (34, .int .i64 (a0.f1.length : Int)), (35, .int .i64 x5776), (41, .slice A6306 y6304.length c6307), (42, .int .i64 (y6304.length : Int)), (43, .int .i64 x6375)] ∧ Own G (Blk b7 [.int .i64 x6376] 3 :: Mk (o1588 :: []) :: Row (Kd.int .i64) 3 (.slice A6306 y6304.length c6307) y6304 :: L) W := by
       exact ⟨0, x5777, ho6410, hF.sub ⟨rfl, rfl, rfl, rfl, rfl, rfl, rfl, trivial⟩, hO.selT (Ls := [Blk b7 [.int .i64 x5777] 3, Mk (o1588 :: []), Row (Kd.int .i64) 3 (.slice A6306 y6304.length c6307) y6304]) [2, 3, 0] 4 rfl rfl rfl⟩
      clear hF hO ho6410 ko6410
      refine TC.loop (fun n6411 a W => ∃ (x6375 : Int) (x6376 : Int), code_Regs.l2 y6304 n6411 x6375 x6376 = some o6410 ∧ Fr (⟨53, List.map mark (o1588 :: [])⟩ : Nd) a [(3, .pointer (some ⟨b7, 0, none⟩)), (33, .slice A1 a0.f1.length c2), (34, .int .i64 (a0.f1.length : Int)), (35, .int .i64 x5776), (41, .slice A6306 y6304.length c6307), (42, .int .i64 (y6304.length : Int)), (43, .int .i64 x6375)] ∧ Own G (Blk b7 [.int .i64 x6376] 3 :: Mk (o1588 :: []) :: Row (Kd.int .i64) 3 (.slice A6306 y6304.length c6307) y6304 :: L) W) ?_ ?_ hS
      ·
       rintro a W ⟨x6375, x6376, h, hF, hO⟩
       exact none_no h
      ·
       clear hS
       rintro n6411 a W ⟨x6375, x6376, h, hF, hO⟩
       rw [code_Regs.l2] at h
       refine TC.use ?_ hF hO
       clear hF hO
       refine TC.seq ?_
       refine TC.region ?_
       refine TL.cons (TO.val rfl rfl rfl (Val.cmp rfl rfl run_lss) ?_)
       refine TL.nil ?_
       refine TQ.then_ ?_
       refine TC.seq ?_
       refine TC.cond_p rfl h (fun hc6445 h => ?_) (fun hc6445 h => ?_)
       ·
        refine TC.skip ?_
        refine TQ.then_ ?_
        refine TC.seq ?_
        refine TC.block ?_
        refine TC.seq ?_
        refine TC.region ?_
        refine TK.sel (Ls := [Row (Kd.int .i64) 3 (.slice A6306 y6304.length c6307) y6304, Blk b7 [.int .i64 x6376] 3, Mk (o1588 :: [])]) [2, 0, 1] 3 rfl rfl rfl ?_
        refine TK.share (fun G6461 e6462 hs6463 hb6464 => ?_)
        have rd6465 : Rd G6461 (Kd.int .i64) A6306 y6304 := Rd.row hs6463
        have le6466 : y6304.length ≤ c6307 := Row.le hs6463
        obtain ⟨y6467, hx6468, h⟩ := bind_no h
        obtain ⟨ad6469, cs6475, hA6470, hi6471, hj6472, hcl6473, hK6474⟩ := Rd.at rd6465 hx6468
        obtain rfl := RdK.int hK6474
        refine TL.cons (TO.val rfl rfl rfl (Val.indexAddr Tryd.underlying38 fsz3 rfl hA6470 rfl hi6471 hj6472) ?_)
        refine TL.cons (TO.val rfl rfl rfl (Val.loadS agg3 rfl (hcl6473 0 _ rfl)) ?_)
        refine TL.cons (TO.val rfl rfl rfl (Val.assign rfl) ?_)
        refine TL.nil ?_
        refine TQ.then_ ?_
        refine TC.region ?_
        refine TL.cons (TO.val rfl rfl rfl (Val.loadB 0 agg3 rfl rfl rfl) ?_)
        refine TL.cons (TO.val rfl rfl rfl (Val.move rfl) ?_)
        refine TL.cons (TO.val rfl rfl rfl (Val.max2 rfl rfl) ?_)
        refine TL.cons (TL.store 0 (ds := [.int .i64 (if x6376 < y6467 then y6467 else x6376)]) (cs' := [.int .i64 (if x6376 < y6467 then y6467 else x6376)]) (L' := (Blk b7 [.int .i64 (if x6376 < y6467 then y6467 else x6376)] 3 :: Mk (o1588 :: []) :: L)) rfl fsz3 rfl rfl rfl rfl rfl (Nat.le_of_ble_eq_true rfl) rfl rfl ?_)
        refine TL.nil ?_
        refine TQ.inB ?_
        refine TQ.then_ ?_
        refine TC.region ?_
        refine TL.cons (TO.val rfl rfl rfl (Val.cmp rfl rfl run_add) ?_)
        refine TL.cons (TO.val rfl rfl rfl (Val.move rfl) ?_)
        refine TL.nil ?_
        refine TQ.back hb6464 ?_
        exact fun a W hF hO => ⟨IntKind.i64.wrap (x6375 + 1), (if x6376 < y6467 then y6467 else x6376), h, hF.sub ⟨rfl, rfl, rfl, rfl, rfl, rfl, rfl, trivial⟩, hO.selT (Ls := [Blk b7 [.int .i64 (if x6376 < y6467 then y6467 else x6376)] 3, Mk (o1588 :: []), Row (Kd.int .i64) 3 (.slice A6306 y6304.length c6307) y6304]) [1, 2, 0] 3 rfl rfl rfl⟩
       ·
        refine TC.exit ?_
        refine TQ.thenX ?_
        refine TQ.thenX ?_
        refine TQ.inBX ?_
        exact fun a W hF hO => ⟨x6376, Option.some.inj h, hF.sub ⟨rfl, rfl, rfl, rfl, trivial⟩, hO.selT (Ls := [Blk b7 [.int .i64 x6376] 3, Mk (o1588 :: [])]) [0, 1] 3 rfl rfl rfl⟩
    ·
     refine TC.exit ?_
     refine TQ.thenX ?_
     refine TQ.thenX ?_
     refine TQ.inBX ?_
     exact fun a W hF hO => ⟨x5777, Option.some.inj h, hF.sub ⟨rfl, trivial⟩, hO.selT (Ls := [Blk b7 [.int .i64 x5777] 3, Mk (o1588 :: [])]) [0, 1] 2 rfl rfl rfl⟩
 ·
  refine TC.block ?_
  intro a W hF hO
  have hS : ∃ (x3489 : Int) (x3490 : Int), code_Regs.l0 a0 (a0.f1.length + 1) x3489 x3490 = some o4438 ∧ Fr 27 a [(0, .func (.yield o1587) #[] #[]), (8, .slice A1 a0.f1.length c2), (9, .int .i64 (a0.f1.length : Int)), (10, .int .i64 x3489)] ∧ Own G (Blk b11 [.int .i64 a0.f0, .slice A1 a0.f1.length c2] 27 :: Blk b6 [.int .i64 a0.f0, .slice A1 a0.f1.length c2] 27 :: Blk b7 [.int .i64 x3490] 3 :: Mk (o1588 :: []) :: Ob o1587 (LoopO R1586 .ready none) :: L) W := by
   exact ⟨0, (if 0 < a0.f0 then a0.f0 else 0), ho4438, hF.sub ⟨rfl, rfl, rfl, rfl, trivial⟩, hO.selT (Ls := [Blk b11 [.int .i64 a0.f0, .slice A1 a0.f1.length c2] 27, Blk b6 [.int .i64 a0.f0, .slice A1 a0.f1.length c2] 27, Blk b7 [.int .i64 (if 0 < a0.f0 then a0.f0 else 0)] 3, Mk (o1588 :: []), Ob o1587 (LoopO R1586 .ready none)]) [2, 4, 3, 0, 1] 5 rfl rfl rfl⟩
  clear hF hO ho4438 ko4438
  refine TC.loop (fun n4439 a W => ∃ (x3489 : Int) (x3490 : Int), code_Regs.l0 a0 n4439 x3489 x3490 = some o4438 ∧ Fr 27 a [(0, .func (.yield o1587) #[] #[]), (8, .slice A1 a0.f1.length c2), (9, .int .i64 (a0.f1.length : Int)), (10, .int .i64 x3489)] ∧ Own G (Blk b11 [.int .i64 a0.f0, .slice A1 a0.f1.length c2] 27 :: Blk b6 [.int .i64 a0.f0, .slice A1 a0.f1.length c2] 27 :: Blk b7 [.int .i64 x3490] 3 :: Mk (o1588 :: []) :: Ob o1587 (LoopO R1586 .ready none) :: L) W) ?_ ?_ hS
  ·
   rintro a W ⟨x3489, x3490, h, hF, hO⟩
   exact none_no h
  ·
   clear hS
   rintro n4439 a W ⟨x3489, x3490, h, hF, hO⟩
   rw [code_Regs.l0] at h
   refine TC.use ?_ hF hO
   clear hF hO
   refine TC.seq ?_
   refine TC.region ?_
   refine TL.cons (TO.val rfl rfl rfl (Val.cmp rfl rfl run_lss) ?_)
   refine TL.nil ?_
   refine TQ.then_ ?_
   refine TC.seq ?_
   refine TC.cond_p rfl h (fun hc6477 h => ?_) (fun hc6477 h => ?_)
   ·
    refine TC.skip ?_
    refine TQ.then_ ?_
    refine TC.seq ?_
    refine TC.block ?_
    refine TC.seq ?_
    refine TC.region ?_
    obtain ⟨y7163, hx7164, h⟩ := bind_no h
    obtain ⟨ad7165, cs7171, hA7166, hi7167, hj7168, hcl7169, hK7170⟩ := Rd.at hr3 hx7164
    obtain ⟨A7172, c7173, rfl, hr7174, hl7175⟩ := k37_openR hK7170
    refine TL.cons (TO.val rfl rfl rfl (Val.indexAddr Tryd.underlying25 fsz37 rfl hA7166 rfl hi7167 hj7168) ?_)
    refine TL.cons (TO.val rfl rfl rfl (Val.loadsS (cs := [.slice A7172 y7163.f0.length c7173, .int .i64 y7163.f1.f0, .int .i64 y7163.f1.f1, .int .i64 y7163.f1.f2, .int .i64 y7163.f1.f3]) agg37 fsz37 rfl rfl (Cl.sub (off := 0) (n := 5) hcl7169 rfl)) ?_)
    refine TL.cons (TL.alloc (cs := [.slice none 0 0, .int .i64 0, .int .i64 0, .int .i64 0, .int .i64 0]) rfl rfl zr37 rfl (fun b7176 => ?_))
    refine TL.cons (TL.store 0 (ds := [.slice A7172 y7163.f0.length c7173, .int .i64 y7163.f1.f0, .int .i64 y7163.f1.f1, .int .i64 y7163.f1.f2, .int .i64 y7163.f1.f3]) (cs' := [.slice A7172 y7163.f0.length c7173, .int .i64 y7163.f1.f0, .int .i64 y7163.f1.f1, .int .i64 y7163.f1.f2, .int .i64 y7163.f1.f3]) (L' := (Blk b7176 [.slice A7172 y7163.f0.length c7173, .int .i64 y7163.f1.f0, .int .i64 y7163.f1.f1, .int .i64 y7163.f1.f2, .int .i64 y7163.f1.f3] 37 :: Blk b11 [.int .i64 a0.f0, .slice A1 a0.f1.length c2] 27 :: Blk b6 [.int .i64 a0.f0, .slice A1 a0.f1.length c2] 27 :: Blk b7 [.int .i64 x3490] 3 :: Mk (o1588 :: []) :: Ob o1587 (LoopO R1586 .ready none) :: L)) rfl fsz37 rfl rfl rfl rfl rfl (Nat.le_of_ble_eq_true rfl) rfl rfl ?_)
    refine TL.nil ?_
    refine TQ.then_ ?_
    refine TC.seq ?_
    refine TC.region ?_
    refine TL.cons (TO.val rfl rfl rfl (Val.fieldAddrB Tryd.underlying37 rfl fsz33 rfl rfl rfl) ?_)
    refine TL.cons (TO.val rfl rfl rfl (Val.loadB 0 agg33 rfl rfl rfl) ?_)
    refine TL.cons (TO.val rfl rfl rfl (Val.len Tryd.underlying33 rfl) ?_)
    refine TL.cons (TO.val rfl rfl rfl (Val.move rfl) ?_)
    refine TL.nil ?_
    refine TQ.then_ ?_
    obtain ⟨o8178, ho8178, ko8178⟩ := bind_no h
    clear h
    refine TC.tail (fun a W => ∃ (x8177 : Int), x8177 = o8178 ∧ Fr 27 a [(0, .func (.yield o1587) #[] #[]), (8, .slice A1 a0.f1.length c2), (9, .int .i64 (a0.f1.length : Int)), (10, .int .i64 x3489)] ∧ Own G (Blk b11 [.int .i64 a0.f0, .slice A1 a0.f1.length c2] 27 :: Blk b6 [.int .i64 a0.f0, .slice A1 a0.f1.length c2] 27 :: Blk b7 [.int .i64 x8177] 3 :: Mk (o1588 :: []) :: Ob o1587 (LoopO R1586 .ready none) :: L) W) ?_ ?_
    ·
     rintro a W ⟨x8177, rfl, hF, hO⟩
     have h := ko8178
     clear ko8178 ho8178
     refine TQ.use ?_ hF hO
     clear hF hO
     refine TQ.inB ?_
     refine TQ.then_ ?_
     refine TC.region ?_
     refine TL.cons (TO.val rfl rfl rfl (Val.cmp rfl rfl run_add) ?_)
     refine TL.cons (TO.val rfl rfl rfl (Val.move rfl) ?_)
     refine TL.nil ?_
     exact fun a W hF hO => ⟨IntKind.i64.wrap (x3489 + 1), x8177, h, hF.sub ⟨rfl, rfl, rfl, rfl, trivial⟩, hO.selT (Ls := [Blk b11 [.int .i64 a0.f0, .slice A1 a0.f1.length c2] 27, Blk b6 [.int .i64 a0.f0, .slice A1 a0.f1.length c2] 27, Blk b7 [.int .i64 x8177] 3, Mk (o1588 :: []), Ob o1587 (LoopO R1586 .ready none)]) [0, 1, 2, 3, 4] 5 rfl rfl rfl⟩
    ·
     refine TC.block ?_
     intro a W hF hO
     have hS : ∃ (x7843 : Int) (x7844 : Int), code_Regs.l3 y7163 (y7163.f0.length + 1) x7843 x7844 = some o8178 ∧ Fr 27 a [(0, .func (.yield o1587) #[] #[]), (8, .slice A1 a0.f1.length c2), (9, .int .i64 (a0.f1.length : Int)), (10, .int .i64 x3489), (15, .slice A7172 y7163.f0.length c7173), (16, .int .i64 (y7163.f0.length : Int)), (17, .int .i64 x7843)] ∧ Own G (Blk b11 [.int .i64 a0.f0, .slice A1 a0.f1.length c2] 27 :: Blk b6 [.int .i64 a0.f0, .slice A1 a0.f1.length c2] 27 :: Blk b7 [.int .i64 x7844] 3 :: Mk (o1588 :: []) :: Ob o1587 (LoopO R1586 .ready none) :: L) W := by
      exact ⟨0, x3490, ho8178, hF.sub ⟨rfl, rfl, rfl, rfl, rfl, rfl, rfl, trivial⟩, hO.selT (Ls := [Blk b11 [.int .i64 a0.f0, .slice A1 a0.f1.length c2] 27, Blk b6 [.int .i64 a0.f0, .slice A1 a0.f1.length c2] 27, Blk b7 [.int .i64 x3490] 3, Mk (o1588 :: []), Ob o1587 (LoopO R1586 .ready none)]) [1, 2, 3, 4, 5] 6 rfl rfl rfl⟩
     clear hF hO ho8178 ko8178
     refine TC.loop (fun n8179 a W => ∃ (x7843 : Int) (x7844 : Int), code_Regs.l3 y7163 n8179 x7843 x7844 = some o8178 ∧ Fr 27 a [(0, .func (.yield o1587) #[] #[]), (8, .slice A1 a0.f1.length c2), (9, .int .i64 (a0.f1.length : Int)), (10, .int .i64 x3489), (15, .slice A7172 y7163.f0.length c7173), (16, .int .i64 (y7163.f0.length : Int)), (17, .int .i64 x7843)] ∧ Own G (Blk b11 [.int .i64 a0.f0, .slice A1 a0.f1.length c2] 27 :: Blk b6 [.int .i64 a0.f0, .slice A1 a0.f1.length c2] 27 :: Blk b7 [.int .i64 x7844] 3 :: Mk (o1588 :: []) :: Ob o1587 (LoopO R1586 .ready none) :: L) W) ?_ ?_ hS
     ·
      rintro a W ⟨x7843, x7844, h, hF, hO⟩
      exact none_no h
     ·
      clear hS
      rintro n8179 a W ⟨x7843, x7844, h, hF, hO⟩
      rw [code_Regs.l3] at h
      refine TC.use ?_ hF hO
      clear hF hO
      refine TC.seq ?_
      refine TC.region ?_
      refine TL.cons (TO.val rfl rfl rfl (Val.cmp rfl rfl run_lss) ?_)
      refine TL.nil ?_
      refine TQ.then_ ?_
      refine TC.seq ?_
      refine TC.cond_p rfl h (fun hc8513 h => ?_) (fun hc8513 h => ?_)
      ·
       refine TC.skip ?_
       refine TQ.then_ ?_
       refine TC.seq ?_
       refine TC.block ?_
       refine TC.seq ?_
       refine TC.region ?_
       obtain ⟨y8703, hx8704, h⟩ := bind_no h
       obtain ⟨ad8705, cs8711, hA8706, hi8707, hj8708, hcl8709, hK8710⟩ := Rd.at hr7174 hx8704
       obtain ⟨A8712, c8713, rfl, hr8714, hl8715⟩ := k40_openR hK8710
       refine TL.cons (TO.val rfl rfl rfl (Val.indexAddr Tryd.underlying33 fsz40 rfl hA8706 rfl hi8707 hj8708) ?_)
       refine TL.cons (TO.val rfl rfl rfl (Val.loadsS (cs := [.int .i64 y8703.f0, .int .i64 y8703.f1, .int .i64 y8703.f2, .int .i64 y8703.f3, .int .i64 y8703.f4, .slice A8712 y8703.f5.length c8713]) agg40 fsz40 rfl rfl (Cl.sub (off := 0) (n := 6) hcl8709 rfl)) ?_)
       refine TL.cons (TL.alloc (cs := [.int .i64 0, .int .i64 0, .int .i64 0, .int .i64 0, .int .i64 0, .slice none 0 0]) rfl rfl zr40 rfl (fun b8716 => ?_))
       refine TL.cons (TL.store 0 (ds := [.int .i64 y8703.f0, .int .i64 y8703.f1, .int .i64 y8703.f2, .int .i64 y8703.f3, .int .i64 y8703.f4, .slice A8712 y8703.f5.length c8713]) (cs' := [.int .i64 y8703.f0, .int .i64 y8703.f1, .int .i64 y8703.f2, .int .i64 y8703.f3, .int .i64 y8703.f4, .slice A8712 y8703.f5.length c8713]) (L' := (Blk b8716 [.int .i64 y8703.f0, .int .i64 y8703.f1, .int .i64 y8703.f2, .int .i64 y8703.f3, .int .i64 y8703.f4, .slice A8712 y8703.f5.length c8713] 40 :: Blk b11 [.int .i64 a0.f0, .slice A1 a0.f1.length c2] 27 :: Blk b6 [.int .i64 a0.f0, .slice A1 a0.f1.length c2] 27 :: Blk b7 [.int .i64 x7844] 3 :: Mk (o1588 :: []) :: Ob o1587 (LoopO R1586 .ready none) :: L)) rfl fsz40 rfl rfl rfl rfl rfl (Nat.le_of_ble_eq_true rfl) rfl rfl ?_)
       refine TL.nil ?_
       refine TQ.then_ ?_
       refine TC.seq ?_
       refine TC.region ?_
       refine TL.cons (TO.val rfl rfl rfl (Val.move rfl) ?_)
       refine TL.cons (TO.val rfl rfl rfl (Val.loadsB 0 (cs := [.int .i64 y8703.f0, .int .i64 y8703.f1, .int .i64 y8703.f2, .int .i64 y8703.f3, .int .i64 y8703.f4, .slice A8712 y8703.f5.length c8713]) agg40 fsz40 rfl rfl rfl rfl) ?_)
       refine TL.cons (TO.yield 5 rfl rfl rfl rfl hp1590 ha1591 hb1592 rfl hf1593 rfl rfl (fun a8717 hf8718 => ?_))
       refine TC.region ?_
       refine TL.cons (TL.alloc (cs := [.int .i64 0, .int .i64 0, .int .i64 0, .int .i64 0, .int .i64 0, .slice none 0 0]) rfl rfl zr40 rfl (fun b8719 => ?_))
       refine TL.cons (TL.store 0 (ds := [.int .i64 y8703.f0, .int .i64 y8703.f1, .int .i64 y8703.f2, .int .i64 y8703.f3, .int .i64 y8703.f4, .slice A8712 y8703.f5.length c8713]) (cs' := [.int .i64 y8703.f0, .int .i64 y8703.f1, .int .i64 y8703.f2, .int .i64 y8703.f3, .int .i64 y8703.f4, .slice A8712 y8703.f5.length c8713]) (L' := (Blk b8719 [.int .i64 y8703.f0, .int .i64 y8703.f1, .int .i64 y8703.f2, .int .i64 y8703.f3, .int .i64 y8703.f4, .slice A8712 y8703.f5.length c8713] 40 :: Blk b8716 [.int .i64 y8703.f0, .int .i64 y8703.f1, .int .i64 y8703.f2, .int .i64 y8703.f3, .int .i64 y8703.f4, .slice A8712 y8703.f5.length c8713] 40 :: Blk b11 [.int .i64 a0.f0, .slice A1 a0.f1.length c2] 27 :: Blk b6 [.int .i64 a0.f0, .slice A1 a0.f1.length c2] 27 :: Blk b7 [.int .i64 x7844] 3 :: Mk (o1588 :: []) :: Ob o1587 (LoopO R1586 .ready none) :: L)) rfl fsz40 rfl rfl rfl rfl rfl (Nat.le_of_ble_eq_true rfl) rfl rfl ?_)
       refine TL.nil ?_
       refine TQ.begin (L' := (Blk b8719 [.int .i64 y8703.f0, .int .i64 y8703.f1, .int .i64 y8703.f2, .int .i64 y8703.f3, .int .i64 y8703.f4, .slice A8712 y8703.f5.length c8713] 40 :: Blk b8716 [.int .i64 y8703.f0, .int .i64 y8703.f1, .int .i64 y8703.f2, .int .i64 y8703.f3, .int .i64 y8703.f4, .slice A8712 y8703.f5.length c8713] 40 :: Blk b11 [.int .i64 a0.f0, .slice A1 a0.f1.length c2] 27 :: Blk b6 [.int .i64 a0.f0, .slice A1 a0.f1.length c2] 27 :: Blk b7 [.int .i64 x7844] 3 :: Mk (o1588 :: []) :: Ob o1587 (LoopO R1586 .busy none) :: L)) 6 rfl rfl ?_
       refine TC.block ?_
       refine TC.seq ?_
       refine TC.regionAny [4] [0, 1, 3] mixed (by kernel_rfl) ?_
       refine TA.take 0 rfl (by kernel_rfl) rfl (PQ.then_ (PQ.inB PQ.round)) rfl (Val.loadB 4 agg3 rfl rfl rfl) (fun W hO => hO) ?_
       refine TA.take 1 rfl (by kernel_rfl) rfl (PQ.then_ (PQ.inB PQ.round)) rfl (Val.loadsB 0 (cs := [.int .i64 y8703.f0, .int .i64 y8703.f1, .int .i64 y8703.f2, .int .i64 y8703.f3, .int .i64 y8703.f4, .slice A8712 y8703.f5.length c8713]) agg40 fsz40 rfl rfl rfl rfl) (fun W hO => hO) ?_
       obtain ⟨y8832, hy8833, h⟩ := bind_no h
       refine TA.eff 2 rfl (by kernel_rfl) rfl (TL.callV (Lin := []) (args := [.agg #[.int .i64 y8703.f0, .int .i64 y8703.f1, .int .i64 y8703.f2, .int .i64 y8703.f3, .int .i64 y8703.f4, .slice A8712 y8703.f5.length c8713]]) rfl rfl rfl hbd18 rfl rfl (code_Sets.calls (a0 := y8703) hr8714 hl8715 hy8833) rfl ?_)
       rintro _ _ _ _ ⟨rfl, rfl, rfl⟩
       refine TA.next (fun W hO => hO) ?_
       refine TA.take 3 rfl (by kernel_rfl) rfl (PQ.then_ (PQ.inB PQ.round)) rfl (Val.max2 rfl rfl) (fun W hO => hO) ?_
       refine TA.eff 4 rfl (by kernel_rfl) rfl (TL.store 4 (ds := [.int .i64 (if x7844 < y8832 then y8832 else x7844)]) (cs' := [.int .i64 (if x7844 < y8832 then y8832 else x7844)]) (L' := (Blk b8719 [.int .i64 y8703.f0, .int .i64 y8703.f1, .int .i64 y8703.f2, .int .i64 y8703.f3, .int .i64 y8703.f4, .slice A8712 y8703.f5.length c8713] 40 :: Blk b8716 [.int .i64 y8703.f0, .int .i64 y8703.f1, .int .i64 y8703.f2, .int .i64 y8703.f3, .int .i64 y8703.f4, .slice A8712 y8703.f5.length c8713] 40 :: Blk b11 [.int .i64 a0.f0, .slice A1 a0.f1.length c2] 27 :: Blk b6 [.int .i64 a0.f0, .slice A1 a0.f1.length c2] 27 :: Blk b7 [.int .i64 (if x7844 < y8832 then y8832 else x7844)] 3 :: Mk (o1588 :: []) :: Ob o1587 (LoopO R1586 .busy none) :: L)) rfl fsz3 rfl rfl rfl rfl rfl (Nat.le_of_ble_eq_true rfl) rfl rfl ?_)
       refine TA.last rfl ?_
       refine TA.done (by kernel_rfl) ?_
       refine TQ.then_ ?_
       refine TC.seq ?_
       refine TC.region ?_
       refine TL.cons (TO.val rfl rfl rfl (Val.loadsB 0 (cs := [.int .i64 y8703.f0, .int .i64 y8703.f1, .int .i64 y8703.f2, .int .i64 y8703.f3, .int .i64 y8703.f4, .slice A8712 y8703.f5.length c8713]) agg40 fsz40 rfl rfl rfl rfl) ?_)
       obtain ⟨y8834, hy8835, h⟩ := bind_no h
       refine TL.cons (TL.callV (Lin := []) (args := [.agg #[.int .i64 y8703.f0, .int .i64 y8703.f1, .int .i64 y8703.f2, .int .i64 y8703.f3, .int .i64 y8703.f4, .slice A8712 y8703.f5.length c8713]]) rfl rfl rfl hbd19 rfl rfl (code_Uses.calls (a0 := y8703) hr8714 hl8715 hy8835) rfl ?_)
       rintro _ _ _ _ ⟨rfl, A8836, c8837, rfl, rfl⟩
       refine TL.cons (TO.val rfl rfl rfl (Val.len Tryd.underlying38 rfl) ?_)
       refine TL.cons (TO.val rfl rfl rfl (Val.move rfl) ?_)
       refine TL.nil ?_
       refine TQ.then_ ?_
       obtain ⟨o8940, ho8940, ko8940⟩ := bind_no h
       clear h
       refine TC.tail (fun a W => ∃ (x8939 : Int), x8939 = o8940 ∧ Fr 53 a [] ∧ Own G (Blk b11 [.int .i64 a0.f0, .slice A1 a0.f1.length c2] 27 :: Blk b6 [.int .i64 a0.f0, .slice A1 a0.f1.length c2] 27 :: Blk b7 [.int .i64 x8939] 3 :: Blk b8716 [.int .i64 y8703.f0, .int .i64 y8703.f1, .int .i64 y8703.f2, .int .i64 y8703.f3, .int .i64 y8703.f4, .slice A8712 y8703.f5.length c8713] 40 :: Mk (o1588 :: []) :: Ob o1587 (LoopO R1586 .busy none) :: L) W) ?_ ?_
       ·
        rintro a W ⟨x8939, rfl, hF, hO⟩
        have h := ko8940
        clear ko8940 ho8940
        refine TQ.use ?_ hF hO
        clear hF hO
        refine TQ.inB ?_
        refine TQ.roundN (L' := (Blk b11 [.int .i64 a0.f0, .slice A1 a0.f1.length c2] 27 :: Blk b6 [.int .i64 a0.f0, .slice A1 a0.f1.length c2] 27 :: Blk b7 [.int .i64 x8939] 3 :: Blk b8716 [.int .i64 y8703.f0, .int .i64 y8703.f1, .int .i64 y8703.f2, .int .i64 y8703.f3, .int .i64 y8703.f4, .slice A8712 y8703.f5.length c8713] 40 :: Mk (o1588 :: []) :: Ob o1587 (LoopO R1586 .ready none) :: L)) 5 rfl rfl (After.mk hf8718 rfl ?_)
        refine TL.cons (TO.val rfl rfl rfl (Val.not_ rfl) ?_)
        refine TL.nil ?_
        refine TQ.then_ ?_
        refine TC.condF rfl ?_
        refine TC.skip ?_
        refine TQ.inB ?_
        refine TQ.then_ ?_
        refine TC.region ?_
        refine TL.cons (TO.val rfl rfl rfl (Val.cmp rfl rfl run_add) ?_)
        refine TL.cons (TO.val rfl rfl rfl (Val.move rfl) ?_)
        refine TL.nil ?_
        exact fun a W hF hO => ⟨IntKind.i64.wrap (x7843 + 1), x8939, h, hF.sub ⟨rfl, rfl, rfl, rfl, rfl, rfl, rfl, trivial⟩, hO.selT (Ls := [Blk b11 [.int .i64 a0.f0, .slice A1 a0.f1.length c2] 27, Blk b6 [.int .i64 a0.f0, .slice A1 a0.f1.length c2] 27, Blk b7 [.int .i64 x8939] 3, Mk (o1588 :: []), Ob o1587 (LoopO R1586 .ready none)]) [0, 1, 2, 4, 5] 6 rfl rfl rfl⟩
       ·
        refine TC.block ?_
        intro a W hF hO
        have hS : ∃ (x8905 : Int) (x8906 : Int), code_Regs.l4 y8834 (y8834.length + 1) x8905 x8906 = some o8940 ∧ Fr 53 a [(3, .pointer (some ⟨b7, 0, none⟩)), (22, .slice A8836 y8834.length c8837), (23, .int .i64 (y8834.length : Int)), (24, .int .i64 x8905)] ∧ Own G (Blk b11 [.int .i64 a0.f0, .slice A1 a0.f1.length c2] 27 :: Blk b6 [.int .i64 a0.f0, .slice A1 a0.f1.length c2] 27 :: Blk b7 [.int .i64 x8906] 3 :: Blk b8716 [.int .i64 y8703.f0, .int .i64 y8703.f1, .int .i64 y8703.f2, .int .i64 y8703.f3, .int .i64 y8703.f4, .slice A8712 y8703.f5.length c8713] 40 :: Mk (o1588 :: []) :: Ob o1587 (LoopO R1586 .busy none) :: Row (Kd.int .i64) 3 (.slice A8836 y8834.length c8837) y8834 :: L) W := by
         exact ⟨0, (if x7844 < y8832 then y8832 else x7844), ho8940, hF.sub ⟨rfl, rfl, rfl, rfl, trivial⟩, hO.selT (Ls := [Blk b11 [.int .i64 a0.f0, .slice A1 a0.f1.length c2] 27, Blk b6 [.int .i64 a0.f0, .slice A1 a0.f1.length c2] 27, Blk b7 [.int .i64 (if x7844 < y8832 then y8832 else x7844)] 3, Blk b8716 [.int .i64 y8703.f0, .int .i64 y8703.f1, .int .i64 y8703.f2, .int .i64 y8703.f3, .int .i64 y8703.f4, .slice A8712 y8703.f5.length c8713] 40, Mk (o1588 :: []), Ob o1587 (LoopO R1586 .busy none), Row (Kd.int .i64) 3 (.slice A8836 y8834.length c8837) y8834]) [3, 4, 5, 2, 6, 7, 0] 8 rfl rfl rfl⟩
        clear hF hO ho8940 ko8940
        refine TC.loop (fun n8941 a W => ∃ (x8905 : Int) (x8906 : Int), code_Regs.l4 y8834 n8941 x8905 x8906 = some o8940 ∧ Fr 53 a [(3, .pointer (some ⟨b7, 0, none⟩)), (22, .slice A8836 y8834.length c8837), (23, .int .i64 (y8834.length : Int)), (24, .int .i64 x8905)] ∧ Own G (Blk b11 [.int .i64 a0.f0, .slice A1 a0.f1.length c2] 27 :: Blk b6 [.int .i64 a0.f0, .slice A1 a0.f1.length c2] 27 :: Blk b7 [.int .i64 x8906] 3 :: Blk b8716 [.int .i64 y8703.f0, .int .i64 y8703.f1, .int .i64 y8703.f2, .int .i64 y8703.f3, .int .i64 y8703.f4, .slice A8712 y8703.f5.length c8713] 40 :: Mk (o1588 :: []) :: Ob o1587 (LoopO R1586 .busy none) :: Row (Kd.int .i64) 3 (.slice A8836 y8834.length c8837) y8834 :: L) W) ?_ ?_ hS
        ·
         rintro a W ⟨x8905, x8906, h, hF, hO⟩
         exact none_no h
        ·
         clear hS
         rintro n8941 a W ⟨x8905, x8906, h, hF, hO⟩
         rw [code_Regs.l4] at h
         refine TC.use ?_ hF hO
         clear hF hO
         refine TC.seq ?_
         refine TC.region ?_
         refine TL.cons (TO.val rfl rfl rfl (Val.cmp rfl rfl run_lss) ?_)
         refine TL.nil ?_
         refine TQ.then_ ?_
         refine TC.seq ?_
         refine TC.cond_p rfl h (fun hc8975 h => ?_) (fun hc8975 h => ?_)
         ·
          refine TC.skip ?_
          refine TQ.then_ ?_
          refine TC.seq ?_
          refine TC.block ?_
          refine TC.seq ?_
          refine TC.region ?_
          refine TK.sel (Ls := [Row (Kd.int .i64) 3 (.slice A8836 y8834.length c8837) y8834, Blk b11 [.int .i64 a0.f0, .slice A1 a0.f1.length c2] 27, Blk b6 [.int .i64 a0.f0, .slice A1 a0.f1.length c2] 27, Blk b7 [.int .i64 x8906] 3, Blk b8716 [.int .i64 y8703.f0, .int .i64 y8703.f1, .int .i64 y8703.f2, .int .i64 y8703.f3, .int .i64 y8703.f4, .slice A8712 y8703.f5.length c8713] 40, Mk (o1588 :: []), Ob o1587 (LoopO R1586 .busy none)]) [6, 0, 1, 2, 3, 4, 5] 7 rfl rfl rfl ?_
          refine TK.share (fun G8991 e8992 hs8993 hb8994 => ?_)
          have rd8995 : Rd G8991 (Kd.int .i64) A8836 y8834 := Rd.row hs8993
          have le8996 : y8834.length ≤ c8837 := Row.le hs8993
          obtain ⟨y8997, hx8998, h⟩ := bind_no h
          obtain ⟨ad8999, cs9005, hA9000, hi9001, hj9002, hcl9003, hK9004⟩ := Rd.at rd8995 hx8998
          obtain rfl := RdK.int hK9004
          refine TL.cons (TO.val rfl rfl rfl (Val.indexAddr Tryd.underlying38 fsz3 rfl hA9000 rfl hi9001 hj9002) ?_)
          refine TL.cons (TO.val rfl rfl rfl (Val.loadS agg3 rfl (hcl9003 0 _ rfl)) ?_)
          refine TL.cons (TO.val rfl rfl rfl (Val.assign rfl) ?_)
          refine TL.nil ?_
          refine TQ.then_ ?_
          refine TC.region ?_
          refine TL.cons (TO.val rfl rfl rfl (Val.loadB 2 agg3 rfl rfl rfl) ?_)
          refine TL.cons (TO.val rfl rfl rfl (Val.move rfl) ?_)
          refine TL.cons (TO.val rfl rfl rfl (Val.max2 rfl rfl) ?_)
          refine TL.cons (TL.store 2 (ds := [.int .i64 (if x8906 < y8997 then y8997 else x8906)]) (cs' := [.int .i64 (if x8906 < y8997 then y8997 else x8906)]) (L' := (Blk b11 [.int .i64 a0.f0, .slice A1 a0.f1.length c2] 27 :: Blk b6 [.int .i64 a0.f0, .slice A1 a0.f1.length c2] 27 :: Blk b7 [.int .i64 (if x8906 < y8997 then y8997 else x8906)] 3 :: Blk b8716 [.int .i64 y8703.f0, .int .i64 y8703.f1, .int .i64 y8703.f2, .int .i64 y8703.f3, .int .i64 y8703.f4, .slice A8712 y8703.f5.length c8713] 40 :: Mk (o1588 :: []) :: Ob o1587 (LoopO R1586 .busy none) :: L)) rfl fsz3 rfl rfl rfl rfl rfl (Nat.le_of_ble_eq_true rfl) rfl rfl ?_)
          refine TL.nil ?_
          refine TQ.inB ?_
          refine TQ.then_ ?_
          refine TC.region ?_
          refine TL.cons (TO.val rfl rfl rfl (Val.cmp rfl rfl run_add) ?_)
          refine TL.cons (TO.val rfl rfl rfl (Val.move rfl) ?_)
          refine TL.nil ?_
          refine TQ.back hb8994 ?_
          exact fun a W hF hO => ⟨IntKind.i64.wrap (x8905 + 1), (if x8906 < y8997 then y8997 else x8906), h, hF.sub ⟨rfl, rfl, rfl, rfl, trivial⟩, hO.selT (Ls := [Blk b11 [.int .i64 a0.f0, .slice A1 a0.f1.length c2] 27, Blk b6 [.int .i64 a0.f0, .slice A1 a0.f1.length c2] 27, Blk b7 [.int .i64 (if x8906 < y8997 then y8997 else x8906)] 3, Blk b8716 [.int .i64 y8703.f0, .int .i64 y8703.f1, .int .i64 y8703.f2, .int .i64 y8703.f3, .int .i64 y8703.f4, .slice A8712 y8703.f5.length c8713] 40, Mk (o1588 :: []), Ob o1587 (LoopO R1586 .busy none), Row (Kd.int .i64) 3 (.slice A8836 y8834.length c8837) y8834]) [1, 2, 3, 4, 5, 6, 0] 7 rfl rfl rfl⟩
         ·
          refine TC.exit ?_
          refine TQ.thenX ?_
          refine TQ.thenX ?_
          refine TQ.inBX ?_
          exact fun a W hF hO => ⟨x8906, Option.some.inj h, hF.sub trivial, hO.selT (Ls := [Blk b11 [.int .i64 a0.f0, .slice A1 a0.f1.length c2] 27, Blk b6 [.int .i64 a0.f0, .slice A1 a0.f1.length c2] 27, Blk b7 [.int .i64 x8906] 3, Blk b8716 [.int .i64 y8703.f0, .int .i64 y8703.f1, .int .i64 y8703.f2, .int .i64 y8703.f3, .int .i64 y8703.f4, .slice A8712 y8703.f5.length c8713] 40, Mk (o1588 :: []), Ob o1587 (LoopO R1586 .busy none)]) [0, 1, 2, 3, 4, 5] 7 rfl rfl rfl⟩
      ·
       refine TC.exit ?_
       refine TQ.thenX ?_
       refine TQ.thenX ?_
       refine TQ.inBX ?_
       exact fun a W hF hO => ⟨x7844, Option.some.inj h, hF.sub ⟨rfl, rfl, rfl, rfl, trivial⟩, hO.selT (Ls := [Blk b11 [.int .i64 a0.f0, .slice A1 a0.f1.length c2] 27, Blk b6 [.int .i64 a0.f0, .slice A1 a0.f1.length c2] 27, Blk b7 [.int .i64 x7844] 3, Mk (o1588 :: []), Ob o1587 (LoopO R1586 .ready none)]) [0, 1, 2, 3, 4] 5 rfl rfl rfl⟩
   ·
    refine TC.exit ?_
    refine TQ.thenX ?_
    refine TQ.thenX ?_
    refine TQ.inBX ?_
    exact fun a W hF hO => ⟨x3490, Option.some.inj h, hF.sub trivial, hO.selT (Ls := [Blk b11 [.int .i64 a0.f0, .slice A1 a0.f1.length c2] 27, Blk b6 [.int .i64 a0.f0, .slice A1 a0.f1.length c2] 27, Blk b7 [.int .i64 x3490] 3, Mk (o1588 :: []), Ob o1587 (LoopO R1586 .ready none)]) [0, 1, 2, 3, 4] 5 rfl rfl rfl⟩
end Go.Proofs.YtmacdhkfgoahcaaDoor.Sy
set_option linter.unusedVariables false
set_option linter.unusedSimpArgs false
set_option maxRecDepth 100000
set_option maxHeartbeats 4000000
namespace Go.Proofs.YtmacdhkfgoahcaaDoor.Sy
open Go Go.RowKit Go.Proofs.YtmacdhkfgoahcaaDoorW.PrintWords 
def code_n.f (a0 : Int) : Option ByteArray := (strconv_Itoa.f a0).bind fun (y1 : ByteArray) => some y1
def code_n.post (G : Gd)  (r : ByteArray) (v : Value) (G' : Gd) (Lr : List Ch) : Prop := G = G' ∧ v = .string r ∧ Lr = []
theorem code_n.calls {G : Gd} {r : ByteArray} {a0 : Int} (ht : Tab G) (h : code_n.f a0 = some r) : Fn Tryd.prog 65 G [] [.int .i64 a0] (code_n.post G  r) := by
 refine Fn.intro (e := [(0, .int .i64 a0)]) 5 Tryd.func65 rfl Tryd.ntmps65 rfl rfl (Nat.le_of_ble_eq_true rfl) (fun L => ?_)
 unfold code_n.f at h
 refine TC.seq ?_
 refine TC.region ?_
 refine TL.cons (TO.val rfl rfl rfl (Val.assign rfl) ?_)
 refine TL.nil ?_
 refine TQ.then_ ?_
 refine TC.seq ?_
 refine TC.region ?_
 refine TL.cons (TO.val rfl rfl rfl (Val.move rfl) ?_)
 obtain ⟨y1, hy2, h⟩ := bind_no h
 refine TL.cons (TL.callV (Lin := []) (args := [.int .i64 a0]) rfl rfl rfl hbd85 rfl rfl (strconv_Itoa.calls (a0 := a0) ht hy2) rfl ?_)
 rintro _ _ _ _ ⟨rfl, rfl, rfl⟩
 refine TL.cons (TO.val rfl rfl rfl (Val.assign rfl) ?_)
 refine TL.nil ?_
 refine TQ.then_ ?_
 refine TC.ret ?_
 obtain rfl := Option.some.inj h
 exact TQ.fin (.inl rfl) rfl Tryd.results65 (.tmp rfl .nil) rfl (FRel.mk (Ls := []) [] 0 (Gd.le.refl _) rfl rfl rfl ⟨rfl, rfl, rfl⟩)
end Go.Proofs.YtmacdhkfgoahcaaDoor.Sy
set_option linter.unusedVariables false
set_option linter.unusedSimpArgs false
set_option maxRecDepth 100000
set_option maxHeartbeats 4000000
namespace Go.Proofs.YtmacdhkfgoahcaaDoor.Sy
open Go Go.RowKit Go.Proofs.YtmacdhkfgoahcaaDoorW.PrintWords 
def code_b.f (a0 : Int) : Option ByteArray := (strconv_Itoa.f a0).bind fun (y1 : ByteArray) => (if (⟨#[98]⟩ : ByteArray).size + y1.size ≤ 9223372036854775807 then some (cat (⟨#[98]⟩ : ByteArray) y1) else none)
def code_b.post (G : Gd)  (r : ByteArray) (v : Value) (G' : Gd) (Lr : List Ch) : Prop := G = G' ∧ v = .string r ∧ Lr = []
theorem code_b.calls {G : Gd} {r : ByteArray} {a0 : Int} (ht : Tab G) (h : code_b.f a0 = some r) : Fn Tryd.prog 66 G [] [.int .i64 a0] (code_b.post G  r) := by
 refine Fn.intro (e := [(0, .int .i64 a0)]) 6 Tryd.func66 rfl Tryd.ntmps66 rfl rfl (Nat.le_of_ble_eq_true rfl) (fun L => ?_)
 unfold code_b.f at h
 refine TC.seq ?_
 refine TC.region ?_
 refine TL.cons (TO.val rfl rfl rfl (Val.assign rfl) ?_)
 refine TL.nil ?_
 refine TQ.then_ ?_
 refine TC.seq ?_
 refine TC.region ?_
 refine TL.cons (TO.val rfl rfl rfl (Val.move rfl) ?_)
 obtain ⟨y1, hy2, h⟩ := bind_no h
 refine TL.cons (TL.callV (Lin := []) (args := [.int .i64 a0]) rfl rfl rfl hbd85 rfl rfl (strconv_Itoa.calls (a0 := a0) ht hy2) rfl ?_)
 rintro _ _ _ _ ⟨rfl, rfl, rfl⟩
 obtain ⟨hz3, h⟩ := ite_no h
 refine TL.cons (TO.val rfl rfl rfl (Val.addS rfl rfl hz3) ?_)
 refine TL.cons (TO.val rfl rfl rfl (Val.assign rfl) ?_)
 refine TL.nil ?_
 refine TQ.then_ ?_
 refine TC.ret ?_
 obtain rfl := Option.some.inj h
 exact TQ.fin (.inl rfl) rfl Tryd.results66 (.tmp rfl .nil) rfl (FRel.mk (Ls := []) [] 0 (Gd.le.refl _) rfl rfl rfl ⟨rfl, rfl, rfl⟩)
end Go.Proofs.YtmacdhkfgoahcaaDoor.Sy
set_option linter.unusedVariables false
set_option linter.unusedSimpArgs false
set_option maxRecDepth 100000
set_option maxHeartbeats 4000000
namespace Go.Proofs.YtmacdhkfgoahcaaDoor.Sy
open Go Go.RowKit Go.Proofs.YtmacdhkfgoahcaaDoorW.PrintWords 
def code_v.f (a0 : Int) : Option ByteArray := (strconv_Itoa.f a0).bind fun (y1 : ByteArray) => (if (⟨#[118]⟩ : ByteArray).size + y1.size ≤ 9223372036854775807 then some (cat (⟨#[118]⟩ : ByteArray) y1) else none)
def code_v.post (G : Gd)  (r : ByteArray) (v : Value) (G' : Gd) (Lr : List Ch) : Prop := G = G' ∧ v = .string r ∧ Lr = []
theorem code_v.calls {G : Gd} {r : ByteArray} {a0 : Int} (ht : Tab G) (h : code_v.f a0 = some r) : Fn Tryd.prog 86 G [] [.int .i64 a0] (code_v.post G  r) := by
 refine Fn.intro (e := [(0, .int .i64 a0)]) 6 Tryd.func86 rfl Tryd.ntmps86 rfl rfl (Nat.le_of_ble_eq_true rfl) (fun L => ?_)
 unfold code_v.f at h
 refine TC.seq ?_
 refine TC.region ?_
 refine TL.cons (TO.val rfl rfl rfl (Val.assign rfl) ?_)
 refine TL.nil ?_
 refine TQ.then_ ?_
 refine TC.seq ?_
 refine TC.region ?_
 refine TL.cons (TO.val rfl rfl rfl (Val.move rfl) ?_)
 obtain ⟨y1, hy2, h⟩ := bind_no h
 refine TL.cons (TL.callV (Lin := []) (args := [.int .i64 a0]) rfl rfl rfl hbd85 rfl rfl (strconv_Itoa.calls (a0 := a0) ht hy2) rfl ?_)
 rintro _ _ _ _ ⟨rfl, rfl, rfl⟩
 obtain ⟨hz3, h⟩ := ite_no h
 refine TL.cons (TO.val rfl rfl rfl (Val.addS rfl rfl hz3) ?_)
 refine TL.cons (TO.val rfl rfl rfl (Val.assign rfl) ?_)
 refine TL.nil ?_
 refine TQ.then_ ?_
 refine TC.ret ?_
 obtain rfl := Option.some.inj h
 exact TQ.fin (.inl rfl) rfl Tryd.results86 (.tmp rfl .nil) rfl (FRel.mk (Ls := []) [] 0 (Gd.le.refl _) rfl rfl rfl ⟨rfl, rfl, rfl⟩)
end Go.Proofs.YtmacdhkfgoahcaaDoor.Sy
