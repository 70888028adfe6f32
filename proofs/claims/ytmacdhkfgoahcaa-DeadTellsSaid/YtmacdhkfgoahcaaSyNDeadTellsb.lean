/- Texts of this work, joined: SyF65, SyF41, SyF40, SyF17, SyF18, SyF20, SyF4, DtF. -/
import Derived.Test.YtmacdhkfgoahcaaSyNDeadTellsa
set_option linter.unusedVariables false
set_option linter.unusedSimpArgs false
set_option maxRecDepth 100000
set_option maxHeartbeats 4000000
namespace Go.Proofs.Ytmacdhkfgoahcaa.Sy
open Go Go.RowKit Go.Proofs.YtmacdhkfgoahcaaW.PrintWords Go.Proofs.Ytmacdhkfgoahcaa.Q
def swageref14_Sets.f (a0 : S30) : Option Int := jn (γ := Int) (fun (x12 : Bool) => (if x12 = true then some 0 else some a0.f1)) (fun (j13 : (Bool → Option Int)) => (if a0.f0 < 1 then j13 true else (if 8 < a0.f0 then j13 true else j13 (decide (a0.f0 = 5)))))
def swageref14_Sets.post (G : Gd)  (r : Int) (v : Value) (G' : Gd) (Lr : List Ch) : Prop := G = G' ∧ v = .int .i64 r ∧ Lr = []
theorem swageref14_Sets.calls {G : Gd} {r : Int} {a0 : S30} {A1 : Option Addr} {c2 : Nat} (hr3 : Rd G (Kd.int .i64) A1 a0.f5) (hl4 : a0.f5.length ≤ c2) (h : swageref14_Sets.f a0 = some r) : Fn Try.prog 65 G [] [.agg #[.int .i64 a0.f0, .int .i64 a0.f1, .int .i64 a0.f2, .int .i64 a0.f3, .int .i64 a0.f4, .slice A1 a0.f5.length c2]] (swageref14_Sets.post G  r) := by
 refine Fn.intro (e := [(0, .agg #[.int .i64 a0.f0, .int .i64 a0.f1, .int .i64 a0.f2, .int .i64 a0.f3, .int .i64 a0.f4, .slice A1 a0.f5.length c2])]) 18 Try.func65 rfl Try.ntmps65 rfl rfl (Nat.le_of_ble_eq_true rfl) (fun L => ?_)
 unfold swageref14_Sets.f at h
 refine TC.seq ?_
 refine TC.region ?_
 refine TL.cons (TL.box (cs := [.int .i64 a0.f0, .int .i64 a0.f1, .int .i64 a0.f2, .int .i64 a0.f3, .int .i64 a0.f4, .slice A1 a0.f5.length c2]) rfl rfl rfl rfl (fun b5 => ?_))
 refine TL.cons (TO.val rfl rfl rfl (Val.assign rfl) ?_)
 refine TL.nil ?_
 refine TQ.then_ ?_
 refine TC.seq ?_
 refine TC.seq ?_
 obtain ⟨j13, hj13, h⟩ := jn_no h
 refine TC.tail (fun a W => ∃ (x12 : Bool), j13 x12 = some r ∧ Fr 18 a [(1, .pointer (some ⟨b5, 0, none⟩)), (15, .bool x12)] ∧ Own G (Blk b5 [.int .i64 a0.f0, .int .i64 a0.f1, .int .i64 a0.f2, .int .i64 a0.f3, .int .i64 a0.f4, .slice A1 a0.f5.length c2] 30 :: L) W) ?_ ?_
 ·
  rintro a W ⟨x12, h, hF, hO⟩
  rw [hj13] at h
  refine TQ.use ?_ hF hO
  clear hF hO
  refine TQ.then_ ?_
  refine TC.cond_b rfl h (fun hc15 h => ?_) (fun hc15 h => ?_)
  ·
   refine TC.seq ?_
   refine TC.region ?_
   refine TL.cons (TO.val rfl rfl rfl (Val.assign rfl) ?_)
   refine TL.nil ?_
   refine TQ.then_ ?_
   refine TC.ret ?_
   refine TQ.thenR ?_
   obtain rfl := Option.some.inj h
   exact TQ.fin (.inl rfl) rfl Try.results65 (.tmp rfl .nil) rfl (FRel.mk (Ls := []) [] 1 (Gd.le.refl _) rfl rfl rfl ⟨rfl, rfl, rfl⟩)
  ·
   refine TC.skip ?_
   refine TQ.then_ ?_
   refine TC.seq ?_
   refine TC.region ?_
   refine TL.cons (TO.val rfl rfl rfl (Val.fieldAddrB Try.underlying30 rfl fsz3 rfl rfl rfl) ?_)
   refine TL.cons (TO.val rfl rfl rfl (Val.loadB 0 agg3 rfl rfl rfl) ?_)
   refine TL.cons (TO.val rfl rfl rfl (Val.assign rfl) ?_)
   refine TL.nil ?_
   refine TQ.then_ ?_
   refine TC.ret ?_
   obtain rfl := Option.some.inj h
   exact TQ.fin (.inl rfl) rfl Try.results65 (.tmp rfl .nil) rfl (FRel.mk (Ls := []) [] 1 (Gd.le.refl _) rfl rfl rfl ⟨rfl, rfl, rfl⟩)
 ·
  refine TC.region ?_
  refine TL.cons (TO.val rfl rfl rfl (Val.fieldAddrB Try.underlying30 rfl fsz3 rfl rfl rfl) ?_)
  refine TL.cons (TO.val rfl rfl rfl (Val.loadB 0 agg3 rfl rfl rfl) ?_)
  refine TL.cons (TO.val rfl rfl rfl (Val.cmp rfl rfl run_lss) ?_)
  refine TL.cons (TO.val rfl rfl rfl (Val.move rfl) ?_)
  refine TK.split (p := a0.f0 < 1) h (fun hg16 h => ?_) (fun hg16 h => ?_)
  ·
   have hk17 : decide (a0.f0 < 1) = true := decide_eq_true hg16
   refine TL.cons (TL.not (Wt.no rfl rfl rfl hk17) rfl ?_)
   refine TL.cons (TL.not (Wt.no rfl rfl rfl hk17) rfl ?_)
   refine TL.cons (TL.not (Wt.no rfl rfl rfl hk17) rfl ?_)
   refine TL.cons (TO.val rfl rfl rfl (Val.pickY rfl hk17 rfl) ?_)
   refine TL.cons (TO.val rfl rfl rfl (Val.move rfl) ?_)
   refine TL.cons (TL.not (Wt.no rfl rfl rfl rfl) rfl ?_)
   refine TL.cons (TL.not (Wt.no rfl rfl rfl rfl) rfl ?_)
   refine TL.cons (TL.not (Wt.no rfl rfl rfl rfl) rfl ?_)
   refine TL.cons (TO.val rfl rfl rfl (Val.pickY rfl rfl rfl) ?_)
   refine TL.nil ?_
   exact fun a W hF hO => ⟨true, h, hF.sub ⟨rfl, rfl, trivial⟩, hO.selT (Ls := [Blk b5 [.int .i64 a0.f0, .int .i64 a0.f1, .int .i64 a0.f2, .int .i64 a0.f3, .int .i64 a0.f4, .slice A1 a0.f5.length c2] 30]) [0] 1 rfl rfl rfl⟩
  ·
   have hk18 : decide (a0.f0 < 1) = false := decide_eq_false hg16
   refine TL.cons (TO.val (Wt.yes rfl rfl rfl hk18) rfl rfl (Val.fieldAddrB Try.underlying30 rfl fsz3 rfl rfl rfl) ?_)
   refine TL.cons (TO.val (Wt.yes rfl rfl rfl hk18) rfl rfl (Val.loadB 0 agg3 rfl rfl rfl) ?_)
   refine TL.cons (TO.val (Wt.yes rfl rfl rfl hk18) rfl rfl (Val.cmp rfl rfl run_gtr) ?_)
   refine TL.cons (TO.val rfl rfl rfl (Val.pickN rfl hk18 rfl) ?_)
   refine TL.cons (TO.val rfl rfl rfl (Val.move rfl) ?_)
   refine TK.split (p := 8 < a0.f0) h (fun hg19 h => ?_) (fun hg19 h => ?_)
   ·
    have hk20 : decide (8 < a0.f0) = true := decide_eq_true hg19
    refine TL.cons (TL.not (Wt.no rfl rfl rfl hk20) rfl ?_)
    refine TL.cons (TL.not (Wt.no rfl rfl rfl hk20) rfl ?_)
    refine TL.cons (TL.not (Wt.no rfl rfl rfl hk20) rfl ?_)
    refine TL.cons (TO.val rfl rfl rfl (Val.pickY rfl hk20 rfl) ?_)
    refine TL.nil ?_
    exact fun a W hF hO => ⟨true, h, hF.sub ⟨rfl, rfl, trivial⟩, hO.selT (Ls := [Blk b5 [.int .i64 a0.f0, .int .i64 a0.f1, .int .i64 a0.f2, .int .i64 a0.f3, .int .i64 a0.f4, .slice A1 a0.f5.length c2] 30]) [0] 1 rfl rfl rfl⟩
   ·
    have hk21 : decide (8 < a0.f0) = false := decide_eq_false hg19
    refine TL.cons (TO.val (Wt.yes rfl rfl rfl hk21) rfl rfl (Val.fieldAddrB Try.underlying30 rfl fsz3 rfl rfl rfl) ?_)
    refine TL.cons (TO.val (Wt.yes rfl rfl rfl hk21) rfl rfl (Val.loadB 0 agg3 rfl rfl rfl) ?_)
    refine TL.cons (TO.val (Wt.yes rfl rfl rfl hk21) rfl rfl (Val.cmp rfl rfl run_eql) ?_)
    refine TL.cons (TO.val rfl rfl rfl (Val.pickN rfl hk21 rfl) ?_)
    refine TL.nil ?_
    exact fun a W hF hO => ⟨decide (a0.f0 = 5), h, hF.sub ⟨rfl, rfl, trivial⟩, hO.selT (Ls := [Blk b5 [.int .i64 a0.f0, .int .i64 a0.f1, .int .i64 a0.f2, .int .i64 a0.f3, .int .i64 a0.f4, .slice A1 a0.f5.length c2] 30]) [0] 1 rfl rfl rfl⟩
end Go.Proofs.Ytmacdhkfgoahcaa.Sy
set_option linter.unusedVariables false
set_option linter.unusedSimpArgs false
set_option maxRecDepth 100000
set_option maxHeartbeats 4000000
namespace Go.Proofs.Ytmacdhkfgoahcaa.Sy
open Go Go.RowKit Go.Proofs.YtmacdhkfgoahcaaW.PrintWords Go.Proofs.Ytmacdhkfgoahcaa.Q
def swageref23_dead.l0 (a0 : (List S30)) (y5 : S30) : Nat → Int → Option (Sum Bool (Unit))
 | 0, _ => none
 | n367 + 1, x250 => jn (γ := (Sum Bool (Unit))) (fun (x486 : Bool) => (if x486 = true then (at? a0 x250).bind fun y544 => (if y544.f0 = 5 then (if y544.f2 = y5.f2 then some (.inl (decide (y544.f4 = y5.f4))) else some (.inl false)) else (swageref14_Pure.f y544).bind fun (y572 : Bool) => jn (γ := (Sum Bool (Unit))) (fun (x584 : Bool) => (if x584 = true then some (.inl false) else swageref23_dead.l0 a0 y5 n367 (IntKind.i64.wrap (x250 + 1)))) (fun (j585 : (Bool → Option (Sum Bool (Unit)))) => (if (!y572) = true then j585 true else (swageref14_Sets.f y544).bind fun (y596 : Int) => j585 (decide (y596 = y5.f2))))) else some (.inr ()))) (fun (j487 : (Bool → Option (Sum Bool (Unit)))) => (if x250 < (a0.length : Int) then j487 (decide (y5.f0 = 5)) else j487 false))
def swageref23_dead.f (a0 : (List S30)) (a1 : Int) : Option Bool := (at? a0 a1).bind fun y5 => (swageref23_dead.l0 a0 y5 (a0.length + 1) (IntKind.i64.wrap (a1 + 1))).bind fun | .inl q_ => some q_ | .inr _ => (some false)
def swageref23_dead.post (G : Gd)  (r : Bool) (v : Value) (G' : Gd) (Lr : List Ch) : Prop := G = G' ∧ v = .bool r ∧ Lr = []
theorem swageref23_dead.calls {G : Gd} {r : Bool} {a0 : (List S30)} {a1 : Int} {A1 : Option Addr} {c2 : Nat} (hr3 : Rd G k30 A1 a0) (hl4 : a0.length ≤ c2) (h : swageref23_dead.f a0 a1 = some r) : Fn Try.prog 41 G [] [.slice A1 a0.length c2, .int .i64 a1] (swageref23_dead.post G  r) := by
 refine Fn.intro (e := [(0, .slice A1 a0.length c2), (1, .int .i64 a1)]) 56 Try.func41 rfl Try.ntmps41 rfl rfl (Nat.le_of_ble_eq_true rfl) (fun L => ?_)
 unfold swageref23_dead.f at h
 refine TC.seq ?_
 refine TC.region ?_
 refine TL.cons (TO.val rfl rfl rfl (Val.assign rfl) ?_)
 refine TL.nil ?_
 refine TQ.then_ ?_
 refine TC.seq ?_
 refine TC.region ?_
 refine TL.cons (TO.val rfl rfl rfl (Val.move rfl) ?_)
 refine TL.cons (TO.val rfl rfl rfl (Val.move rfl) ?_)
 obtain ⟨y5, hx6, h⟩ := bind_no h
 obtain ⟨ad7, cs13, hA8, hi9, hj10, hcl11, hK12⟩ := Rd.at hr3 hx6
 obtain ⟨A14, c15, rfl, hr16, hl17⟩ := k30_openR hK12
 refine TL.cons (TO.val rfl rfl rfl (Val.indexAddr Try.underlying26 fsz30 rfl hA8 rfl hi9 hj10) ?_)
 refine TL.cons (TO.val rfl rfl rfl (Val.loadsS (cs := [.int .i64 y5.f0, .int .i64 y5.f1, .int .i64 y5.f2, .int .i64 y5.f3, .int .i64 y5.f4, .slice A14 y5.f5.length c15]) agg30 fsz30 rfl rfl (Cl.sub (off := 0) (n := 6) hcl11 rfl)) ?_)
 refine TL.cons (TL.alloc (cs := [.int .i64 0, .int .i64 0, .int .i64 0, .int .i64 0, .int .i64 0, .slice none 0 0]) rfl rfl zr30 rfl (fun b18 => ?_))
 refine TL.cons (TL.store 0 (ds := [.int .i64 y5.f0, .int .i64 y5.f1, .int .i64 y5.f2, .int .i64 y5.f3, .int .i64 y5.f4, .slice A14 y5.f5.length c15]) (cs' := [.int .i64 y5.f0, .int .i64 y5.f1, .int .i64 y5.f2, .int .i64 y5.f3, .int .i64 y5.f4, .slice A14 y5.f5.length c15]) (L' := (Blk b18 [.int .i64 y5.f0, .int .i64 y5.f1, .int .i64 y5.f2, .int .i64 y5.f3, .int .i64 y5.f4, .slice A14 y5.f5.length c15] 30 :: L)) rfl fsz30 rfl rfl rfl rfl rfl (Nat.le_of_ble_eq_true rfl) rfl rfl ?_)
 refine TL.nil ?_
 refine TQ.then_ ?_
 refine TC.seq ?_
 refine TC.seq ?_
 refine TC.region ?_
 refine TL.cons (TO.val rfl rfl rfl (Val.move rfl) ?_)
 refine TL.cons (TO.val rfl rfl rfl (Val.cmp rfl rfl run_add) ?_)
 refine TL.cons (TO.val rfl rfl rfl (Val.assign rfl) ?_)
 refine TL.nil ?_
 refine TQ.then_ ?_
 obtain ⟨o366, ho366, ko366⟩ := bind_no h
 clear h
 refine TC.tail (fun a W => (.inr ()) = o366 ∧ Fr 56 a [] ∧ Own G (L) W) ?_ ?_
 ·
  rintro a W ⟨rfl, hF, hO⟩
  have h := ko366
  clear ko366 ho366
  refine TQ.use ?_ hF hO
  clear hF hO
  refine TQ.then_ ?_
  refine TC.seq ?_
  refine TC.region ?_
  refine TL.cons (TO.val rfl rfl rfl (Val.assign rfl) ?_)
  refine TL.nil ?_
  refine TQ.then_ ?_
  refine TC.ret ?_
  obtain rfl := Option.some.inj h
  exact TQ.fin (.inl rfl) rfl Try.results41 (.tmp rfl .nil) rfl (FRel.mk (Ls := []) [] 0 (Gd.le.refl _) rfl rfl rfl ⟨rfl, rfl, rfl⟩)
 ·
  refine TC.block ?_
  intro a W hF hO
  have hS : ∃ (x250 : Int), swageref23_dead.l0 a0 y5 (a0.length + 1) x250 = some o366 ∧ Fr 56 a [(0, .slice A1 a0.length c2), (5, .pointer (some ⟨b18, 0, none⟩)), (6, .int .i64 x250)] ∧ Own G (Blk b18 [.int .i64 y5.f0, .int .i64 y5.f1, .int .i64 y5.f2, .int .i64 y5.f3, .int .i64 y5.f4, .slice A14 y5.f5.length c15] 30 :: L) W := by
   exact ⟨IntKind.i64.wrap (a1 + 1), ho366, hF.sub ⟨rfl, rfl, rfl, trivial⟩, hO.selT (Ls := [Blk b18 [.int .i64 y5.f0, .int .i64 y5.f1, .int .i64 y5.f2, .int .i64 y5.f3, .int .i64 y5.f4, .slice A14 y5.f5.length c15] 30]) [0] 1 rfl rfl rfl⟩
  clear hF hO ho366
  refine TC.loop (fun n367 a W => ∃ (x250 : Int), swageref23_dead.l0 a0 y5 n367 x250 = some o366 ∧ Fr 56 a [(0, .slice A1 a0.length c2), (5, .pointer (some ⟨b18, 0, none⟩)), (6, .int .i64 x250)] ∧ Own G (Blk b18 [.int .i64 y5.f0, .int .i64 y5.f1, .int .i64 y5.f2, .int .i64 y5.f3, .int .i64 y5.f4, .slice A14 y5.f5.length c15] 30 :: L) W) ?_ ?_ hS
  ·
   rintro a W ⟨x250, h, hF, hO⟩
   exact none_no h
  ·
   clear hS
   rintro n367 a W ⟨x250, h, hF, hO⟩
   rw [swageref23_dead.l0] at h
   refine TC.use ?_ hF hO
   clear hF hO
   refine TC.seq ?_
   refine TC.seq ?_
   obtain ⟨j487, hj487, h⟩ := jn_no h
   refine TC.tail (fun a W => ∃ (x486 : Bool), j487 x486 = some o366 ∧ Fr 56 a [(0, .slice A1 a0.length c2), (5, .pointer (some ⟨b18, 0, none⟩)), (6, .int .i64 x250), (23, .bool x486)] ∧ Own G (Blk b18 [.int .i64 y5.f0, .int .i64 y5.f1, .int .i64 y5.f2, .int .i64 y5.f3, .int .i64 y5.f4, .slice A14 y5.f5.length c15] 30 :: L) W) ?_ ?_
   ·
    rintro a W ⟨x486, h, hF, hO⟩
    rw [hj487] at h
    refine TQ.use ?_ hF hO
    clear hF hO
    refine TQ.then_ ?_
    refine TC.cond_b rfl h (fun hc489 h => ?_) (fun hc489 h => ?_)
    ·
     refine TC.skip ?_
     refine TQ.then_ ?_
     refine TC.seq ?_
     refine TC.block ?_
     refine TC.seq ?_
     refine TC.region ?_
     refine TL.cons (TO.val rfl rfl rfl (Val.move rfl) ?_)
     refine TL.cons (TO.val rfl rfl rfl (Val.move rfl) ?_)
     obtain ⟨y544, hx545, h⟩ := bind_no h
     obtain ⟨ad546, cs552, hA547, hi548, hj549, hcl550, hK551⟩ := Rd.at hr3 hx545
     obtain ⟨A553, c554, rfl, hr555, hl556⟩ := k30_openR hK551
     refine TL.cons (TO.val rfl rfl rfl (Val.indexAddr Try.underlying26 fsz30 rfl hA547 rfl hi548 hj549) ?_)
     refine TL.cons (TO.val rfl rfl rfl (Val.loadsS (cs := [.int .i64 y544.f0, .int .i64 y544.f1, .int .i64 y544.f2, .int .i64 y544.f3, .int .i64 y544.f4, .slice A553 y544.f5.length c554]) agg30 fsz30 rfl rfl (Cl.sub (off := 0) (n := 6) hcl550 rfl)) ?_)
     refine TL.cons (TL.alloc (cs := [.int .i64 0, .int .i64 0, .int .i64 0, .int .i64 0, .int .i64 0, .slice none 0 0]) rfl rfl zr30 rfl (fun b557 => ?_))
     refine TL.cons (TL.store 0 (ds := [.int .i64 y544.f0, .int .i64 y544.f1, .int .i64 y544.f2, .int .i64 y544.f3, .int .i64 y544.f4, .slice A553 y544.f5.length c554]) (cs' := [.int .i64 y544.f0, .int .i64 y544.f1, .int .i64 y544.f2, .int .i64 y544.f3, .int .i64 y544.f4, .slice A553 y544.f5.length c554]) (L' := (Blk b557 [.int .i64 y544.f0, .int .i64 y544.f1, .int .i64 y544.f2, .int .i64 y544.f3, .int .i64 y544.f4, .slice A553 y544.f5.length c554] 30 :: Blk b18 [.int .i64 y5.f0, .int .i64 y5.f1, .int .i64 y5.f2, .int .i64 y5.f3, .int .i64 y5.f4, .slice A14 y5.f5.length c15] 30 :: L)) rfl fsz30 rfl rfl rfl rfl rfl (Nat.le_of_ble_eq_true rfl) rfl rfl ?_)
     refine TL.nil ?_
     refine TQ.then_ ?_
     refine TC.seq ?_
     refine TC.seq ?_
     refine TC.region ?_
     refine TL.cons (TO.val rfl rfl rfl (Val.fieldAddrB Try.underlying30 rfl fsz3 rfl rfl rfl) ?_)
     refine TL.cons (TO.val rfl rfl rfl (Val.loadB 0 agg3 rfl rfl rfl) ?_)
     refine TL.cons (TO.val rfl rfl rfl (Val.cmp rfl rfl run_eql) ?_)
     refine TL.nil ?_
     refine TQ.then_ ?_
     refine TC.cond_p rfl h (fun hc565 h => ?_) (fun hc565 h => ?_)
     ·
      refine TC.seq ?_
      refine TC.region ?_
      refine TL.cons (TO.val rfl rfl rfl (Val.fieldAddrB Try.underlying30 rfl fsz3 rfl rfl rfl) ?_)
      refine TL.cons (TO.val rfl rfl rfl (Val.loadB 0 agg3 rfl rfl rfl) ?_)
      refine TL.cons (TO.val rfl rfl rfl (Val.fieldAddrB Try.underlying30 rfl fsz3 rfl rfl rfl) ?_)
      refine TL.cons (TO.val rfl rfl rfl (Val.loadB 1 agg3 rfl rfl rfl) ?_)
      refine TL.cons (TO.val rfl rfl rfl (Val.cmp rfl rfl run_eql) ?_)
      refine TL.cons (TO.val rfl rfl rfl (Val.move rfl) ?_)
      refine TK.split (p := y544.f2 = y5.f2) h (fun hg569 h => ?_) (fun hg569 h => ?_)
      ·
       have hk570 : decide (y544.f2 = y5.f2) = true := decide_eq_true hg569
       refine TL.cons (TO.val (Wt.yes rfl rfl rfl hk570) rfl rfl (Val.fieldAddrB Try.underlying30 rfl fsz3 rfl rfl rfl) ?_)
       refine TL.cons (TO.val (Wt.yes rfl rfl rfl hk570) rfl rfl (Val.loadB 0 agg3 rfl rfl rfl) ?_)
       refine TL.cons (TO.val (Wt.yes rfl rfl rfl hk570) rfl rfl (Val.fieldAddrB Try.underlying30 rfl fsz3 rfl rfl rfl) ?_)
       refine TL.cons (TO.val (Wt.yes rfl rfl rfl hk570) rfl rfl (Val.loadB 1 agg3 rfl rfl rfl) ?_)
       refine TL.cons (TO.val (Wt.yes rfl rfl rfl hk570) rfl rfl (Val.cmp rfl rfl run_eql) ?_)
       refine TL.cons (TO.val rfl rfl rfl (Val.pickY rfl hk570 rfl) ?_)
       refine TL.cons (TO.val rfl rfl rfl (Val.assign rfl) ?_)
       refine TL.nil ?_
       refine TQ.then_ ?_
       refine TC.ret ?_
       refine TQ.thenR ?_
       refine TQ.inBR ?_
       refine TQ.thenR ?_
       refine TQ.thenR ?_
       refine TQ.inBR ?_
       refine TQ.thenR ?_
       refine TQ.thenR ?_
       obtain rfl := Option.some.inj h
       have h := ko366
       obtain rfl := Option.some.inj h
       exact TQ.fin (.inl rfl) rfl Try.results41 (.tmp rfl .nil) rfl (FRel.mk (Ls := []) [] 2 (Gd.le.refl _) rfl rfl rfl ⟨rfl, rfl, rfl⟩)
      ·
       have hk571 : decide (y544.f2 = y5.f2) = false := decide_eq_false hg569
       refine TL.cons (TL.not (Wt.no rfl rfl rfl hk571) rfl ?_)
       refine TL.cons (TL.not (Wt.no rfl rfl rfl hk571) rfl ?_)
       refine TL.cons (TL.not (Wt.no rfl rfl rfl hk571) rfl ?_)
       refine TL.cons (TL.not (Wt.no rfl rfl rfl hk571) rfl ?_)
       refine TL.cons (TL.not (Wt.no rfl rfl rfl hk571) rfl ?_)
       refine TL.cons (TO.val rfl rfl rfl (Val.pickN rfl hk571 rfl) ?_)
       refine TL.cons (TO.val rfl rfl rfl (Val.assign rfl) ?_)
       refine TL.nil ?_
       refine TQ.then_ ?_
       refine TC.ret ?_
       refine TQ.thenR ?_
       refine TQ.inBR ?_
       refine TQ.thenR ?_
       refine TQ.thenR ?_
       refine TQ.inBR ?_
       refine TQ.thenR ?_
       refine TQ.thenR ?_
       obtain rfl := Option.some.inj h
       have h := ko366
       obtain rfl := Option.some.inj h
       exact TQ.fin (.inl rfl) rfl Try.results41 (.tmp rfl .nil) rfl (FRel.mk (Ls := []) [] 2 (Gd.le.refl _) rfl rfl rfl ⟨rfl, rfl, rfl⟩)
     ·
      refine TC.skip ?_
      refine TQ.then_ ?_
      refine TC.seq ?_
      refine TC.region ?_
      refine TL.cons (TO.val rfl rfl rfl (Val.loadsB 0 (cs := [.int .i64 y544.f0, .int .i64 y544.f1, .int .i64 y544.f2, .int .i64 y544.f3, .int .i64 y544.f4, .slice A553 y544.f5.length c554]) agg30 fsz30 rfl rfl rfl rfl) ?_)
      obtain ⟨y572, hy573, h⟩ := bind_no h
      refine TL.cons (TL.callV (Lin := []) (args := [.agg #[.int .i64 y544.f0, .int .i64 y544.f1, .int .i64 y544.f2, .int .i64 y544.f3, .int .i64 y544.f4, .slice A553 y544.f5.length c554]]) rfl rfl rfl hbd64 rfl rfl (swageref14_Pure.calls (a0 := y544) hr555 hl556 hy573) rfl ?_)
      rintro _ _ _ _ ⟨rfl, rfl, rfl⟩
      refine TL.cons (TO.val rfl rfl rfl (Val.assign rfl) ?_)
      refine TL.nil ?_
      refine TQ.then_ ?_
      refine TC.seq ?_
      obtain ⟨j585, hj585, h⟩ := jn_no h
      refine TC.tail (fun a W => ∃ (x584 : Bool), j585 x584 = some o366 ∧ Fr 56 a [(0, .slice A1 a0.length c2), (5, .pointer (some ⟨b18, 0, none⟩)), (6, .int .i64 x250), (55, .bool x584)] ∧ Own G (Blk b18 [.int .i64 y5.f0, .int .i64 y5.f1, .int .i64 y5.f2, .int .i64 y5.f3, .int .i64 y5.f4, .slice A14 y5.f5.length c15] 30 :: L) W) ?_ ?_
      ·
       rintro a W ⟨x584, h, hF, hO⟩
       rw [hj585] at h
       refine TQ.use ?_ hF hO
       clear hF hO
       refine TQ.then_ ?_
       refine TC.cond_b rfl h (fun hc587 h => ?_) (fun hc587 h => ?_)
       ·
        refine TC.seq ?_
        refine TC.region ?_
        refine TL.cons (TO.val rfl rfl rfl (Val.assign rfl) ?_)
        refine TL.nil ?_
        refine TQ.then_ ?_
        refine TC.ret ?_
        refine TQ.inBR ?_
        refine TQ.thenR ?_
        refine TQ.thenR ?_
        refine TQ.inBR ?_
        refine TQ.thenR ?_
        refine TQ.thenR ?_
        obtain rfl := Option.some.inj h
        have h := ko366
        obtain rfl := Option.some.inj h
        exact TQ.fin (.inl rfl) rfl Try.results41 (.tmp rfl .nil) rfl (FRel.mk (Ls := []) [] 1 (Gd.le.refl _) rfl rfl rfl ⟨rfl, rfl, rfl⟩)
       ·
        refine TC.skip ?_
        refine TQ.inB ?_
        refine TQ.then_ ?_
        refine TC.region ?_
        refine TL.cons (TO.val rfl rfl rfl (Val.move rfl) ?_)
        refine TL.cons (TO.val rfl rfl rfl (Val.cmp rfl rfl run_add) ?_)
        refine TL.cons (TO.val rfl rfl rfl (Val.assign rfl) ?_)
        refine TL.nil ?_
        exact fun a W hF hO => ⟨IntKind.i64.wrap (x250 + 1), h, hF.sub ⟨rfl, rfl, rfl, trivial⟩, hO.selT (Ls := [Blk b18 [.int .i64 y5.f0, .int .i64 y5.f1, .int .i64 y5.f2, .int .i64 y5.f3, .int .i64 y5.f4, .slice A14 y5.f5.length c15] 30]) [0] 1 rfl rfl rfl⟩
      ·
       refine TC.regionAny [] [0, 1, 2, 3, 4, 5, 6, 7, 8] mixed (by kernel_rfl) ?_
       refine TA.take 0 rfl (by kernel_rfl) rfl (PQ.then_ (PQ.then_ (PQ.inB (PQ.then_ (PQ.then_ (PQ.inB (PQ.then_ (PQ.then_ PQ.body)))))))) rfl (Val.move rfl) (fun W hO => hO) ?_
       refine TA.take 1 rfl (by kernel_rfl) rfl (PQ.then_ (PQ.then_ (PQ.inB (PQ.then_ (PQ.then_ (PQ.inB (PQ.then_ (PQ.then_ PQ.body)))))))) rfl (Val.not_ rfl) (fun W hO => hO) ?_
       refine TA.take 2 rfl (by kernel_rfl) rfl (PQ.then_ (PQ.then_ (PQ.inB (PQ.then_ (PQ.then_ (PQ.inB (PQ.then_ (PQ.then_ PQ.body)))))))) rfl (Val.move rfl) (fun W hO => hO) ?_
       refine TK.split (p := (!y572) = true) h (fun hg593 h => ?_) (fun hg593 h => ?_)
       ·
        have hk594 : (!y572) = true := hg593
        refine TA.not 3 rfl (by kernel_rfl) rfl (PQ.then_ (PQ.then_ (PQ.inB (PQ.then_ (PQ.then_ (PQ.inB (PQ.then_ (PQ.then_ PQ.body)))))))) (Wt.no rfl rfl rfl hk594) (fun W hO => hO) ?_
        refine TA.not 4 rfl (by kernel_rfl) rfl (PQ.then_ (PQ.then_ (PQ.inB (PQ.then_ (PQ.then_ (PQ.inB (PQ.then_ (PQ.then_ PQ.body)))))))) (Wt.no rfl rfl rfl hk594) (fun W hO => hO) ?_
        refine TA.not 5 rfl (by kernel_rfl) rfl (PQ.then_ (PQ.then_ (PQ.inB (PQ.then_ (PQ.then_ (PQ.inB (PQ.then_ (PQ.then_ PQ.body)))))))) (Wt.no rfl rfl rfl hk594) (fun W hO => hO) ?_
        refine TA.not 6 rfl (by kernel_rfl) rfl (PQ.then_ (PQ.then_ (PQ.inB (PQ.then_ (PQ.then_ (PQ.inB (PQ.then_ (PQ.then_ PQ.body)))))))) (Wt.no rfl rfl rfl hk594) (fun W hO => hO) ?_
        refine TA.not 7 rfl (by kernel_rfl) rfl (PQ.then_ (PQ.then_ (PQ.inB (PQ.then_ (PQ.then_ (PQ.inB (PQ.then_ (PQ.then_ PQ.body)))))))) (Wt.no rfl rfl rfl hk594) (fun W hO => hO) ?_
        refine TA.take 8 rfl (by kernel_rfl) rfl (PQ.then_ (PQ.then_ (PQ.inB (PQ.then_ (PQ.then_ (PQ.inB (PQ.then_ (PQ.then_ PQ.body)))))))) rfl (Val.pickY rfl hk594 rfl) (fun W hO => hO) ?_
        refine TA.done (by kernel_rfl) ?_
        exact fun a W hF hO => ⟨true, h, hF.sub ⟨rfl, rfl, rfl, rfl, trivial⟩, hO.selT (Ls := [Blk b18 [.int .i64 y5.f0, .int .i64 y5.f1, .int .i64 y5.f2, .int .i64 y5.f3, .int .i64 y5.f4, .slice A14 y5.f5.length c15] 30]) [1] 2 rfl rfl rfl⟩
       ·
        have hk595 : (!y572) = false := (by simpa using hg593)
        refine TA.take 3 rfl (by kernel_rfl) rfl (PQ.then_ (PQ.then_ (PQ.inB (PQ.then_ (PQ.then_ (PQ.inB (PQ.then_ (PQ.then_ PQ.body)))))))) (Wt.yes rfl rfl rfl hk595) (Val.loadsB 0 (cs := [.int .i64 y544.f0, .int .i64 y544.f1, .int .i64 y544.f2, .int .i64 y544.f3, .int .i64 y544.f4, .slice A553 y544.f5.length c554]) agg30 fsz30 rfl rfl rfl rfl) (fun W hO => hO) ?_
        refine TA.take 5 rfl (by kernel_rfl) rfl (PQ.then_ (PQ.then_ (PQ.inB (PQ.then_ (PQ.then_ (PQ.inB (PQ.then_ (PQ.then_ PQ.body)))))))) (Wt.yes rfl rfl rfl hk595) (Val.fieldAddrB Try.underlying30 rfl fsz3 rfl rfl rfl) (fun W hO => hO) ?_
        refine TA.take 6 rfl (by kernel_rfl) rfl (PQ.then_ (PQ.then_ (PQ.inB (PQ.then_ (PQ.then_ (PQ.inB (PQ.then_ (PQ.then_ PQ.body)))))))) (Wt.yes rfl rfl rfl hk595) (Val.loadB 1 agg3 rfl rfl rfl) (fun W hO => hO) ?_
        obtain ⟨y596, hy597, h⟩ := bind_no h
        refine TA.eff 4 rfl (by kernel_rfl) rfl (TL.callV (Lin := []) (args := [.agg #[.int .i64 y544.f0, .int .i64 y544.f1, .int .i64 y544.f2, .int .i64 y544.f3, .int .i64 y544.f4, .slice A553 y544.f5.length c554]]) (Wt.yes rfl rfl rfl hk595) rfl rfl hbd65 rfl rfl (swageref14_Sets.calls (a0 := y544) hr555 hl556 hy597) rfl ?_)
        rintro _ _ _ _ ⟨rfl, rfl, rfl⟩
        refine TA.next (fun W hO => hO) ?_
        refine TA.take 7 rfl (by kernel_rfl) rfl (PQ.then_ (PQ.then_ (PQ.inB (PQ.then_ (PQ.then_ (PQ.inB (PQ.then_ (PQ.then_ PQ.body)))))))) (Wt.yes rfl rfl rfl hk595) (Val.cmp rfl rfl run_eql) (fun W hO => hO) ?_
        refine TA.take 8 rfl (by kernel_rfl) rfl (PQ.then_ (PQ.then_ (PQ.inB (PQ.then_ (PQ.then_ (PQ.inB (PQ.then_ (PQ.then_ PQ.body)))))))) rfl (Val.pickN rfl hk595 rfl) (fun W hO => hO) ?_
        refine TA.done (by kernel_rfl) ?_
        exact fun a W hF hO => ⟨decide (y596 = y5.f2), h, hF.sub ⟨rfl, rfl, rfl, rfl, trivial⟩, hO.selT (Ls := [Blk b18 [.int .i64 y5.f0, .int .i64 y5.f1, .int .i64 y5.f2, .int .i64 y5.f3, .int .i64 y5.f4, .slice A14 y5.f5.length c15] 30]) [1] 2 rfl rfl rfl⟩
    ·
     refine TC.exit ?_
     refine TQ.thenX ?_
     refine TQ.thenX ?_
     refine TQ.inBX ?_
     exact fun a W hF hO => ⟨Option.some.inj h, hF.sub trivial, hO.selT (Ls := []) [] 1 rfl rfl rfl⟩
   ·
    refine TC.region ?_
    refine TL.cons (TO.val rfl rfl rfl (Val.move rfl) ?_)
    refine TL.cons (TO.val rfl rfl rfl (Val.move rfl) ?_)
    refine TL.cons (TO.val rfl rfl rfl (Val.len Try.underlying26 rfl) ?_)
    refine TL.cons (TO.val rfl rfl rfl (Val.cmp rfl rfl run_lss) ?_)
    refine TL.cons (TO.val rfl rfl rfl (Val.move rfl) ?_)
    refine TK.split (p := x250 < (a0.length : Int)) h (fun hg598 h => ?_) (fun hg598 h => ?_)
    ·
     have hk599 : decide (x250 < (a0.length : Int)) = true := decide_eq_true hg598
     refine TL.cons (TO.val (Wt.yes rfl rfl rfl hk599) rfl rfl (Val.fieldAddrB Try.underlying30 rfl fsz3 rfl rfl rfl) ?_)
     refine TL.cons (TO.val (Wt.yes rfl rfl rfl hk599) rfl rfl (Val.loadB 0 agg3 rfl rfl rfl) ?_)
     refine TL.cons (TO.val (Wt.yes rfl rfl rfl hk599) rfl rfl (Val.cmp rfl rfl run_eql) ?_)
     refine TL.cons (TO.val rfl rfl rfl (Val.pickY rfl hk599 rfl) ?_)
     refine TL.nil ?_
     exact fun a W hF hO => ⟨decide (y5.f0 = 5), h, hF.sub ⟨rfl, rfl, rfl, rfl, trivial⟩, hO.selT (Ls := [Blk b18 [.int .i64 y5.f0, .int .i64 y5.f1, .int .i64 y5.f2, .int .i64 y5.f3, .int .i64 y5.f4, .slice A14 y5.f5.length c15] 30]) [0] 1 rfl rfl rfl⟩
    ·
     have hk600 : decide (x250 < (a0.length : Int)) = false := decide_eq_false hg598
     refine TL.cons (TL.not (Wt.no rfl rfl rfl hk600) rfl ?_)
     refine TL.cons (TL.not (Wt.no rfl rfl rfl hk600) rfl ?_)
     refine TL.cons (TL.not (Wt.no rfl rfl rfl hk600) rfl ?_)
     refine TL.cons (TO.val rfl rfl rfl (Val.pickN rfl hk600 rfl) ?_)
     refine TL.nil ?_
     exact fun a W hF hO => ⟨false, h, hF.sub ⟨rfl, rfl, rfl, rfl, trivial⟩, hO.selT (Ls := [Blk b18 [.int .i64 y5.f0, .int .i64 y5.f1, .int .i64 y5.f2, .int .i64 y5.f3, .int .i64 y5.f4, .slice A14 y5.f5.length c15] 30]) [0] 1 rfl rfl rfl⟩
end Go.Proofs.Ytmacdhkfgoahcaa.Sy
set_option linter.unusedVariables false
set_option linter.unusedSimpArgs false
set_option maxRecDepth 100000
set_option maxHeartbeats 4000000
namespace Go.Proofs.Ytmacdhkfgoahcaa.Sy
open Go Go.RowKit Go.Proofs.YtmacdhkfgoahcaaW.PrintWords Go.Proofs.Ytmacdhkfgoahcaa.Q
def swageref23_Block.l1 : Nat → (List S30) → Bool → Int → Option ((List S30) × Bool)
 | 0, _, _, _ => none
 | n2744 + 1, l2551, x2556, x2557 => jn (γ := ((List S30) × Bool)) (fun (x2906 : Bool) => (if x2906 = true then (swageref23_dead.f l2551 x2557).bind fun (y2992 : Bool) => jn (γ := ((List S30) × Bool)) (fun (l3029 : (List S30)) (x3034 : Bool) => swageref23_Block.l1 n2744 l3029 x3034 (IntKind.i64.wrap (x2557 + 1))) (fun (j3035 : ((List S30) → Bool → Option ((List S30) × Bool))) => (if y2992 = true then (cut? l2551 (0 : Int) x2557).bind fun (y3053 : (List S30)) => (cut? l2551 (IntKind.i64.wrap (x2557 + 1)) (l2551.length : Int)).bind fun (y3057 : (List S30)) => (if ([] : List S30).length + y3053.length ≤ 2199023255552 then (if (([] : List S30) ++ y3053).length + y3057.length ≤ 2199023255552 then j3035 ((([] : List S30) ++ y3053) ++ y3057) true else none) else none) else j3035 l2551 x2556)) else some (l2551, x2556))) (fun (j2907 : (Bool → Option ((List S30) × Bool))) => (if x2557 < (l2551.length : Int) then j2907 (!x2556) else j2907 false))
def swageref23_Block.l0 : Nat → (List S30) → Bool → Option ((List S30))
 | 0, _, _ => none
 | n1761 + 1, l1181, x1186 => (if x1186 = true then (swageref23_Block.l1 (l1181.length + 1) l1181 false 0).bind fun (l2737, x2742) => swageref23_Block.l0 n1761 l2737 x2742 else some l1181)
def swageref23_Block.f (a0 : S28) : Option S28 := (swageref14_Copy.f (⟨0, ([a0] : List S28)⟩ : S36)).bind fun (y14 : S36) => (at? y14.f1 0).bind fun y25 => (swageref23_Block.l0 (a0.f0.length + 2) y25.f0 true).bind fun (l1755 : (List S30)) => some (⟨l1755, a0.f1⟩ : S28)
def swageref23_Block.post (G : Gd)  (r : S28) (v : Value) (G' : Gd) (Lr : List Ch) : Prop := ∃ (A_1 : Option Addr) (c_1 : Nat), v = .agg #[.slice A_1 r.f0.length c_1, .int .i64 r.f1.f0, .int .i64 r.f1.f1, .int .i64 r.f1.f2, .int .i64 r.f1.f3] ∧ Lr = [] ∧ Rd G' k30 A_1 r.f0 ∧ r.f0.length ≤ c_1
theorem swageref23_Block.calls {G : Gd} {r : S28} {a0 : S28} {A1 : Option Addr} {c2 : Nat} (hr3 : Rd G k30 A1 a0.f0) (hl4 : a0.f0.length ≤ c2) (h : swageref23_Block.f a0 = some r) : Fn Try.prog 40 G [] [.agg #[.slice A1 a0.f0.length c2, .int .i64 a0.f1.f0, .int .i64 a0.f1.f1, .int .i64 a0.f1.f2, .int .i64 a0.f1.f3]] (swageref23_Block.post G  r) := by
 refine Fn.intro (e := [(0, .agg #[.slice A1 a0.f0.length c2, .int .i64 a0.f1.f0, .int .i64 a0.f1.f1, .int .i64 a0.f1.f2, .int .i64 a0.f1.f3])]) 44 Try.func40 rfl Try.ntmps40 rfl rfl (Nat.le_of_ble_eq_true rfl) (fun L => ?_)
 unfold swageref23_Block.f at h
 refine TC.seq ?_
 refine TC.region ?_
 refine TL.cons (TL.box (cs := [.slice A1 a0.f0.length c2, .int .i64 a0.f1.f0, .int .i64 a0.f1.f1, .int .i64 a0.f1.f2, .int .i64 a0.f1.f3]) rfl rfl rfl rfl (fun b5 => ?_))
 refine TL.cons (TL.alloc (cs := [.slice none 0 0, .int .i64 0, .int .i64 0, .int .i64 0, .int .i64 0]) rfl rfl zr28 rfl (fun b6 => ?_))
 refine TL.nil ?_
 refine TQ.then_ ?_
 refine TC.seq ?_
 refine TC.region ?_
 refine TL.cons (TO.val rfl rfl rfl (Val.loadsB 1 (cs := [.slice A1 a0.f0.length c2, .int .i64 a0.f1.f0, .int .i64 a0.f1.f1, .int .i64 a0.f1.f2, .int .i64 a0.f1.f3]) agg28 fsz28 rfl rfl rfl rfl) ?_)
 refine TL.cons (TL.buildSlice (xs := [.tmp 7]) (vs := [.agg #[.slice A1 a0.f0.length c2, .int .i64 a0.f1.f0, .int .i64 a0.f1.f1, .int .i64 a0.f1.f2, .int .i64 a0.f1.f3]]) (cs := [.slice A1 a0.f0.length c2, .int .i64 a0.f1.f0, .int .i64 a0.f1.f1, .int .i64 a0.f1.f2, .int .i64 a0.f1.f3]) rfl rfl Try.underlying34 zs28 rfl rfl rfl rfl rfl rfl rfl rfl (fun b7 => ?_))
 refine TL.cons (TO.val rfl rfl rfl (Val.build (cs := [.int .i64 0, .slice (some ⟨b7, 0, none⟩) 1 1]) (is := [1]) (xs := [.tmp 8]) Try.underlying36 zr36 bld36 rfl rfl rfl rfl) ?_)
 refine TK.new (Els.nil (Sh G k28)) ?_
 refine TK.new (El.of (k := (Sh G k28)) (xv := a0) (cs := [.slice A1 a0.f0.length c2, .int .i64 a0.f1.f0, .int .i64 a0.f1.f1, .int .i64 a0.f1.f2, .int .i64 a0.f1.f3]) (fun W B => Sh.mk (fun W hW => k28_mk W a0 hl4 (hr3 W hW)) W B _)) ?_
 refine TK.sel (Ls := [Els (Sh G k28) [] [], El (Sh G k28) a0 [.slice A1 a0.f0.length c2, .int .i64 a0.f1.f0, .int .i64 a0.f1.f1, .int .i64 a0.f1.f2, .int .i64 a0.f1.f3], Blk b7 [.slice A1 a0.f0.length c2, .int .i64 a0.f1.f0, .int .i64 a0.f1.f1, .int .i64 a0.f1.f2, .int .i64 a0.f1.f3] 28, Blk b6 [.slice none 0 0, .int .i64 0, .int .i64 0, .int .i64 0, .int .i64 0] 28, Blk b5 [.slice A1 a0.f0.length c2, .int .i64 a0.f1.f0, .int .i64 a0.f1.f1, .int .i64 a0.f1.f2, .int .i64 a0.f1.f3] 28]) [1, 0, 2, 3, 4] 5 rfl rfl rfl ?_
 refine TK.two (ch := Els (Sh G k28) [a0] [.slice A1 a0.f0.length c2, .int .i64 a0.f1.f0, .int .i64 a0.f1.f1, .int .i64 a0.f1.f2, .int .i64 a0.f1.f3]) (Els.snoc (Sh G k28)) ?_
 refine TK.sel (Ls := [Blk b7 [.slice A1 a0.f0.length c2, .int .i64 a0.f1.f0, .int .i64 a0.f1.f1, .int .i64 a0.f1.f2, .int .i64 a0.f1.f3] 28, Els (Sh G k28) [a0] [.slice A1 a0.f0.length c2, .int .i64 a0.f1.f0, .int .i64 a0.f1.f1, .int .i64 a0.f1.f2, .int .i64 a0.f1.f3], Blk b6 [.slice none 0 0, .int .i64 0, .int .i64 0, .int .i64 0, .int .i64 0] 28, Blk b5 [.slice A1 a0.f0.length c2, .int .i64 a0.f1.f0, .int .i64 a0.f1.f1, .int .i64 a0.f1.f2, .int .i64 a0.f1.f3] 28]) [1, 0, 2, 3] 4 rfl rfl rfl ?_
 refine TK.two (ch := Row (Sh G k28) 28 (.slice (some ⟨b7, 0, none⟩) 1 1) ([a0] : List S28)) (Row.lit (Sh G k28) rfl rfl) ?_
 refine TK.share (fun G9 e10 hs11 _ => ?_)
 have rd12 : Rd G9 k28 (some ⟨b7, 0, none⟩) ([a0] : List S28) := Rd.unsh (Rd.row hs11) e10
 have le13 : ([a0] : List S28).length ≤ 1 := Row.le hs11
 obtain ⟨y14, hy15, h⟩ := bind_no h
 refine TL.cons (TL.callV (Lin := []) (args := [.agg #[.int .i64 0, .slice (some ⟨b7, 0, none⟩) 1 1]]) rfl rfl rfl hbd14 rfl rfl (swageref14_Copy.calls (a0 := (⟨0, ([a0] : List S28)⟩ : S36)) rd12 le13 hy15) rfl ?_)
 rintro _ _ _ _ ⟨rfl, A16, c17, rfl, rfl⟩
 refine TL.cons (TL.alloc (cs := [.int .i64 0, .slice none 0 0]) rfl rfl zr36 rfl (fun b19 => ?_))
 refine TL.cons (TL.store 0 (ds := [.int .i64 y14.f0, .slice A16 y14.f1.length c17]) (cs' := [.int .i64 y14.f0, .slice A16 y14.f1.length c17]) (L' := (Blk b19 [.int .i64 y14.f0, .slice A16 y14.f1.length c17] 36 :: Row k28 28 (.slice A16 y14.f1.length c17) y14.f1 :: Blk b6 [.slice none 0 0, .int .i64 0, .int .i64 0, .int .i64 0, .int .i64 0] 28 :: Blk b5 [.slice A1 a0.f0.length c2, .int .i64 a0.f1.f0, .int .i64 a0.f1.f1, .int .i64 a0.f1.f2, .int .i64 a0.f1.f3] 28 :: L)) rfl fsz36 rfl rfl rfl rfl rfl (Nat.le_of_ble_eq_true rfl) rfl rfl ?_)
 refine TL.nil ?_
 refine TQ.then_ ?_
 refine TC.seq ?_
 refine TC.region ?_
 refine TL.cons (TO.val rfl rfl rfl (Val.fieldAddrB Try.underlying36 rfl fsz34 rfl rfl rfl) ?_)
 refine TL.cons (TO.val rfl rfl rfl (Val.loadB 0 agg34 rfl rfl rfl) ?_)
 refine TK.sel (Ls := [Row k28 28 (.slice A16 y14.f1.length c17) y14.f1, Blk b19 [.int .i64 y14.f0, .slice A16 y14.f1.length c17] 36, Blk b6 [.slice none 0 0, .int .i64 0, .int .i64 0, .int .i64 0, .int .i64 0] 28, Blk b5 [.slice A1 a0.f0.length c2, .int .i64 a0.f1.f0, .int .i64 a0.f1.f1, .int .i64 a0.f1.f2, .int .i64 a0.f1.f3] 28]) [1, 0, 2, 3] 4 rfl rfl rfl ?_
 refine TK.share (fun G20 e21 hs22 _ => ?_)
 have rd23 : Rd G20 k28 A16 y14.f1 := Rd.row hs22
 have le24 : y14.f1.length ≤ c17 := Row.le hs22
 obtain ⟨y25, hx26, h⟩ := bind_no h
 obtain ⟨ad27, cs33, hA28, hi29, hj30, hcl31, hK32⟩ := Rd.at rd23 hx26
 obtain ⟨A34, c35, rfl, hr36, hl37⟩ := k28_openR hK32
 refine TL.cons (TO.val rfl rfl rfl (Val.indexAddr Try.underlying34 fsz28 rfl hA28 rfl hi29 hj30) ?_)
 refine TL.cons (TO.val rfl rfl rfl (Val.fieldAddrE Try.underlying28 rfl fsz26 rfl rfl) ?_)
 refine TL.cons (TO.val rfl rfl rfl (Val.loadS agg26 rfl (hcl31 0 _ rfl)) ?_)
 refine TL.cons (TO.val rfl rfl rfl (Val.assign rfl) ?_)
 refine TL.nil ?_
 refine TQ.then_ ?_
 refine TC.seq ?_
 refine TC.seq ?_
 refine TC.region ?_
 refine TL.cons (TO.val rfl rfl rfl (Val.assign rfl) ?_)
 refine TL.nil ?_
 refine TQ.then_ ?_
 obtain ⟨o1760, ho1760, ko1760⟩ := bind_no h
 clear h
 refine TC.tail (fun a W => ∃ (l1755 : (List S30)) (G1753 : Gd) (A1756 : Option Addr) (c1757 : Nat), l1755 = o1760 ∧ G.le G1753 ∧ Rd G1753 k30 A1756 l1755 ∧ l1755.length ≤ c1757 ∧ Fr 44 a [(1, .pointer (some ⟨b5, 0, none⟩)), (2, .pointer (some ⟨b6, 0, none⟩)), (4, .slice A1756 l1755.length c1757)] ∧ Own G1753 (Blk b5 [.slice A1 a0.f0.length c2, .int .i64 a0.f1.f0, .int .i64 a0.f1.f1, .int .i64 a0.f1.f2, .int .i64 a0.f1.f3] 28 :: Blk b6 [.slice none 0 0, .int .i64 0, .int .i64 0, .int .i64 0, .int .i64 0] 28 :: L) W) ?_ ?_
 ·
  rintro a W ⟨l1755, G1753, A1756, c1757, rfl, e1754, hr1758, hl1759, hF, hO⟩
  have h := ko1760
  clear ko1760 ho1760
  refine TQ.use ?_ hF hO
  clear hF hO
  refine TQ.then_ ?_
  refine TC.seq ?_
  refine TC.region ?_
  refine TL.cons (TO.val rfl rfl rfl (Val.move rfl) ?_)
  refine TL.cons (TO.val rfl rfl rfl (Val.fieldAddrB Try.underlying28 rfl fsz25 rfl rfl rfl) ?_)
  refine TL.cons (TO.val rfl rfl rfl (Val.loadsB 0 (cs := [.int .i64 a0.f1.f0, .int .i64 a0.f1.f1, .int .i64 a0.f1.f2, .int .i64 a0.f1.f3]) agg25 fsz25 rfl rfl rfl rfl) ?_)
  refine TL.cons (TO.val rfl rfl rfl (Val.build (cs := [.slice A1756 l1755.length c1757, .int .i64 a0.f1.f0, .int .i64 a0.f1.f1, .int .i64 a0.f1.f2, .int .i64 a0.f1.f3]) (is := [0, 1]) (xs := [.tmp 40, .tmp 42]) Try.underlying28 zr28 bld28 rfl rfl rfl rfl) ?_)
  refine TL.cons (TL.store 1 (ds := [.slice A1756 l1755.length c1757, .int .i64 a0.f1.f0, .int .i64 a0.f1.f1, .int .i64 a0.f1.f2, .int .i64 a0.f1.f3]) (cs' := [.slice A1756 l1755.length c1757, .int .i64 a0.f1.f0, .int .i64 a0.f1.f1, .int .i64 a0.f1.f2, .int .i64 a0.f1.f3]) (L' := (Blk b5 [.slice A1 a0.f0.length c2, .int .i64 a0.f1.f0, .int .i64 a0.f1.f1, .int .i64 a0.f1.f2, .int .i64 a0.f1.f3] 28 :: Blk b6 [.slice A1756 l1755.length c1757, .int .i64 a0.f1.f0, .int .i64 a0.f1.f1, .int .i64 a0.f1.f2, .int .i64 a0.f1.f3] 28 :: L)) rfl fsz28 rfl rfl rfl rfl rfl (Nat.le_of_ble_eq_true rfl) rfl rfl ?_)
  refine TL.nil ?_
  refine TQ.then_ ?_
  refine TC.ret ?_
  obtain rfl := Option.some.inj h
  exact TQ.fin (.inl rfl) rfl Try.results40 (.cells 1 rfl rfl agg28 fsz28 .nil) rfl (FRel.mk (Ls := []) [] 2 e1754 rfl rfl rfl ⟨A1756, c1757, rfl, rfl, hr1758, hl1759⟩)
 ·
  refine TC.block ?_
  intro a W hF hO
  have hS : ∃ (l1181 : (List S30)) (x1186 : Bool) (G1179 : Gd) (A1182 : Option Addr) (c1183 : Nat), swageref23_Block.l0 (a0.f0.length + 2) l1181 x1186 = some o1760 ∧ G.le G1179 ∧ Rd G1179 k30 A1182 l1181 ∧ l1181.length ≤ c1183 ∧ Fr 44 a [(1, .pointer (some ⟨b5, 0, none⟩)), (2, .pointer (some ⟨b6, 0, none⟩)), (4, .slice A1182 l1181.length c1183), (5, .bool x1186)] ∧ Own G1179 (Blk b5 [.slice A1 a0.f0.length c2, .int .i64 a0.f1.f0, .int .i64 a0.f1.f1, .int .i64 a0.f1.f2, .int .i64 a0.f1.f3] 28 :: Blk b6 [.slice none 0 0, .int .i64 0, .int .i64 0, .int .i64 0, .int .i64 0] 28 :: L) W := by
   exact ⟨y25.f0, true, G20, A34, c35, ho1760, (Gd.le.trans e10 e21), hr36, hl37, hF.sub ⟨rfl, rfl, rfl, rfl, trivial⟩, hO.selT (Ls := [Blk b5 [.slice A1 a0.f0.length c2, .int .i64 a0.f1.f0, .int .i64 a0.f1.f1, .int .i64 a0.f1.f2, .int .i64 a0.f1.f3] 28, Blk b6 [.slice none 0 0, .int .i64 0, .int .i64 0, .int .i64 0, .int .i64 0] 28]) [2, 1] 3 rfl rfl rfl⟩
  clear hF hO ho1760 ko1760
  refine TC.loop (fun n1761 a W => ∃ (l1181 : (List S30)) (x1186 : Bool) (G1179 : Gd) (A1182 : Option Addr) (c1183 : Nat), swageref23_Block.l0 n1761 l1181 x1186 = some o1760 ∧ G.le G1179 ∧ Rd G1179 k30 A1182 l1181 ∧ l1181.length ≤ c1183 ∧ Fr 44 a [(1, .pointer (some ⟨b5, 0, none⟩)), (2, .pointer (some ⟨b6, 0, none⟩)), (4, .slice A1182 l1181.length c1183), (5, .bool x1186)] ∧ Own G1179 (Blk b5 [.slice A1 a0.f0.length c2, .int .i64 a0.f1.f0, .int .i64 a0.f1.f1, .int .i64 a0.f1.f2, .int .i64 a0.f1.f3] 28 :: Blk b6 [.slice none 0 0, .int .i64 0, .int .i64 0, .int .i64 0, .int .i64 0] 28 :: L) W) ?_ ?_ hS
  ·
   rintro a W ⟨l1181, x1186, G1179, A1182, c1183, h, e1180, hr1184, hl1185, hF, hO⟩
   exact none_no h
  ·
   clear hS
   rintro n1761 a W ⟨l1181, x1186, G1179, A1182, c1183, h, e1180, hr1184, hl1185, hF, hO⟩
   rw [swageref23_Block.l0] at h
   refine TC.use ?_ hF hO
   clear hF hO
   refine TC.seq ?_
   refine TC.seq ?_
   refine TC.region ?_
   refine TL.cons (TO.val rfl rfl rfl (Val.move rfl) ?_)
   refine TL.nil ?_
   refine TQ.then_ ?_
   refine TC.cond_b rfl h (fun hc1763 h => ?_) (fun hc1763 h => ?_)
   ·
    refine TC.skip ?_
    refine TQ.then_ ?_
    refine TC.block ?_
    refine TC.seq ?_
    refine TC.region ?_
    refine TL.cons (TO.val rfl rfl rfl (Val.assign rfl) ?_)
    refine TL.nil ?_
    refine TQ.then_ ?_
    refine TC.seq ?_
    refine TC.region ?_
    refine TL.cons (TO.val rfl rfl rfl (Val.assign rfl) ?_)
    refine TL.nil ?_
    refine TQ.then_ ?_
    obtain ⟨o2743, ho2743, ko2743⟩ := bind_no h
    clear h
    refine TC.tail (fun a W => ∃ (l2737 : (List S30)) (x2742 : Bool) (G2735 : Gd) (A2738 : Option Addr) (c2739 : Nat), (l2737, x2742) = o2743 ∧ G.le G2735 ∧ Rd G2735 k30 A2738 l2737 ∧ l2737.length ≤ c2739 ∧ Fr 44 a [(1, .pointer (some ⟨b5, 0, none⟩)), (2, .pointer (some ⟨b6, 0, none⟩)), (4, .slice A2738 l2737.length c2739), (5, .bool x2742)] ∧ Own G2735 (Blk b5 [.slice A1 a0.f0.length c2, .int .i64 a0.f1.f0, .int .i64 a0.f1.f1, .int .i64 a0.f1.f2, .int .i64 a0.f1.f3] 28 :: Blk b6 [.slice none 0 0, .int .i64 0, .int .i64 0, .int .i64 0, .int .i64 0] 28 :: L) W) ?_ ?_
    ·
     rintro a W ⟨l2737, x2742, G2735, A2738, c2739, rfl, e2736, hr2740, hl2741, hF, hO⟩
     have h := ko2743
     clear ko2743 ho2743
     refine TQ.use ?_ hF hO
     clear hF hO
     refine TQ.inB ?_
     exact fun a W hF hO => ⟨l2737, x2742, G2735, A2738, c2739, h, e2736, hr2740, hl2741, hF.sub ⟨rfl, rfl, rfl, rfl, trivial⟩, hO.selT (Ls := [Blk b5 [.slice A1 a0.f0.length c2, .int .i64 a0.f1.f0, .int .i64 a0.f1.f1, .int .i64 a0.f1.f2, .int .i64 a0.f1.f3] 28, Blk b6 [.slice none 0 0, .int .i64 0, .int .i64 0, .int .i64 0, .int .i64 0] 28]) [0, 1] 2 rfl rfl rfl⟩
    ·
     refine TC.block ?_
     intro a W hF hO
     have hS : ∃ (l2551 : (List S30)) (x2556 : Bool) (x2557 : Int) (G2549 : Gd) (A2552 : Option Addr) (c2553 : Nat), swageref23_Block.l1 (l1181.length + 1) l2551 x2556 x2557 = some o2743 ∧ G.le G2549 ∧ Rd G2549 k30 A2552 l2551 ∧ l2551.length ≤ c2553 ∧ Fr 44 a [(1, .pointer (some ⟨b5, 0, none⟩)), (2, .pointer (some ⟨b6, 0, none⟩)), (4, .slice A2552 l2551.length c2553), (5, .bool x2556), (6, .int .i64 x2557)] ∧ Own G2549 (Blk b5 [.slice A1 a0.f0.length c2, .int .i64 a0.f1.f0, .int .i64 a0.f1.f1, .int .i64 a0.f1.f2, .int .i64 a0.f1.f3] 28 :: Blk b6 [.slice none 0 0, .int .i64 0, .int .i64 0, .int .i64 0, .int .i64 0] 28 :: L) W := by
      exact ⟨l1181, false, 0, G1179, A1182, c1183, ho2743, e1180, hr1184, hl1185, hF.sub ⟨rfl, rfl, rfl, rfl, rfl, trivial⟩, hO.selT (Ls := [Blk b5 [.slice A1 a0.f0.length c2, .int .i64 a0.f1.f0, .int .i64 a0.f1.f1, .int .i64 a0.f1.f2, .int .i64 a0.f1.f3] 28, Blk b6 [.slice none 0 0, .int .i64 0, .int .i64 0, .int .i64 0, .int .i64 0] 28]) [0, 1] 2 rfl rfl rfl⟩
     clear hF hO ho2743 ko2743
     refine TC.loop (fun n2744 a W => ∃ (l2551 : (List S30)) (x2556 : Bool) (x2557 : Int) (G2549 : Gd) (A2552 : Option Addr) (c2553 : Nat), swageref23_Block.l1 n2744 l2551 x2556 x2557 = some o2743 ∧ G.le G2549 ∧ Rd G2549 k30 A2552 l2551 ∧ l2551.length ≤ c2553 ∧ Fr 44 a [(1, .pointer (some ⟨b5, 0, none⟩)), (2, .pointer (some ⟨b6, 0, none⟩)), (4, .slice A2552 l2551.length c2553), (5, .bool x2556), (6, .int .i64 x2557)] ∧ Own G2549 (Blk b5 [.slice A1 a0.f0.length c2, .int .i64 a0.f1.f0, .int .i64 a0.f1.f1, .int .i64 a0.f1.f2, .int .i64 a0.f1.f3] 28 :: Blk b6 [.slice none 0 0, .int .i64 0, .int .i64 0, .int .i64 0, .int .i64 0] 28 :: L) W) ?_ ?_ hS
     ·
      rintro a W ⟨l2551, x2556, x2557, G2549, A2552, c2553, h, e2550, hr2554, hl2555, hF, hO⟩
      exact none_no h
     ·
      clear hS
      rintro n2744 a W ⟨l2551, x2556, x2557, G2549, A2552, c2553, h, e2550, hr2554, hl2555, hF, hO⟩
      rw [swageref23_Block.l1] at h
      refine TC.use ?_ hF hO
      clear hF hO
      refine TC.seq ?_
      refine TC.seq ?_
      obtain ⟨j2907, hj2907, h⟩ := jn_no h
      refine TC.tail (fun a W => ∃ (x2906 : Bool) (G2903 : Gd), j2907 x2906 = some o2743 ∧ G.le G2903 ∧ Rd G2903 k30 A2552 l2551 ∧ Fr 44 a [(1, .pointer (some ⟨b5, 0, none⟩)), (2, .pointer (some ⟨b6, 0, none⟩)), (4, .slice A2552 l2551.length c2553), (5, .bool x2556), (6, .int .i64 x2557), (24, .bool x2906)] ∧ Own G2903 (Blk b5 [.slice A1 a0.f0.length c2, .int .i64 a0.f1.f0, .int .i64 a0.f1.f1, .int .i64 a0.f1.f2, .int .i64 a0.f1.f3] 28 :: Blk b6 [.slice none 0 0, .int .i64 0, .int .i64 0, .int .i64 0, .int .i64 0] 28 :: L) W) ?_ ?_
      ·
       rintro a W ⟨x2906, G2903, h, e2904, hr2905, hF, hO⟩
       rw [hj2907] at h
       refine TQ.use ?_ hF hO
       clear hF hO
       refine TQ.then_ ?_
       refine TC.cond_b rfl h (fun hc2909 h => ?_) (fun hc2909 h => ?_)
       ·
        refine TC.skip ?_
        refine TQ.then_ ?_
        refine TC.seq ?_
        refine TC.block ?_
        refine TC.seq ?_
        refine TC.region ?_
        refine TL.cons (TO.val rfl rfl rfl (Val.move rfl) ?_)
        refine TL.cons (TO.val rfl rfl rfl (Val.move rfl) ?_)
        obtain ⟨y2992, hy2993, h⟩ := bind_no h
        refine TL.cons (TL.callV (Lin := []) (args := [.slice A2552 l2551.length c2553, .int .i64 x2557]) rfl rfl rfl hbd41 rfl rfl (swageref23_dead.calls (a0 := l2551) (a1 := x2557) hr2905 hl2555 hy2993) rfl ?_)
        rintro _ _ _ _ ⟨rfl, rfl, rfl⟩
        refine TL.nil ?_
        refine TQ.then_ ?_
        obtain ⟨j3035, hj3035, h⟩ := jn_no h
        refine TC.tail (fun a W => ∃ (l3029 : (List S30)) (x3034 : Bool) (G3027 : Gd) (A3030 : Option Addr) (c3031 : Nat), j3035 l3029 x3034 = some o2743 ∧ G.le G3027 ∧ Rd G3027 k30 A3030 l3029 ∧ l3029.length ≤ c3031 ∧ Fr 44 a [(1, .pointer (some ⟨b5, 0, none⟩)), (2, .pointer (some ⟨b6, 0, none⟩)), (4, .slice A3030 l3029.length c3031), (5, .bool x3034), (6, .int .i64 x2557)] ∧ Own G3027 (Blk b5 [.slice A1 a0.f0.length c2, .int .i64 a0.f1.f0, .int .i64 a0.f1.f1, .int .i64 a0.f1.f2, .int .i64 a0.f1.f3] 28 :: Blk b6 [.slice none 0 0, .int .i64 0, .int .i64 0, .int .i64 0, .int .i64 0] 28 :: L) W) ?_ ?_
        ·
         rintro a W ⟨l3029, x3034, G3027, A3030, c3031, h, e3028, hr3032, hl3033, hF, hO⟩
         rw [hj3035] at h
         refine TQ.use ?_ hF hO
         clear hF hO
         refine TQ.inB ?_
         refine TQ.then_ ?_
         refine TC.region ?_
         refine TL.cons (TO.val rfl rfl rfl (Val.move rfl) ?_)
         refine TL.cons (TO.val rfl rfl rfl (Val.cmp rfl rfl run_add) ?_)
         refine TL.cons (TO.val rfl rfl rfl (Val.assign rfl) ?_)
         refine TL.nil ?_
         exact fun a W hF hO => ⟨l3029, x3034, IntKind.i64.wrap (x2557 + 1), G3027, A3030, c3031, h, e3028, hr3032, hl3033, hF.sub ⟨rfl, rfl, rfl, rfl, rfl, trivial⟩, hO.selT (Ls := [Blk b5 [.slice A1 a0.f0.length c2, .int .i64 a0.f1.f0, .int .i64 a0.f1.f1, .int .i64 a0.f1.f2, .int .i64 a0.f1.f3] 28, Blk b6 [.slice none 0 0, .int .i64 0, .int .i64 0, .int .i64 0, .int .i64 0] 28]) [0, 1] 2 rfl rfl rfl⟩
        ·
         refine TC.cond_b rfl h (fun hc3036 h => ?_) (fun hc3036 h => ?_)
         ·
          refine TC.seq ?_
          refine TC.regionAny [] [1, 2, 3, 5, 6, 7, 8, 10] mixed (by kernel_rfl) ?_
          refine TA.take 1 rfl (by kernel_rfl) rfl (PQ.then_ (PQ.then_ (PQ.inB (PQ.then_ (PQ.then_ (PQ.inB (PQ.then_ (PQ.inB (PQ.then_ (PQ.inB (PQ.then_ (PQ.then_ PQ.body)))))))))))) rfl (Val.move rfl) (fun W hO => hO) ?_
          refine TA.take 2 rfl (by kernel_rfl) rfl (PQ.then_ (PQ.then_ (PQ.inB (PQ.then_ (PQ.then_ (PQ.inB (PQ.then_ (PQ.inB (PQ.then_ (PQ.inB (PQ.then_ (PQ.then_ PQ.body)))))))))))) rfl (Val.move rfl) (fun W hO => hO) ?_
          obtain ⟨y3053, hy3054, h⟩ := bind_no h
          obtain ⟨hr3055, hl3056⟩ := Rd.cut hr2905 hl2555 hy3054
          refine TA.take 3 rfl (by kernel_rfl) rfl (PQ.then_ (PQ.then_ (PQ.inB (PQ.then_ (PQ.then_ (PQ.inB (PQ.then_ (PQ.inB (PQ.then_ (PQ.inB (PQ.then_ (PQ.then_ PQ.body)))))))))))) rfl (Val.cut Try.underlying26 fsz30 rfl rfl hl2555 rfl rfl hy3054) (fun W hO => hO) ?_
          refine TA.take 5 rfl (by kernel_rfl) rfl (PQ.then_ (PQ.then_ (PQ.inB (PQ.then_ (PQ.then_ (PQ.inB (PQ.then_ (PQ.inB (PQ.then_ (PQ.inB (PQ.then_ (PQ.then_ PQ.body)))))))))))) rfl (Val.move rfl) (fun W hO => hO) ?_
          refine TA.take 6 rfl (by kernel_rfl) rfl (PQ.then_ (PQ.then_ (PQ.inB (PQ.then_ (PQ.then_ (PQ.inB (PQ.then_ (PQ.inB (PQ.then_ (PQ.inB (PQ.then_ (PQ.then_ PQ.body)))))))))))) rfl (Val.move rfl) (fun W hO => hO) ?_
          refine TA.take 7 rfl (by kernel_rfl) rfl (PQ.then_ (PQ.then_ (PQ.inB (PQ.then_ (PQ.then_ (PQ.inB (PQ.then_ (PQ.inB (PQ.then_ (PQ.inB (PQ.then_ (PQ.then_ PQ.body)))))))))))) rfl (Val.cmp rfl rfl run_add) (fun W hO => hO) ?_
          obtain ⟨y3057, hy3058, h⟩ := bind_no h
          obtain ⟨hr3059, hl3060⟩ := Rd.cut hr2905 hl2555 hy3058
          refine TA.take 8 rfl (by kernel_rfl) rfl (PQ.then_ (PQ.then_ (PQ.inB (PQ.then_ (PQ.then_ (PQ.inB (PQ.then_ (PQ.inB (PQ.then_ (PQ.inB (PQ.then_ (PQ.then_ PQ.body)))))))))))) rfl (Val.cut Try.underlying26 fsz30 rfl rfl hl2555 rfl rfl hy3058) (fun W hO => hO) ?_
          refine TA.eff 0 rfl (by kernel_rfl) rfl (TL.buildSlice0 k30 rfl rfl Try.underlying26 zs30 (fun b3061 => ?_))
          refine TA.next (fun W hO => hO.selT (Ls := [Blk b5 [.slice A1 a0.f0.length c2, .int .i64 a0.f1.f0, .int .i64 a0.f1.f1, .int .i64 a0.f1.f2, .int .i64 a0.f1.f3] 28, Blk b6 [.slice none 0 0, .int .i64 0, .int .i64 0, .int .i64 0, .int .i64 0] 28]) [1, 2] 3 rfl rfl rfl) ?_
          refine TK.conv (ch' := Row (Sh G2903 k30) 30 (.slice (some ⟨b3061, 0, none⟩) 0 0) ([] : List S30)) (fun B W F hh => Row.empty k30 (Sh G2903 k30) rfl B W F hh) ?_
          obtain ⟨ha3063, h⟩ := ite_no h
          refine TA.eff 4 rfl (by kernel_rfl) rfl (TL.appendR (xs := ([] : List S30)) (ys := y3053) (Sh G2903 k30) (Sh G2903 k30) rfl rfl Try.underlying26 inf30 rfl (Nat.le_of_ble_eq_true rfl) (Nat.le_of_ble_eq_true rfl) rfl rfl (by omega) (Rd.sh hr3055) rfl (fun _ _ _ _ _ h => h) (fun A3064 c3065 => ?_))
          refine TA.next (fun W hO => hO.selT (Ls := [Blk b5 [.slice A1 a0.f0.length c2, .int .i64 a0.f1.f0, .int .i64 a0.f1.f1, .int .i64 a0.f1.f2, .int .i64 a0.f1.f3] 28, Blk b6 [.slice none 0 0, .int .i64 0, .int .i64 0, .int .i64 0, .int .i64 0] 28]) [1, 2] 3 rfl rfl rfl) ?_
          obtain ⟨ha3066, h⟩ := ite_no h
          refine TA.eff 9 rfl (by kernel_rfl) rfl (TL.appendR (xs := (([] : List S30) ++ y3053)) (ys := y3057) (Sh G2903 k30) (Sh G2903 k30) rfl rfl Try.underlying26 inf30 rfl (Nat.le_of_ble_eq_true rfl) (Nat.le_of_ble_eq_true rfl) rfl rfl (by omega) (Rd.sh hr3059) rfl (fun _ _ _ _ _ h => h) (fun A3067 c3068 => ?_))
          refine TA.next (fun W hO => hO.selT (Ls := [Blk b5 [.slice A1 a0.f0.length c2, .int .i64 a0.f1.f0, .int .i64 a0.f1.f1, .int .i64 a0.f1.f2, .int .i64 a0.f1.f3] 28, Blk b6 [.slice none 0 0, .int .i64 0, .int .i64 0, .int .i64 0, .int .i64 0] 28]) [1, 2] 3 rfl rfl rfl) ?_
          refine TA.take 10 rfl (by kernel_rfl) rfl (PQ.then_ (PQ.then_ (PQ.inB (PQ.then_ (PQ.then_ (PQ.inB (PQ.then_ (PQ.inB (PQ.then_ (PQ.inB (PQ.then_ (PQ.then_ PQ.body)))))))))))) rfl (Val.assign rfl) (fun W hO => hO.selT (Ls := [Blk b5 [.slice A1 a0.f0.length c2, .int .i64 a0.f1.f0, .int .i64 a0.f1.f1, .int .i64 a0.f1.f2, .int .i64 a0.f1.f3] 28, Blk b6 [.slice none 0 0, .int .i64 0, .int .i64 0, .int .i64 0, .int .i64 0] 28]) [1, 2] 3 rfl rfl rfl) ?_
          refine TA.done (by kernel_rfl) ?_
          refine TQ.then_ ?_
          refine TC.region ?_
          refine TL.cons (TO.val rfl rfl rfl (Val.assign rfl) ?_)
          refine TL.nil ?_
          refine TQ.share (fun G3069 e3070 hs3071 _ => ?_)
          have rd3072 : Rd G3069 k30 A3067 ((([] : List S30) ++ y3053) ++ y3057) := Rd.unsh (Rd.row hs3071) e3070
          have le3073 : ((([] : List S30) ++ y3053) ++ y3057).length ≤ c3068 := Row.le hs3071
          exact fun a W hF hO => ⟨((([] : List S30) ++ y3053) ++ y3057), true, G3069, A3067, c3068, h, (Gd.le.trans e2904 e3070), rd3072, le3073, hF.sub ⟨rfl, rfl, rfl, rfl, rfl, trivial⟩, hO.selT (Ls := [Blk b5 [.slice A1 a0.f0.length c2, .int .i64 a0.f1.f0, .int .i64 a0.f1.f1, .int .i64 a0.f1.f2, .int .i64 a0.f1.f3] 28, Blk b6 [.slice none 0 0, .int .i64 0, .int .i64 0, .int .i64 0, .int .i64 0] 28]) [0, 1] 2 rfl rfl rfl⟩
         ·
          refine TC.skip ?_
          exact fun a W hF hO => ⟨l2551, x2556, G2903, A2552, c2553, h, e2904, hr2905, hl2555, hF.sub ⟨rfl, rfl, rfl, rfl, rfl, trivial⟩, hO.selT (Ls := [Blk b5 [.slice A1 a0.f0.length c2, .int .i64 a0.f1.f0, .int .i64 a0.f1.f1, .int .i64 a0.f1.f2, .int .i64 a0.f1.f3] 28, Blk b6 [.slice none 0 0, .int .i64 0, .int .i64 0, .int .i64 0, .int .i64 0] 28]) [0, 1] 2 rfl rfl rfl⟩
       ·
        refine TC.exit ?_
        refine TQ.thenX ?_
        refine TQ.thenX ?_
        refine TQ.inBX ?_
        exact fun a W hF hO => ⟨l2551, x2556, G2903, A2552, c2553, Option.some.inj h, e2904, hr2905, hl2555, hF.sub ⟨rfl, rfl, rfl, rfl, trivial⟩, hO.selT (Ls := [Blk b5 [.slice A1 a0.f0.length c2, .int .i64 a0.f1.f0, .int .i64 a0.f1.f1, .int .i64 a0.f1.f2, .int .i64 a0.f1.f3] 28, Blk b6 [.slice none 0 0, .int .i64 0, .int .i64 0, .int .i64 0, .int .i64 0] 28]) [0, 1] 2 rfl rfl rfl⟩
      ·
       refine TC.region ?_
       refine TL.cons (TO.val rfl rfl rfl (Val.move rfl) ?_)
       refine TL.cons (TO.val rfl rfl rfl (Val.move rfl) ?_)
       refine TL.cons (TO.val rfl rfl rfl (Val.len Try.underlying26 rfl) ?_)
       refine TL.cons (TO.val rfl rfl rfl (Val.cmp rfl rfl run_lss) ?_)
       refine TL.cons (TO.val rfl rfl rfl (Val.move rfl) ?_)
       refine TK.split (p := x2557 < (l2551.length : Int)) h (fun hg3074 h => ?_) (fun hg3074 h => ?_)
       ·
        have hk3075 : decide (x2557 < (l2551.length : Int)) = true := decide_eq_true hg3074
        refine TL.cons (TO.val (Wt.yes rfl rfl rfl hk3075) rfl rfl (Val.move rfl) ?_)
        refine TL.cons (TO.val (Wt.yes rfl rfl rfl hk3075) rfl rfl (Val.not_ rfl) ?_)
        refine TL.cons (TO.val rfl rfl rfl (Val.pickY rfl hk3075 rfl) ?_)
        refine TL.nil ?_
        exact fun a W hF hO => ⟨(!x2556), G2549, h, e2550, hr2554, hF.sub ⟨rfl, rfl, rfl, rfl, rfl, rfl, trivial⟩, hO.selT (Ls := [Blk b5 [.slice A1 a0.f0.length c2, .int .i64 a0.f1.f0, .int .i64 a0.f1.f1, .int .i64 a0.f1.f2, .int .i64 a0.f1.f3] 28, Blk b6 [.slice none 0 0, .int .i64 0, .int .i64 0, .int .i64 0, .int .i64 0] 28]) [0, 1] 2 rfl rfl rfl⟩
       ·
        have hk3076 : decide (x2557 < (l2551.length : Int)) = false := decide_eq_false hg3074
        refine TL.cons (TL.not (Wt.no rfl rfl rfl hk3076) rfl ?_)
        refine TL.cons (TL.not (Wt.no rfl rfl rfl hk3076) rfl ?_)
        refine TL.cons (TO.val rfl rfl rfl (Val.pickN rfl hk3076 rfl) ?_)
        refine TL.nil ?_
        exact fun a W hF hO => ⟨false, G2549, h, e2550, hr2554, hF.sub ⟨rfl, rfl, rfl, rfl, rfl, rfl, trivial⟩, hO.selT (Ls := [Blk b5 [.slice A1 a0.f0.length c2, .int .i64 a0.f1.f0, .int .i64 a0.f1.f1, .int .i64 a0.f1.f2, .int .i64 a0.f1.f3] 28, Blk b6 [.slice none 0 0, .int .i64 0, .int .i64 0, .int .i64 0, .int .i64 0] 28]) [0, 1] 2 rfl rfl rfl⟩
   ·
    refine TC.exit ?_
    refine TQ.thenX ?_
    refine TQ.thenX ?_
    refine TQ.inBX ?_
    exact fun a W hF hO => ⟨l1181, G1179, A1182, c1183, Option.some.inj h, e1180, hr1184, hl1185, hF.sub ⟨rfl, rfl, rfl, trivial⟩, hO.selT (Ls := [Blk b5 [.slice A1 a0.f0.length c2, .int .i64 a0.f1.f0, .int .i64 a0.f1.f1, .int .i64 a0.f1.f2, .int .i64 a0.f1.f3] 28, Blk b6 [.slice none 0 0, .int .i64 0, .int .i64 0, .int .i64 0, .int .i64 0] 28]) [0, 1] 2 rfl rfl rfl⟩
end Go.Proofs.Ytmacdhkfgoahcaa.Sy
set_option linter.unusedVariables false
set_option linter.unusedSimpArgs false
set_option maxRecDepth 100000
set_option maxHeartbeats 4000000
namespace Go.Proofs.Ytmacdhkfgoahcaa.Sy
open Go Go.RowKit Go.Proofs.YtmacdhkfgoahcaaW.PrintWords Go.Proofs.Ytmacdhkfgoahcaa.Q
def swageref23_Func.l0 (a0 : S36) : Nat → Int → (List S28) → Option ((List S28))
 | 0, _, _ => none
 | n339 + 1, x225, l226 => (if x225 < (a0.f1.length : Int) then (at? a0.f1 x225).bind fun y519 => (swageref23_Block.f y519).bind fun (y532 : S28) => (if l226.length < 2513169434916 then swageref23_Func.l0 a0 n339 (IntKind.i64.wrap (x225 + 1)) (l226 ++ [y532]) else none) else some l226)
def swageref23_Func.f (a0 : S36) : Option S36 := (swageref23_Func.l0 a0 (a0.f1.length + 1) 0 []).bind fun (l334 : (List S28)) => some (⟨a0.f0, l334⟩ : S36)
def swageref23_Func.post (G : Gd)  (r : S36) (v : Value) (G' : Gd) (Lr : List Ch) : Prop := ∃ (A_1 : Option Addr) (c_1 : Nat), v = .agg #[.int .i64 r.f0, .slice A_1 r.f1.length c_1] ∧ Lr = [Row (Sh G' k28) 28 (.slice A_1 r.f1.length c_1) r.f1]
theorem swageref23_Func.calls {G : Gd} {r : S36} {a0 : S36} {A1 : Option Addr} {c2 : Nat} (hr3 : Rd G k28 A1 a0.f1) (hl4 : a0.f1.length ≤ c2) (h : swageref23_Func.f a0 = some r) : Fn Try.prog 17 G [] [.agg #[.int .i64 a0.f0, .slice A1 a0.f1.length c2]] (swageref23_Func.post G  r) := by
 refine Fn.intro (e := [(0, .agg #[.int .i64 a0.f0, .slice A1 a0.f1.length c2])]) 27 Try.func17 rfl Try.ntmps17 rfl rfl (Nat.le_of_ble_eq_true rfl) (fun L => ?_)
 unfold swageref23_Func.f at h
 refine TC.seq ?_
 refine TC.region ?_
 refine TL.cons (TL.box (cs := [.int .i64 a0.f0, .slice A1 a0.f1.length c2]) rfl rfl rfl rfl (fun b5 => ?_))
 refine TL.cons (TL.alloc (cs := [.int .i64 0, .slice none 0 0]) rfl rfl zr36 rfl (fun b6 => ?_))
 refine TL.nil ?_
 refine TQ.then_ ?_
 refine TC.seq ?_
 refine TC.region ?_
 refine TL.cons (TO.val rfl rfl rfl (Val.fieldAddrB Try.underlying36 rfl fsz3 rfl rfl rfl) ?_)
 refine TL.cons (TO.val rfl rfl rfl (Val.loadB 1 agg3 rfl rfl rfl) ?_)
 refine TL.cons (TO.val rfl rfl rfl (Val.build (cs := [.int .i64 a0.f0, .slice none 0 0]) (is := [0]) (xs := [.tmp 6]) Try.underlying36 zr36 bld36 rfl rfl rfl rfl) ?_)
 refine TL.cons (TL.alloc (cs := [.int .i64 0, .slice none 0 0]) rfl rfl zr36 rfl (fun b7 => ?_))
 refine TL.cons (TL.store 0 (ds := [.int .i64 a0.f0, .slice none 0 0]) (cs' := [.int .i64 a0.f0, .slice none 0 0]) (L' := (Blk b7 [.int .i64 a0.f0, .slice none 0 0] 36 :: Blk b6 [.int .i64 0, .slice none 0 0] 36 :: Blk b5 [.int .i64 a0.f0, .slice A1 a0.f1.length c2] 36 :: L)) rfl fsz36 rfl rfl rfl rfl rfl (Nat.le_of_ble_eq_true rfl) rfl rfl ?_)
 refine TL.nil ?_
 refine TQ.then_ ?_
 refine TC.seq ?_
 refine TC.seq ?_
 refine TC.region ?_
 refine TL.cons (TO.val rfl rfl rfl (Val.assign rfl) ?_)
 refine TL.nil ?_
 refine TQ.then_ ?_
 obtain ⟨o338, ho338, ko338⟩ := bind_no h
 clear h
 refine TC.tail (fun a W => ∃ (l334 : (List S28)) (G332 : Gd) (A335 : Option Addr) (c336 : Nat), l334 = o338 ∧ G.le G332 ∧ Fr 27 a [(2, .pointer (some ⟨b6, 0, none⟩)), (3, .pointer (some ⟨b7, 0, none⟩))] ∧ Own G332 (Blk b6 [.int .i64 0, .slice none 0 0] 36 :: Blk b7 [.int .i64 a0.f0, .slice A335 l334.length c336] 36 :: Row (Sh G332 k28) 28 (.slice A335 l334.length c336) l334 :: L) W) ?_ ?_
 ·
  rintro a W ⟨l334, G332, A335, c336, rfl, e333, hF, hO⟩
  have h := ko338
  clear ko338 ho338
  refine TQ.use ?_ hF hO
  clear hF hO
  refine TQ.then_ ?_
  refine TC.seq ?_
  refine TC.region ?_
  refine TL.cons (TO.val rfl rfl rfl (Val.loadsB 1 (cs := [.int .i64 a0.f0, .slice A335 l334.length c336]) agg36 fsz36 rfl rfl rfl rfl) ?_)
  refine TL.cons (TL.store 0 (ds := [.int .i64 a0.f0, .slice A335 l334.length c336]) (cs' := [.int .i64 a0.f0, .slice A335 l334.length c336]) (L' := (Blk b6 [.int .i64 a0.f0, .slice A335 l334.length c336] 36 :: Blk b7 [.int .i64 a0.f0, .slice A335 l334.length c336] 36 :: Row (Sh G332 k28) 28 (.slice A335 l334.length c336) l334 :: L)) rfl fsz36 rfl rfl rfl rfl rfl (Nat.le_of_ble_eq_true rfl) rfl rfl ?_)
  refine TL.nil ?_
  refine TQ.then_ ?_
  refine TC.ret ?_
  obtain rfl := Option.some.inj h
  exact TQ.fin (.inl rfl) rfl Try.results17 (.cells 0 rfl rfl agg36 fsz36 .nil) rfl (FRel.mk (Ls := [Row (Sh G332 k28) 28 (.slice A335 l334.length c336) l334]) [2] 3 e333 rfl rfl rfl ⟨A335, c336, rfl, rfl⟩)
 ·
  refine TC.block ?_
  intro a W hF hO
  have hS : ∃ (x225 : Int) (l226 : (List S28)) (G223 : Gd) (A227 : Option Addr) (c228 : Nat), swageref23_Func.l0 a0 (a0.f1.length + 1) x225 l226 = some o338 ∧ G.le G223 ∧ Fr 27 a [(1, .pointer (some ⟨b5, 0, none⟩)), (2, .pointer (some ⟨b6, 0, none⟩)), (3, .pointer (some ⟨b7, 0, none⟩)), (4, .int .i64 x225)] ∧ Own G223 (Blk b5 [.int .i64 a0.f0, .slice A1 a0.f1.length c2] 36 :: Blk b6 [.int .i64 0, .slice none 0 0] 36 :: Blk b7 [.int .i64 a0.f0, .slice A227 l226.length c228] 36 :: Row (Sh G223 k28) 28 (.slice A227 l226.length c228) l226 :: L) W := by
   exact ⟨0, [], G, none, 0, ho338, (Gd.le.refl _), hF.sub ⟨rfl, rfl, rfl, rfl, trivial⟩, (Own.nilRow (Sh G k28) 28 hO).selT (Ls := [Blk b5 [.int .i64 a0.f0, .slice A1 a0.f1.length c2] 36, Blk b6 [.int .i64 0, .slice none 0 0] 36, Blk b7 [.int .i64 a0.f0, .slice none ([] : List S28).length 0] 36, Row (Sh G k28) 28 (.slice none ([] : List S28).length 0) ([] : List S28)]) [3, 2, 1, 0] 4 rfl rfl rfl⟩
  clear hF hO ho338 ko338
  refine TC.loop (fun n339 a W => ∃ (x225 : Int) (l226 : (List S28)) (G223 : Gd) (A227 : Option Addr) (c228 : Nat), swageref23_Func.l0 a0 n339 x225 l226 = some o338 ∧ G.le G223 ∧ Fr 27 a [(1, .pointer (some ⟨b5, 0, none⟩)), (2, .pointer (some ⟨b6, 0, none⟩)), (3, .pointer (some ⟨b7, 0, none⟩)), (4, .int .i64 x225)] ∧ Own G223 (Blk b5 [.int .i64 a0.f0, .slice A1 a0.f1.length c2] 36 :: Blk b6 [.int .i64 0, .slice none 0 0] 36 :: Blk b7 [.int .i64 a0.f0, .slice A227 l226.length c228] 36 :: Row (Sh G223 k28) 28 (.slice A227 l226.length c228) l226 :: L) W) ?_ ?_ hS
  ·
   rintro a W ⟨x225, l226, G223, A227, c228, h, e224, hF, hO⟩
   exact none_no h
  ·
   clear hS
   rintro n339 a W ⟨x225, l226, G223, A227, c228, h, e224, hF, hO⟩
   rw [swageref23_Func.l0] at h
   refine TC.use ?_ hF hO
   clear hF hO
   refine TC.seq ?_
   refine TC.seq ?_
   refine TC.region ?_
   refine TL.cons (TO.val rfl rfl rfl (Val.move rfl) ?_)
   refine TL.cons (TO.val rfl rfl rfl (Val.fieldAddrB Try.underlying36 rfl fsz34 rfl rfl rfl) ?_)
   refine TL.cons (TO.val rfl rfl rfl (Val.loadB 0 agg34 rfl rfl rfl) ?_)
   refine TL.cons (TO.val rfl rfl rfl (Val.len Try.underlying34 rfl) ?_)
   refine TL.cons (TO.val rfl rfl rfl (Val.cmp rfl rfl run_lss) ?_)
   refine TL.nil ?_
   refine TQ.then_ ?_
   refine TC.cond_p rfl h (fun hc443 h => ?_) (fun hc443 h => ?_)
   ·
    refine TC.skip ?_
    refine TQ.then_ ?_
    refine TC.seq ?_
    refine TC.block ?_
    refine TC.regionAnyS (L0 := (Blk b5 [.int .i64 a0.f0, .slice A1 a0.f1.length c2] 36 :: Blk b6 [.int .i64 0, .slice none 0 0] 36 :: Blk b7 [.int .i64 a0.f0, .slice A227 l226.length c228] 36 :: L)) [11] [0, 1, 2, 3, 4, 5, 6, 10] mixed (by kernel_rfl) ?_
    refine TA.take 0 rfl (by kernel_rfl) rfl (PQ.inB (PQ.then_ (PQ.then_ (PQ.inB (PQ.then_ (PQ.then_ PQ.body)))))) rfl (Val.fieldAddrB Try.underlying36 rfl fsz34 rfl rfl rfl) (fun W hO => hO.selT (Ls := [Blk b5 [.int .i64 a0.f0, .slice A1 a0.f1.length c2] 36, Blk b6 [.int .i64 0, .slice none 0 0] 36, Blk b7 [.int .i64 a0.f0, .slice A227 l226.length c228] 36]) [0, 1, 2] 4 rfl rfl rfl) ?_
    refine TA.take 1 rfl (by kernel_rfl) rfl (PQ.inB (PQ.then_ (PQ.then_ (PQ.inB (PQ.then_ (PQ.then_ PQ.body)))))) rfl (Val.loadB 2 agg34 rfl rfl rfl) (fun W hO => hO.selT (Ls := [Blk b5 [.int .i64 a0.f0, .slice A1 a0.f1.length c2] 36, Blk b6 [.int .i64 0, .slice none 0 0] 36, Blk b7 [.int .i64 a0.f0, .slice A227 l226.length c228] 36]) [0, 1, 2] 4 rfl rfl rfl) ?_
    refine TA.take 2 rfl (by kernel_rfl) rfl (PQ.inB (PQ.then_ (PQ.then_ (PQ.inB (PQ.then_ (PQ.then_ PQ.body)))))) rfl (Val.fieldAddrB Try.underlying36 rfl fsz34 rfl rfl rfl) (fun W hO => hO.selT (Ls := [Blk b5 [.int .i64 a0.f0, .slice A1 a0.f1.length c2] 36, Blk b6 [.int .i64 0, .slice none 0 0] 36, Blk b7 [.int .i64 a0.f0, .slice A227 l226.length c228] 36]) [0, 1, 2] 4 rfl rfl rfl) ?_
    refine TA.take 3 rfl (by kernel_rfl) rfl (PQ.inB (PQ.then_ (PQ.then_ (PQ.inB (PQ.then_ (PQ.then_ PQ.body)))))) rfl (Val.loadB 0 agg34 rfl rfl rfl) (fun W hO => hO.selT (Ls := [Blk b5 [.int .i64 a0.f0, .slice A1 a0.f1.length c2] 36, Blk b6 [.int .i64 0, .slice none 0 0] 36, Blk b7 [.int .i64 a0.f0, .slice A227 l226.length c228] 36]) [0, 1, 2] 4 rfl rfl rfl) ?_
    refine TA.take 4 rfl (by kernel_rfl) rfl (PQ.inB (PQ.then_ (PQ.then_ (PQ.inB (PQ.then_ (PQ.then_ PQ.body)))))) rfl (Val.move rfl) (fun W hO => hO.selT (Ls := [Blk b5 [.int .i64 a0.f0, .slice A1 a0.f1.length c2] 36, Blk b6 [.int .i64 0, .slice none 0 0] 36, Blk b7 [.int .i64 a0.f0, .slice A227 l226.length c228] 36]) [0, 1, 2] 4 rfl rfl rfl) ?_
    obtain ⟨y519, hx520, h⟩ := bind_no h
    obtain ⟨ad521, cs527, hA522, hi523, hj524, hcl525, hK526⟩ := Rd.at (hr3.up e224) hx520
    obtain ⟨A528, c529, rfl, hr530, hl531⟩ := k28_openR hK526
    refine TA.take 5 rfl (by kernel_rfl) rfl (PQ.inB (PQ.then_ (PQ.then_ (PQ.inB (PQ.then_ (PQ.then_ PQ.body)))))) rfl (Val.indexAddr Try.underlying34 fsz28 rfl hA522 rfl hi523 hj524) (fun W hO => hO.selT (Ls := [Blk b5 [.int .i64 a0.f0, .slice A1 a0.f1.length c2] 36, Blk b6 [.int .i64 0, .slice none 0 0] 36, Blk b7 [.int .i64 a0.f0, .slice A227 l226.length c228] 36]) [0, 1, 2] 4 rfl rfl rfl) ?_
    refine TA.take 6 rfl (by kernel_rfl) rfl (PQ.inB (PQ.then_ (PQ.then_ (PQ.inB (PQ.then_ (PQ.then_ PQ.body)))))) rfl (Val.loadsS (cs := [.slice A528 y519.f0.length c529, .int .i64 y519.f1.f0, .int .i64 y519.f1.f1, .int .i64 y519.f1.f2, .int .i64 y519.f1.f3]) agg28 fsz28 rfl rfl (Cl.sub (off := 0) (n := 5) hcl525 rfl)) (fun W hO => hO.selT (Ls := [Blk b5 [.int .i64 a0.f0, .slice A1 a0.f1.length c2] 36, Blk b6 [.int .i64 0, .slice none 0 0] 36, Blk b7 [.int .i64 a0.f0, .slice A227 l226.length c228] 36]) [0, 1, 2] 4 rfl rfl rfl) ?_
    obtain ⟨y532, hy533, h⟩ := bind_no h
    refine TA.eff 7 rfl (by kernel_rfl) rfl (TL.callV (Lin := []) (args := [.agg #[.slice A528 y519.f0.length c529, .int .i64 y519.f1.f0, .int .i64 y519.f1.f1, .int .i64 y519.f1.f2, .int .i64 y519.f1.f3]]) rfl rfl rfl hbd40 rfl rfl (swageref23_Block.calls (a0 := y519) hr530 hl531 hy533) rfl ?_)
    rintro _ G534 _ e535 ⟨A536, c537, rfl, rfl, hr538, hl539⟩
    refine TA.next (fun W hO => (Own.weak e535 hO).selT (Ls := [Blk b5 [.int .i64 a0.f0, .slice A1 a0.f1.length c2] 36, Blk b6 [.int .i64 0, .slice none 0 0] 36, Blk b7 [.int .i64 a0.f0, .slice A227 l226.length c228] 36]) [0, 1, 2] 4 rfl rfl rfl) ?_
    refine TA.eff 8 rfl (by kernel_rfl) rfl (TL.buildSlice (xs := [.tmp 22]) (vs := [.agg #[.slice A536 y532.f0.length c537, .int .i64 y532.f1.f0, .int .i64 y532.f1.f1, .int .i64 y532.f1.f2, .int .i64 y532.f1.f3]]) (cs := [.slice A536 y532.f0.length c537, .int .i64 y532.f1.f0, .int .i64 y532.f1.f1, .int .i64 y532.f1.f2, .int .i64 y532.f1.f3]) rfl rfl Try.underlying34 zs28 rfl rfl rfl rfl rfl rfl rfl rfl (fun b540 => ?_))
    refine TA.next (fun W hO => (Own.weak e535 hO).selT (Ls := [Blk b5 [.int .i64 a0.f0, .slice A1 a0.f1.length c2] 36, Blk b6 [.int .i64 0, .slice none 0 0] 36, Blk b7 [.int .i64 a0.f0, .slice A227 l226.length c228] 36]) [1, 2, 3] 5 rfl rfl rfl) ?_
    refine TK.new (El.of (k := (Sh G534 k28)) (xv := y532) (cs := [.slice A536 y532.f0.length c537, .int .i64 y532.f1.f0, .int .i64 y532.f1.f1, .int .i64 y532.f1.f2, .int .i64 y532.f1.f3]) (fun W B => Sh.mk (fun W hW => k28_mk W y532 hl539 (hr538 W hW)) W B _)) ?_
    refine TK.sel (Ls := [Row (Sh G223 k28) 28 (.slice A227 l226.length c228) l226, El (Sh G534 k28) y532 [.slice A536 y532.f0.length c537, .int .i64 y532.f1.f0, .int .i64 y532.f1.f1, .int .i64 y532.f1.f2, .int .i64 y532.f1.f3], Blk b540 [.slice A536 y532.f0.length c537, .int .i64 y532.f1.f0, .int .i64 y532.f1.f1, .int .i64 y532.f1.f2, .int .i64 y532.f1.f3] 28, Blk b5 [.int .i64 a0.f0, .slice A1 a0.f1.length c2] 36, Blk b6 [.int .i64 0, .slice none 0 0] 36, Blk b7 [.int .i64 a0.f0, .slice A227 l226.length c228] 36]) [5, 0, 1, 2, 3, 4] 6 rfl rfl rfl ?_
    refine TK.conv (ch' := Row (Sh G534 k28) 28 (.slice A227 l226.length c228) l226) (fun B W F hh => Row.sh e535 B W F hh) ?_
    refine TK.sel (Ls := [El (Sh G534 k28) y532 [.slice A536 y532.f0.length c537, .int .i64 y532.f1.f0, .int .i64 y532.f1.f1, .int .i64 y532.f1.f2, .int .i64 y532.f1.f3], Row (Sh G534 k28) 28 (.slice A227 l226.length c228) l226, Blk b540 [.slice A536 y532.f0.length c537, .int .i64 y532.f1.f0, .int .i64 y532.f1.f1, .int .i64 y532.f1.f2, .int .i64 y532.f1.f3] 28, Blk b5 [.int .i64 a0.f0, .slice A1 a0.f1.length c2] 36, Blk b6 [.int .i64 0, .slice none 0 0] 36, Blk b7 [.int .i64 a0.f0, .slice A227 l226.length c228] 36]) [1, 0, 2, 3, 4, 5] 6 rfl rfl rfl ?_
    refine TK.sel (Ls := [Row (Sh G534 k28) 28 (.slice A227 l226.length c228) l226, El (Sh G534 k28) y532 [.slice A536 y532.f0.length c537, .int .i64 y532.f1.f0, .int .i64 y532.f1.f1, .int .i64 y532.f1.f2, .int .i64 y532.f1.f3], Blk b540 [.slice A536 y532.f0.length c537, .int .i64 y532.f1.f0, .int .i64 y532.f1.f1, .int .i64 y532.f1.f2, .int .i64 y532.f1.f3] 28, Blk b5 [.int .i64 a0.f0, .slice A1 a0.f1.length c2] 36, Blk b6 [.int .i64 0, .slice none 0 0] 36, Blk b7 [.int .i64 a0.f0, .slice A227 l226.length c228] 36]) [1, 0, 2, 3, 4, 5] 6 rfl rfl rfl ?_
    obtain ⟨ha541, h⟩ := ite_no h
    refine TA.eff 9 rfl (by kernel_rfl) rfl (TL.append (xs := l226) (Sh G534 k28) rfl rfl Try.underlying34 inf28 rfl (Nat.le_of_ble_eq_true rfl) (Nat.le_of_ble_eq_true rfl) rfl rfl (by omega) (fun A542 c543 => ?_))
    refine TA.next (fun W hO => (Own.weak e535 hO).selT (Ls := [Blk b5 [.int .i64 a0.f0, .slice A1 a0.f1.length c2] 36, Blk b6 [.int .i64 0, .slice none 0 0] 36, Blk b7 [.int .i64 a0.f0, .slice A227 l226.length c228] 36]) [1, 2, 3] 4 rfl rfl rfl) ?_
    refine TA.take 10 rfl (by kernel_rfl) rfl (PQ.inB (PQ.then_ (PQ.then_ (PQ.inB (PQ.then_ (PQ.then_ PQ.body)))))) rfl (Val.fieldAddrB Try.underlying36 rfl fsz34 rfl rfl rfl) (fun W hO => (Own.weak e535 hO).selT (Ls := [Blk b5 [.int .i64 a0.f0, .slice A1 a0.f1.length c2] 36, Blk b6 [.int .i64 0, .slice none 0 0] 36, Blk b7 [.int .i64 a0.f0, .slice A227 l226.length c228] 36]) [1, 2, 3] 4 rfl rfl rfl) ?_
    refine TA.eff 11 rfl (by kernel_rfl) rfl (TL.store 3 (ds := [.slice A542 (l226 ++ [y532]).length c543]) (cs' := [.int .i64 a0.f0, .slice A542 (l226 ++ [y532]).length c543]) (L' := (Row (Sh G534 k28) 28 (.slice A542 (l226 ++ [y532]).length c543) (l226 ++ [y532]) :: Blk b5 [.int .i64 a0.f0, .slice A1 a0.f1.length c2] 36 :: Blk b6 [.int .i64 0, .slice none 0 0] 36 :: Blk b7 [.int .i64 a0.f0, .slice A542 (l226 ++ [y532]).length c543] 36 :: L)) rfl fsz34 rfl rfl rfl rfl rfl (Nat.le_of_ble_eq_true rfl) rfl rfl ?_)
    refine TA.last rfl ?_
    refine TA.done (by kernel_rfl) ?_
    refine TQ.inB ?_
    refine TQ.then_ ?_
    refine TC.region ?_
    refine TL.cons (TO.val rfl rfl rfl (Val.move rfl) ?_)
    refine TL.cons (TO.val rfl rfl rfl (Val.cmp rfl rfl run_add) ?_)
    refine TL.cons (TO.val rfl rfl rfl (Val.assign rfl) ?_)
    refine TL.nil ?_
    exact fun a W hF hO => ⟨IntKind.i64.wrap (x225 + 1), (l226 ++ [y532]), G534, A542, c543, h, (Gd.le.trans e224 e535), hF.sub ⟨rfl, rfl, rfl, rfl, trivial⟩, hO.selT (Ls := [Blk b5 [.int .i64 a0.f0, .slice A1 a0.f1.length c2] 36, Blk b6 [.int .i64 0, .slice none 0 0] 36, Blk b7 [.int .i64 a0.f0, .slice A542 (l226 ++ [y532]).length c543] 36, Row (Sh G534 k28) 28 (.slice A542 (l226 ++ [y532]).length c543) (l226 ++ [y532])]) [1, 2, 3, 0] 4 rfl rfl rfl⟩
   ·
    refine TC.exit ?_
    refine TQ.thenX ?_
    refine TQ.thenX ?_
    refine TQ.inBX ?_
    exact fun a W hF hO => ⟨l226, G223, A227, c228, Option.some.inj h, e224, hF.sub ⟨rfl, rfl, trivial⟩, hO.selT (Ls := [Blk b6 [.int .i64 0, .slice none 0 0] 36, Blk b7 [.int .i64 a0.f0, .slice A227 l226.length c228] 36, Row (Sh G223 k28) 28 (.slice A227 l226.length c228) l226]) [1, 2, 3] 4 rfl rfl rfl⟩
end Go.Proofs.Ytmacdhkfgoahcaa.Sy
set_option linter.unusedVariables false
set_option linter.unusedSimpArgs false
set_option maxRecDepth 100000
set_option maxHeartbeats 4000000
namespace Go.Proofs.Ytmacdhkfgoahcaa.Sy
open Go Go.RowKit Go.Proofs.YtmacdhkfgoahcaaW.PrintWords Go.Proofs.Ytmacdhkfgoahcaa.Q
def swageref23_Stores.l1 (a0 : S36) (x477 : Int) : Nat → Int → Int → Option (Int)
 | 0, _, _ => none
 | n1245 + 1, x1192, x1193 => (at? a0.f1 x477).bind fun y1293 => (if x1193 < (y1293.f0.length : Int) then (at? y1293.f0 x1193).bind fun y1325 => jn (γ := (Int)) (fun (x1339 : Int) => swageref23_Stores.l1 a0 x477 n1245 x1339 (IntKind.i64.wrap (x1193 + 1))) (fun (j1340 : (Int → Option (Int))) => (if y1325.f0 = 5 then j1340 (IntKind.i64.wrap (x1192 + 1)) else j1340 x1192)) else some x1192)
def swageref23_Stores.l0 (a0 : S36) : Nat → Int → Int → Option (Int)
 | 0, _, _ => none
 | n714 + 1, x476, x477 => (if x477 < (a0.f1.length : Int) then (swageref23_Stores.l1 a0 x477 ((at? a0.f1 x477).elim 0 (fun vy1246 => vy1246.f0.length) + 1) x476 0).bind fun (x1243 : Int) => swageref23_Stores.l0 a0 n714 x1243 (IntKind.i64.wrap (x477 + 1)) else some x476)
def swageref23_Stores.f (a0 : S36) : Option Int := (swageref23_Stores.l0 a0 (a0.f1.length + 1) 0 0).bind fun (x712 : Int) => some x712
def swageref23_Stores.post (G : Gd)  (r : Int) (v : Value) (G' : Gd) (Lr : List Ch) : Prop := G = G' ∧ v = .int .i64 r ∧ Lr = []
theorem swageref23_Stores.calls {G : Gd} {r : Int} {a0 : S36} {A1 : Option Addr} {c2 : Nat} (hr3 : Rd G k28 A1 a0.f1) (hl4 : a0.f1.length ≤ c2) (h : swageref23_Stores.f a0 = some r) : Fn Try.prog 18 G [] [.agg #[.int .i64 a0.f0, .slice A1 a0.f1.length c2]] (swageref23_Stores.post G  r) := by
 refine Fn.intro (e := [(0, .agg #[.int .i64 a0.f0, .slice A1 a0.f1.length c2])]) 38 Try.func18 rfl Try.ntmps18 rfl rfl (Nat.le_of_ble_eq_true rfl) (fun L => ?_)
 unfold swageref23_Stores.f at h
 refine TC.seq ?_
 refine TC.region ?_
 refine TL.cons (TL.box (cs := [.int .i64 a0.f0, .slice A1 a0.f1.length c2]) rfl rfl rfl rfl (fun b5 => ?_))
 refine TL.cons (TO.val rfl rfl rfl (Val.assign rfl) ?_)
 refine TL.nil ?_
 refine TQ.then_ ?_
 refine TC.seq ?_
 refine TC.region ?_
 refine TL.cons (TO.val rfl rfl rfl (Val.assign rfl) ?_)
 refine TL.nil ?_
 refine TQ.then_ ?_
 refine TC.seq ?_
 refine TC.seq ?_
 refine TC.region ?_
 refine TL.cons (TO.val rfl rfl rfl (Val.assign rfl) ?_)
 refine TL.nil ?_
 refine TQ.then_ ?_
 obtain ⟨o713, ho713, ko713⟩ := bind_no h
 clear h
 refine TC.tail (fun a W => ∃ (x712 : Int), x712 = o713 ∧ Fr 38 a [(3, .int .i64 x712)] ∧ Own G (L) W) ?_ ?_
 ·
  rintro a W ⟨x712, rfl, hF, hO⟩
  have h := ko713
  clear ko713 ho713
  refine TQ.use ?_ hF hO
  clear hF hO
  refine TQ.then_ ?_
  refine TC.seq ?_
  refine TC.region ?_
  refine TL.cons (TO.val rfl rfl rfl (Val.move rfl) ?_)
  refine TL.cons (TO.val rfl rfl rfl (Val.assign rfl) ?_)
  refine TL.nil ?_
  refine TQ.then_ ?_
  refine TC.ret ?_
  obtain rfl := Option.some.inj h
  exact TQ.fin (.inl rfl) rfl Try.results18 (.tmp rfl .nil) rfl (FRel.mk (Ls := []) [] 0 (Gd.le.refl _) rfl rfl rfl ⟨rfl, rfl, rfl⟩)
 ·
  refine TC.block ?_
  intro a W hF hO
  have hS : ∃ (x476 : Int) (x477 : Int), swageref23_Stores.l0 a0 (a0.f1.length + 1) x476 x477 = some o713 ∧ Fr 38 a [(1, .pointer (some ⟨b5, 0, none⟩)), (3, .int .i64 x476), (4, .int .i64 x477)] ∧ Own G (Blk b5 [.int .i64 a0.f0, .slice A1 a0.f1.length c2] 36 :: L) W := by
   exact ⟨0, 0, ho713, hF.sub ⟨rfl, rfl, rfl, trivial⟩, hO.selT (Ls := [Blk b5 [.int .i64 a0.f0, .slice A1 a0.f1.length c2] 36]) [0] 1 rfl rfl rfl⟩
  clear hF hO ho713 ko713
  refine TC.loop (fun n714 a W => ∃ (x476 : Int) (x477 : Int), swageref23_Stores.l0 a0 n714 x476 x477 = some o713 ∧ Fr 38 a [(1, .pointer (some ⟨b5, 0, none⟩)), (3, .int .i64 x476), (4, .int .i64 x477)] ∧ Own G (Blk b5 [.int .i64 a0.f0, .slice A1 a0.f1.length c2] 36 :: L) W) ?_ ?_ hS
  ·
   rintro a W ⟨x476, x477, h, hF, hO⟩
   exact none_no h
  ·
   clear hS
   rintro n714 a W ⟨x476, x477, h, hF, hO⟩
   rw [swageref23_Stores.l0] at h
   refine TC.use ?_ hF hO
   clear hF hO
   refine TC.seq ?_
   refine TC.seq ?_
   refine TC.region ?_
   refine TL.cons (TO.val rfl rfl rfl (Val.move rfl) ?_)
   refine TL.cons (TO.val rfl rfl rfl (Val.fieldAddrB Try.underlying36 rfl fsz34 rfl rfl rfl) ?_)
   refine TL.cons (TO.val rfl rfl rfl (Val.loadB 0 agg34 rfl rfl rfl) ?_)
   refine TL.cons (TO.val rfl rfl rfl (Val.len Try.underlying34 rfl) ?_)
   refine TL.cons (TO.val rfl rfl rfl (Val.cmp rfl rfl run_lss) ?_)
   refine TL.nil ?_
   refine TQ.then_ ?_
   refine TC.cond_p rfl h (fun hc948 h => ?_) (fun hc948 h => ?_)
   ·
    refine TC.skip ?_
    refine TQ.then_ ?_
    refine TC.seq ?_
    refine TC.block ?_
    refine TC.seq ?_
    refine TC.region ?_
    refine TL.cons (TO.val rfl rfl rfl (Val.assign rfl) ?_)
    refine TL.nil ?_
    refine TQ.then_ ?_
    obtain ⟨o1244, ho1244, ko1244⟩ := bind_no h
    clear h
    refine TC.tail (fun a W => ∃ (x1243 : Int), x1243 = o1244 ∧ Fr 38 a [(1, .pointer (some ⟨b5, 0, none⟩)), (3, .int .i64 x1243), (4, .int .i64 x477)] ∧ Own G (Blk b5 [.int .i64 a0.f0, .slice A1 a0.f1.length c2] 36 :: L) W) ?_ ?_
    ·
     rintro a W ⟨x1243, rfl, hF, hO⟩
     have h := ko1244
     clear ko1244 ho1244
     refine TQ.use ?_ hF hO
     clear hF hO
     refine TQ.inB ?_
     refine TQ.then_ ?_
     refine TC.region ?_
     refine TL.cons (TO.val rfl rfl rfl (Val.move rfl) ?_)
     refine TL.cons (TO.val rfl rfl rfl (Val.cmp rfl rfl run_add) ?_)
     refine TL.cons (TO.val rfl rfl rfl (Val.assign rfl) ?_)
     refine TL.nil ?_
     exact fun a W hF hO => ⟨x1243, IntKind.i64.wrap (x477 + 1), h, hF.sub ⟨rfl, rfl, rfl, trivial⟩, hO.selT (Ls := [Blk b5 [.int .i64 a0.f0, .slice A1 a0.f1.length c2] 36]) [0] 1 rfl rfl rfl⟩
    ·
     refine TC.block ?_
     intro a W hF hO
     have hS : ∃ (x1192 : Int) (x1193 : Int), swageref23_Stores.l1 a0 x477 ((at? a0.f1 x477).elim 0 (fun vy1246 => vy1246.f0.length) + 1) x1192 x1193 = some o1244 ∧ Fr 38 a [(1, .pointer (some ⟨b5, 0, none⟩)), (3, .int .i64 x1192), (4, .int .i64 x477), (5, .int .i64 x1193)] ∧ Own G (Blk b5 [.int .i64 a0.f0, .slice A1 a0.f1.length c2] 36 :: L) W := by
      exact ⟨x476, 0, ho1244, hF.sub ⟨rfl, rfl, rfl, rfl, trivial⟩, hO.selT (Ls := [Blk b5 [.int .i64 a0.f0, .slice A1 a0.f1.length c2] 36]) [0] 1 rfl rfl rfl⟩
     clear hF hO ho1244 ko1244
     refine TC.loop (fun n1245 a W => ∃ (x1192 : Int) (x1193 : Int), swageref23_Stores.l1 a0 x477 n1245 x1192 x1193 = some o1244 ∧ Fr 38 a [(1, .pointer (some ⟨b5, 0, none⟩)), (3, .int .i64 x1192), (4, .int .i64 x477), (5, .int .i64 x1193)] ∧ Own G (Blk b5 [.int .i64 a0.f0, .slice A1 a0.f1.length c2] 36 :: L) W) ?_ ?_ hS
     ·
      rintro a W ⟨x1192, x1193, h, hF, hO⟩
      exact none_no h
     ·
      clear hS
      rintro n1245 a W ⟨x1192, x1193, h, hF, hO⟩
      rw [swageref23_Stores.l1] at h
      refine TC.use ?_ hF hO
      clear hF hO
      refine TC.seq ?_
      refine TC.seq ?_
      refine TC.region ?_
      refine TL.cons (TO.val rfl rfl rfl (Val.move rfl) ?_)
      refine TL.cons (TO.val rfl rfl rfl (Val.fieldAddrB Try.underlying36 rfl fsz34 rfl rfl rfl) ?_)
      refine TL.cons (TO.val rfl rfl rfl (Val.loadB 0 agg34 rfl rfl rfl) ?_)
      refine TL.cons (TO.val rfl rfl rfl (Val.move rfl) ?_)
      obtain ⟨y1293, hx1294, h⟩ := bind_no h
      obtain ⟨ad1295, cs1301, hA1296, hi1297, hj1298, hcl1299, hK1300⟩ := Rd.at hr3 hx1294
      obtain ⟨A1302, c1303, rfl, hr1304, hl1305⟩ := k28_openR hK1300
      refine TL.cons (TO.val rfl rfl rfl (Val.indexAddr Try.underlying34 fsz28 rfl hA1296 rfl hi1297 hj1298) ?_)
      refine TL.cons (TO.val rfl rfl rfl (Val.fieldAddrE Try.underlying28 rfl fsz26 rfl rfl) ?_)
      refine TL.cons (TO.val rfl rfl rfl (Val.loadS agg26 rfl (hcl1299 0 _ rfl)) ?_)
      refine TL.cons (TO.val rfl rfl rfl (Val.len Try.underlying26 rfl) ?_)
      refine TL.cons (TO.val rfl rfl rfl (Val.cmp rfl rfl run_lss) ?_)
      refine TL.nil ?_
      refine TQ.then_ ?_
      refine TC.cond_p rfl h (fun hc1307 h => ?_) (fun hc1307 h => ?_)
      ·
       refine TC.skip ?_
       refine TQ.then_ ?_
       refine TC.seq ?_
       refine TC.block ?_
       refine TC.seq ?_
       refine TC.region ?_
       refine TL.cons (TO.val rfl rfl rfl (Val.fieldAddrB Try.underlying36 rfl fsz34 rfl rfl rfl) ?_)
       refine TL.cons (TO.val rfl rfl rfl (Val.loadB 0 agg34 rfl rfl rfl) ?_)
       refine TL.cons (TO.val rfl rfl rfl (Val.move rfl) ?_)
       refine TL.cons (TO.val rfl rfl rfl (Val.indexAddr Try.underlying34 fsz28 rfl hA1296 rfl hi1297 hj1298) ?_)
       refine TL.cons (TO.val rfl rfl rfl (Val.fieldAddrE Try.underlying28 rfl fsz26 rfl rfl) ?_)
       refine TL.cons (TO.val rfl rfl rfl (Val.loadS agg26 rfl (hcl1299 0 _ rfl)) ?_)
       refine TL.cons (TO.val rfl rfl rfl (Val.move rfl) ?_)
       obtain ⟨y1325, hx1326, h⟩ := bind_no h
       obtain ⟨ad1327, cs1333, hA1328, hi1329, hj1330, hcl1331, hK1332⟩ := Rd.at hr1304 hx1326
       obtain ⟨A1334, c1335, rfl, hr1336, hl1337⟩ := k30_openR hK1332
       refine TL.cons (TO.val rfl rfl rfl (Val.indexAddr Try.underlying26 fsz30 rfl hA1328 rfl hi1329 hj1330) ?_)
       refine TL.cons (TO.val rfl rfl rfl (Val.fieldAddrE Try.underlying30 rfl fsz3 rfl rfl) ?_)
       refine TL.cons (TO.val rfl rfl rfl (Val.loadS agg3 rfl (hcl1331 0 _ rfl)) ?_)
       refine TL.cons (TO.val rfl rfl rfl (Val.cmp rfl rfl run_eql) ?_)
       refine TL.nil ?_
       refine TQ.then_ ?_
       obtain ⟨j1340, hj1340, h⟩ := jn_no h
       refine TC.tail (fun a W => ∃ (x1339 : Int), j1340 x1339 = some o1244 ∧ Fr 38 a [(1, .pointer (some ⟨b5, 0, none⟩)), (3, .int .i64 x1339), (4, .int .i64 x477), (5, .int .i64 x1193)] ∧ Own G (Blk b5 [.int .i64 a0.f0, .slice A1 a0.f1.length c2] 36 :: L) W) ?_ ?_
       ·
        rintro a W ⟨x1339, h, hF, hO⟩
        rw [hj1340] at h
        refine TQ.use ?_ hF hO
        clear hF hO
        refine TQ.inB ?_
        refine TQ.then_ ?_
        refine TC.region ?_
        refine TL.cons (TO.val rfl rfl rfl (Val.move rfl) ?_)
        refine TL.cons (TO.val rfl rfl rfl (Val.cmp rfl rfl run_add) ?_)
        refine TL.cons (TO.val rfl rfl rfl (Val.assign rfl) ?_)
        refine TL.nil ?_
        exact fun a W hF hO => ⟨x1339, IntKind.i64.wrap (x1193 + 1), h, hF.sub ⟨rfl, rfl, rfl, rfl, trivial⟩, hO.selT (Ls := [Blk b5 [.int .i64 a0.f0, .slice A1 a0.f1.length c2] 36]) [0] 1 rfl rfl rfl⟩
       ·
        refine TC.cond_p rfl h (fun hc1341 h => ?_) (fun hc1341 h => ?_)
        ·
         refine TC.region ?_
         refine TL.cons (TO.val rfl rfl rfl (Val.move rfl) ?_)
         refine TL.cons (TO.val rfl rfl rfl (Val.cmp rfl rfl run_add) ?_)
         refine TL.cons (TO.val rfl rfl rfl (Val.assign rfl) ?_)
         refine TL.nil ?_
         exact fun a W hF hO => ⟨IntKind.i64.wrap (x1192 + 1), h, hF.sub ⟨rfl, rfl, rfl, rfl, trivial⟩, hO.selT (Ls := [Blk b5 [.int .i64 a0.f0, .slice A1 a0.f1.length c2] 36]) [0] 1 rfl rfl rfl⟩
        ·
         refine TC.skip ?_
         exact fun a W hF hO => ⟨x1192, h, hF.sub ⟨rfl, rfl, rfl, rfl, trivial⟩, hO.selT (Ls := [Blk b5 [.int .i64 a0.f0, .slice A1 a0.f1.length c2] 36]) [0] 1 rfl rfl rfl⟩
      ·
       refine TC.exit ?_
       refine TQ.thenX ?_
       refine TQ.thenX ?_
       refine TQ.inBX ?_
       exact fun a W hF hO => ⟨x1192, Option.some.inj h, hF.sub ⟨rfl, rfl, rfl, trivial⟩, hO.selT (Ls := [Blk b5 [.int .i64 a0.f0, .slice A1 a0.f1.length c2] 36]) [0] 1 rfl rfl rfl⟩
   ·
    refine TC.exit ?_
    refine TQ.thenX ?_
    refine TQ.thenX ?_
    refine TQ.inBX ?_
    exact fun a W hF hO => ⟨x476, Option.some.inj h, hF.sub ⟨rfl, trivial⟩, hO.selT (Ls := []) [] 1 rfl rfl rfl⟩
end Go.Proofs.Ytmacdhkfgoahcaa.Sy
set_option linter.unusedVariables false
set_option linter.unusedSimpArgs false
set_option maxRecDepth 100000
set_option maxHeartbeats 4000000
namespace Go.Proofs.Ytmacdhkfgoahcaa.Sy
open Go Go.RowKit Go.Proofs.YtmacdhkfgoahcaaW.PrintWords Go.Proofs.Ytmacdhkfgoahcaa.Q
def swageref23_Dead.l0 (a0 : S28) : Nat → (List Int) → Int → Option ((List Int))
 | 0, _, _ => none
 | n133 + 1, l87, x91 => (if x91 < (a0.f0.length : Int) then (swageref23_dead.f a0.f0 x91).bind fun (y181 : Bool) => jn (γ := ((List Int))) (fun (l188 : (List Int)) => swageref23_Dead.l0 a0 n133 l188 (IntKind.i64.wrap (x91 + 1))) (fun (j192 : ((List Int) → Option ((List Int)))) => (if y181 = true then (if l87.length < 17592186044416 then j192 (l87 ++ [x91]) else none) else j192 l87)) else some l87)
def swageref23_Dead.f (a0 : S28) : Option (List Int) := (swageref23_Dead.l0 a0 (a0.f0.length + 1) [] 0).bind fun (l128 : (List Int)) => some l128
def swageref23_Dead.post (G : Gd)  (r : (List Int)) (v : Value) (G' : Gd) (Lr : List Ch) : Prop := G = G' ∧ ∃ (A_1 : Option Addr) (c_1 : Nat), v = .slice A_1 r.length c_1 ∧ Lr = [Row (Kd.int .i64) 3 (.slice A_1 r.length c_1) r]
theorem swageref23_Dead.calls {G : Gd} {r : (List Int)} {a0 : S28} {A1 : Option Addr} {c2 : Nat} (hr3 : Rd G k30 A1 a0.f0) (hl4 : a0.f0.length ≤ c2) (h : swageref23_Dead.f a0 = some r) : Fn Try.prog 20 G [] [.agg #[.slice A1 a0.f0.length c2, .int .i64 a0.f1.f0, .int .i64 a0.f1.f1, .int .i64 a0.f1.f2, .int .i64 a0.f1.f3]] (swageref23_Dead.post G  r) := by
 refine Fn.intro (e := [(0, .agg #[.slice A1 a0.f0.length c2, .int .i64 a0.f1.f0, .int .i64 a0.f1.f1, .int .i64 a0.f1.f2, .int .i64 a0.f1.f3])]) 23 Try.func20 rfl Try.ntmps20 rfl rfl (Nat.le_of_ble_eq_true rfl) (fun L => ?_)
 unfold swageref23_Dead.f at h
 refine TC.seq ?_
 refine TC.region ?_
 refine TL.cons (TL.box (cs := [.slice A1 a0.f0.length c2, .int .i64 a0.f1.f0, .int .i64 a0.f1.f1, .int .i64 a0.f1.f2, .int .i64 a0.f1.f3]) rfl rfl rfl rfl (fun b5 => ?_))
 refine TL.cons (TO.val rfl rfl rfl (Val.assign rfl) ?_)
 refine TL.nil ?_
 refine TQ.then_ ?_
 refine TC.seq ?_
 refine TC.region ?_
 refine TL.cons (TO.val rfl rfl rfl (Val.assign rfl) ?_)
 refine TL.nil ?_
 refine TQ.then_ ?_
 refine TC.seq ?_
 refine TC.seq ?_
 refine TC.region ?_
 refine TL.cons (TO.val rfl rfl rfl (Val.assign rfl) ?_)
 refine TL.nil ?_
 refine TQ.then_ ?_
 obtain ⟨o132, ho132, ko132⟩ := bind_no h
 clear h
 refine TC.tail (fun a W => ∃ (l128 : (List Int)) (A129 : Option Addr) (c130 : Nat), l128 = o132 ∧ Fr 23 a [(3, .slice A129 l128.length c130)] ∧ Own G (Row (Kd.int .i64) 3 (.slice A129 l128.length c130) l128 :: L) W) ?_ ?_
 ·
  rintro a W ⟨l128, A129, c130, rfl, hF, hO⟩
  have h := ko132
  clear ko132 ho132
  refine TQ.use ?_ hF hO
  clear hF hO
  refine TQ.then_ ?_
  refine TC.seq ?_
  refine TC.region ?_
  refine TL.cons (TO.val rfl rfl rfl (Val.move rfl) ?_)
  refine TL.cons (TO.val rfl rfl rfl (Val.assign rfl) ?_)
  refine TL.nil ?_
  refine TQ.then_ ?_
  refine TC.ret ?_
  obtain rfl := Option.some.inj h
  exact TQ.fin (.inl rfl) rfl Try.results20 (.tmp rfl .nil) rfl (FRel.mk (Ls := [Row (Kd.int .i64) 3 (.slice A129 l128.length c130) l128]) [0] 1 (Gd.le.refl _) rfl rfl rfl ⟨rfl, A129, c130, rfl, rfl⟩)
 ·
  refine TC.block ?_
  intro a W hF hO
  have hS : ∃ (l87 : (List Int)) (x91 : Int) (A88 : Option Addr) (c89 : Nat), swageref23_Dead.l0 a0 (a0.f0.length + 1) l87 x91 = some o132 ∧ Fr 23 a [(1, .pointer (some ⟨b5, 0, none⟩)), (3, .slice A88 l87.length c89), (4, .int .i64 x91)] ∧ Own G (Blk b5 [.slice A1 a0.f0.length c2, .int .i64 a0.f1.f0, .int .i64 a0.f1.f1, .int .i64 a0.f1.f2, .int .i64 a0.f1.f3] 28 :: Row (Kd.int .i64) 3 (.slice A88 l87.length c89) l87 :: L) W := by
   exact ⟨[], 0, none, 0, ho132, hF.sub ⟨rfl, rfl, rfl, trivial⟩, (Own.nilRow (Kd.int .i64) 3 hO).selT (Ls := [Blk b5 [.slice A1 a0.f0.length c2, .int .i64 a0.f1.f0, .int .i64 a0.f1.f1, .int .i64 a0.f1.f2, .int .i64 a0.f1.f3] 28, Row (Kd.int .i64) 3 (.slice none ([] : List Int).length 0) ([] : List Int)]) [1, 0] 2 rfl rfl rfl⟩
  clear hF hO ho132 ko132
  refine TC.loop (fun n133 a W => ∃ (l87 : (List Int)) (x91 : Int) (A88 : Option Addr) (c89 : Nat), swageref23_Dead.l0 a0 n133 l87 x91 = some o132 ∧ Fr 23 a [(1, .pointer (some ⟨b5, 0, none⟩)), (3, .slice A88 l87.length c89), (4, .int .i64 x91)] ∧ Own G (Blk b5 [.slice A1 a0.f0.length c2, .int .i64 a0.f1.f0, .int .i64 a0.f1.f1, .int .i64 a0.f1.f2, .int .i64 a0.f1.f3] 28 :: Row (Kd.int .i64) 3 (.slice A88 l87.length c89) l87 :: L) W) ?_ ?_ hS
  ·
   rintro a W ⟨l87, x91, A88, c89, h, hF, hO⟩
   exact none_no h
  ·
   clear hS
   rintro n133 a W ⟨l87, x91, A88, c89, h, hF, hO⟩
   rw [swageref23_Dead.l0] at h
   refine TC.use ?_ hF hO
   clear hF hO
   refine TC.seq ?_
   refine TC.seq ?_
   refine TC.region ?_
   refine TL.cons (TO.val rfl rfl rfl (Val.move rfl) ?_)
   refine TL.cons (TO.val rfl rfl rfl (Val.fieldAddrB Try.underlying28 rfl fsz26 rfl rfl rfl) ?_)
   refine TL.cons (TO.val rfl rfl rfl (Val.loadB 0 agg26 rfl rfl rfl) ?_)
   refine TL.cons (TO.val rfl rfl rfl (Val.len Try.underlying26 rfl) ?_)
   refine TL.cons (TO.val rfl rfl rfl (Val.cmp rfl rfl run_lss) ?_)
   refine TL.nil ?_
   refine TQ.then_ ?_
   refine TC.cond_p rfl h (fun hc163 h => ?_) (fun hc163 h => ?_)
   ·
    refine TC.skip ?_
    refine TQ.then_ ?_
    refine TC.seq ?_
    refine TC.block ?_
    refine TC.seq ?_
    refine TC.region ?_
    refine TL.cons (TO.val rfl rfl rfl (Val.fieldAddrB Try.underlying28 rfl fsz26 rfl rfl rfl) ?_)
    refine TL.cons (TO.val rfl rfl rfl (Val.loadB 0 agg26 rfl rfl rfl) ?_)
    refine TL.cons (TO.val rfl rfl rfl (Val.move rfl) ?_)
    obtain ⟨y181, hy182, h⟩ := bind_no h
    refine TL.cons (TL.callV (Lin := []) (args := [.slice A1 a0.f0.length c2, .int .i64 x91]) rfl rfl rfl hbd41 rfl rfl (swageref23_dead.calls (a0 := a0.f0) (a1 := x91) hr3 hl4 hy182) rfl ?_)
    rintro _ _ _ _ ⟨rfl, rfl, rfl⟩
    refine TL.cons (TO.val rfl rfl rfl (Val.assign rfl) ?_)
    refine TL.nil ?_
    refine TQ.then_ ?_
    refine TC.seq ?_
    refine TC.region ?_
    refine TL.cons (TO.val rfl rfl rfl (Val.move rfl) ?_)
    refine TL.nil ?_
    refine TQ.then_ ?_
    obtain ⟨j192, hj192, h⟩ := jn_no h
    refine TC.tail (fun a W => ∃ (l188 : (List Int)) (A189 : Option Addr) (c190 : Nat), j192 l188 = some o132 ∧ Fr 23 a [(1, .pointer (some ⟨b5, 0, none⟩)), (3, .slice A189 l188.length c190), (4, .int .i64 x91)] ∧ Own G (Blk b5 [.slice A1 a0.f0.length c2, .int .i64 a0.f1.f0, .int .i64 a0.f1.f1, .int .i64 a0.f1.f2, .int .i64 a0.f1.f3] 28 :: Row (Kd.int .i64) 3 (.slice A189 l188.length c190) l188 :: L) W) ?_ ?_
    ·
     rintro a W ⟨l188, A189, c190, h, hF, hO⟩
     rw [hj192] at h
     refine TQ.use ?_ hF hO
     clear hF hO
     refine TQ.inB ?_
     refine TQ.then_ ?_
     refine TC.region ?_
     refine TL.cons (TO.val rfl rfl rfl (Val.move rfl) ?_)
     refine TL.cons (TO.val rfl rfl rfl (Val.cmp rfl rfl run_add) ?_)
     refine TL.cons (TO.val rfl rfl rfl (Val.assign rfl) ?_)
     refine TL.nil ?_
     exact fun a W hF hO => ⟨l188, IntKind.i64.wrap (x91 + 1), A189, c190, h, hF.sub ⟨rfl, rfl, rfl, trivial⟩, hO.selT (Ls := [Blk b5 [.slice A1 a0.f0.length c2, .int .i64 a0.f1.f0, .int .i64 a0.f1.f1, .int .i64 a0.f1.f2, .int .i64 a0.f1.f3] 28, Row (Kd.int .i64) 3 (.slice A189 l188.length c190) l188]) [0, 1] 2 rfl rfl rfl⟩
    ·
     refine TC.cond_b rfl h (fun hc193 h => ?_) (fun hc193 h => ?_)
     ·
      refine TC.region ?_
      refine TL.cons (TO.val rfl rfl rfl (Val.move rfl) ?_)
      refine TL.cons (TO.val rfl rfl rfl (Val.move rfl) ?_)
      refine TL.cons (TL.buildSlice (xs := [.tmp 19]) (vs := [.int .i64 x91]) (cs := [.int .i64 x91]) rfl rfl Try.underlying22 zs3 rfl rfl rfl rfl rfl rfl rfl rfl (fun b194 => ?_))
      refine TK.new (El.of (k := (Kd.int .i64)) (xv := x91) (cs := [.int .i64 x91]) (fun W B => rfl)) ?_
      refine TK.sel (Ls := [Row (Kd.int .i64) 3 (.slice A88 l87.length c89) l87, El (Kd.int .i64) x91 [.int .i64 x91], Blk b194 [.int .i64 x91] 3, Blk b5 [.slice A1 a0.f0.length c2, .int .i64 a0.f1.f0, .int .i64 a0.f1.f1, .int .i64 a0.f1.f2, .int .i64 a0.f1.f3] 28]) [3, 0, 1, 2] 4 rfl rfl rfl ?_
      obtain ⟨ha195, h⟩ := ite_no h
      refine TL.cons (TL.append (xs := l87) (Kd.int .i64) rfl rfl Try.underlying22 inf3 rfl (Nat.le_of_ble_eq_true rfl) (Nat.le_of_ble_eq_true rfl) rfl rfl (by omega) (fun A196 c197 => ?_))
      refine TL.cons (TO.val rfl rfl rfl (Val.assign rfl) ?_)
      refine TL.nil ?_
      exact fun a W hF hO => ⟨(l87 ++ [x91]), A196, c197, h, hF.sub ⟨rfl, rfl, rfl, trivial⟩, hO.selT (Ls := [Blk b5 [.slice A1 a0.f0.length c2, .int .i64 a0.f1.f0, .int .i64 a0.f1.f1, .int .i64 a0.f1.f2, .int .i64 a0.f1.f3] 28, Row (Kd.int .i64) 3 (.slice A196 (l87 ++ [x91]).length c197) (l87 ++ [x91])]) [1, 0] 2 rfl rfl rfl⟩
     ·
      refine TC.skip ?_
      exact fun a W hF hO => ⟨l87, A88, c89, h, hF.sub ⟨rfl, rfl, rfl, trivial⟩, hO.selT (Ls := [Blk b5 [.slice A1 a0.f0.length c2, .int .i64 a0.f1.f0, .int .i64 a0.f1.f1, .int .i64 a0.f1.f2, .int .i64 a0.f1.f3] 28, Row (Kd.int .i64) 3 (.slice A88 l87.length c89) l87]) [0, 1] 2 rfl rfl rfl⟩
   ·
    refine TC.exit ?_
    refine TQ.thenX ?_
    refine TQ.thenX ?_
    refine TQ.inBX ?_
    exact fun a W hF hO => ⟨l87, A88, c89, Option.some.inj h, hF.sub ⟨rfl, trivial⟩, hO.selT (Ls := [Row (Kd.int .i64) 3 (.slice A88 l87.length c89) l87]) [1] 2 rfl rfl rfl⟩
end Go.Proofs.Ytmacdhkfgoahcaa.Sy
set_option linter.unusedVariables false
set_option linter.unusedSimpArgs false
set_option maxRecDepth 100000
set_option maxHeartbeats 4000000
namespace Go.Proofs.Ytmacdhkfgoahcaa.Sy
open Go Go.RowKit Go.Proofs.YtmacdhkfgoahcaaW.PrintWords Go.Proofs.Ytmacdhkfgoahcaa.Q
def swagelaw23_DeadTells.l1 (a0 : S36) : Nat → Bool → Int → Option (Bool)
 | 0, _, _ => none
 | n12609 + 1, x12273, x12274 => (if x12274 < (a0.f1.length : Int) then jn (γ := (Bool)) (fun (x13214 : Bool) => swagelaw23_DeadTells.l1 a0 n12609 x13214 (IntKind.i64.wrap (x12274 + 1))) (fun (j13215 : (Bool → Option (Bool))) => (if x12273 = true then (at? a0.f1 x12274).bind fun y13258 => (deadstore_Dead.f y13258).bind fun (y13271 : (List Int)) => (swageref23_Dead.f y13258).bind fun (y13276 : (List Int)) => (swageref02_Ints.f y13271 y13276).bind fun (y13293 : Bool) => j13215 y13293 else j13215 false)) else some x12273)
def swagelaw23_DeadTells.l3 (y18 : S36) (x6885 : Int) (x16079 : Int) : Nat → Int → Option (Unit)
 | 0, _ => none
 | n17361 + 1, x17307 => (at? y18.f1 x6885).bind fun y17440 => (at? y17440.f0 x16079).bind fun y17454 => (if x17307 < (y17454.f5.length : Int) then (at? y17454.f5 x17307).bind fun y17480 => swagelaw23_DeadTells.l3 y18 x6885 x16079 n17361 (IntKind.i64.wrap (x17307 + 1)) else some ())
def swagelaw23_DeadTells.l2 (y18 : S36) (x6885 : Int) : Nat → Int → Option (Unit)
 | 0, _ => none
 | n16503 + 1, x16079 => (at? y18.f1 x6885).bind fun y16924 => (if x16079 < (y16924.f0.length : Int) then (swagelaw23_DeadTells.l3 y18 x6885 x16079 100000 0).bind fun _ => (at? y18.f1 x6885).bind fun y17412 => (at? y17412.f0 x16079).bind fun y17426 => swagelaw23_DeadTells.l2 y18 x6885 n16503 (IntKind.i64.wrap (x16079 + 1)) else some ())
def swagelaw23_DeadTells.l0 (y18 : S36) : Nat → Int → Option (Unit)
 | 0, _ => none
 | n9195 + 1, x6885 => (if x6885 < (y18.f1.length : Int) then (swagelaw23_DeadTells.l2 y18 x6885 100000 0).bind fun _ => swagelaw23_DeadTells.l0 y18 n9195 (IntKind.i64.wrap (x6885 + 1)) else some ())
def swagelaw23_DeadTells.f (a0 : S36) : Option Bool := (swagelaw23_small.f).bind fun (y6 : Bool) => (swagelaw14_Few.f a0).bind fun (y8 : Bool) => (if (!y8) = true then some y6 else (swageref14_Copy.f a0).bind fun (y12 : S36) => (deadstore_Func.f a0).bind fun (y18 : S36) => jn (γ := Bool) (fun (x119 : Bool) => (swagelaw23_DeadTells.l0 y18 (y18.f1.length + 1) 0).bind fun _ => (swagelaw23_DeadTells.l1 a0 (a0.f1.length + 1) x119 0).bind fun (x12607 : Bool) => (if y6 = true then (if x12607 = true then (swageref14_Same.f a0 y12).bind fun (y12962 : Bool) => some y12962 else some false) else some false)) (fun (j120 : (Bool → Option Bool)) => (swageref23_Func.f a0).bind fun (y17554 : S36) => (swageref14_Same.f y18 y17554).bind fun (y17574 : Bool) => (if y17574 = true then (deadstore_Stores.f a0).bind fun (y17578 : Int) => (swageref23_Stores.f a0).bind fun (y17580 : Int) => j120 (decide (y17578 = y17580)) else j120 false)))
def swagelaw23_DeadTells.post (G : Gd)  (r : Bool) (v : Value) (G' : Gd) (Lr : List Ch) : Prop := v = .bool r ∧ Lr = []
theorem swagelaw23_DeadTells.calls {G : Gd} {r : Bool} {a0 : S36} {A1 : Option Addr} {c2 : Nat} (hr3 : Rd G k28 A1 a0.f1) (hl4 : a0.f1.length ≤ c2) (h : swagelaw23_DeadTells.f a0 = some r) : Fn Try.prog 4 G [] [.agg #[.int .i64 a0.f0, .slice A1 a0.f1.length c2]] (swagelaw23_DeadTells.post G  r) := by
 refine Fn.intro (e := [(0, .agg #[.int .i64 a0.f0, .slice A1 a0.f1.length c2])]) 119 Try.func4 rfl Try.ntmps4 rfl rfl (Nat.le_of_ble_eq_true rfl) (fun L => ?_)
 unfold swagelaw23_DeadTells.f at h
 refine TC.seq ?_
 refine TC.region ?_
 refine TL.cons (TL.box (cs := [.int .i64 a0.f0, .slice A1 a0.f1.length c2]) rfl rfl rfl rfl (fun b5 => ?_))
 refine TL.cons (TO.val rfl rfl rfl (Val.assign rfl) ?_)
 refine TL.nil ?_
 refine TQ.then_ ?_
 refine TC.seq ?_
 refine TC.region ?_
 obtain ⟨y6, hy7, h⟩ := bind_no h
 refine TL.cons (TL.callV (Lin := []) (args := []) rfl rfl rfl hbd9 rfl rfl (swagelaw23_small.calls hy7) rfl ?_)
 rintro _ _ _ _ ⟨rfl, rfl, rfl⟩
 refine TL.cons (TO.val rfl rfl rfl (Val.assign rfl) ?_)
 refine TL.nil ?_
 refine TQ.then_ ?_
 refine TC.seq ?_
 refine TC.region ?_
 refine TL.cons (TO.val rfl rfl rfl (Val.loadsB 0 (cs := [.int .i64 a0.f0, .slice A1 a0.f1.length c2]) agg36 fsz36 rfl rfl rfl rfl) ?_)
 obtain ⟨y8, hy9, h⟩ := bind_no h
 refine TL.cons (TL.callV (Lin := []) (args := [.agg #[.int .i64 a0.f0, .slice A1 a0.f1.length c2]]) rfl rfl rfl hbd13 rfl rfl (swagelaw14_Few.calls (a0 := a0) hr3 hl4 hy9) rfl ?_)
 rintro _ _ _ _ ⟨rfl, rfl, rfl⟩
 refine TL.cons (TO.val rfl rfl rfl (Val.assign rfl) ?_)
 refine TL.nil ?_
 refine TQ.then_ ?_
 refine TC.seq ?_
 refine TC.seq ?_
 refine TC.region ?_
 refine TL.cons (TO.val rfl rfl rfl (Val.move rfl) ?_)
 refine TL.cons (TO.val rfl rfl rfl (Val.not_ rfl) ?_)
 refine TL.nil ?_
 refine TQ.then_ ?_
 refine TC.cond_b rfl h (fun hc11 h => ?_) (fun hc11 h => ?_)
 ·
  refine TC.seq ?_
  refine TC.region ?_
  refine TL.cons (TO.val rfl rfl rfl (Val.move rfl) ?_)
  refine TL.cons (TO.val rfl rfl rfl (Val.assign rfl) ?_)
  refine TL.nil ?_
  refine TQ.then_ ?_
  refine TC.ret ?_
  refine TQ.thenR ?_
  obtain rfl := Option.some.inj h
  exact TQ.fin (.inl rfl) rfl Try.results4 (.tmp rfl .nil) rfl (FRel.mk (Ls := []) [] 1 (Gd.le.refl _) rfl rfl rfl ⟨rfl, rfl⟩)
 ·
  refine TC.skip ?_
  refine TQ.then_ ?_
  refine TC.seq ?_
  refine TC.region ?_
  refine TL.cons (TO.val rfl rfl rfl (Val.loadsB 0 (cs := [.int .i64 a0.f0, .slice A1 a0.f1.length c2]) agg36 fsz36 rfl rfl rfl rfl) ?_)
  obtain ⟨y12, hy13, h⟩ := bind_no h
  refine TL.cons (TL.callV (Lin := []) (args := [.agg #[.int .i64 a0.f0, .slice A1 a0.f1.length c2]]) rfl rfl rfl hbd14 rfl rfl (swageref14_Copy.calls (a0 := a0) hr3 hl4 hy13) rfl ?_)
  rintro _ _ _ _ ⟨rfl, A14, c15, rfl, rfl⟩
  refine TL.cons (TL.alloc (cs := [.int .i64 0, .slice none 0 0]) rfl rfl zr36 rfl (fun b17 => ?_))
  refine TL.cons (TL.store 0 (ds := [.int .i64 y12.f0, .slice A14 y12.f1.length c15]) (cs' := [.int .i64 y12.f0, .slice A14 y12.f1.length c15]) (L' := (Blk b17 [.int .i64 y12.f0, .slice A14 y12.f1.length c15] 36 :: Row k28 28 (.slice A14 y12.f1.length c15) y12.f1 :: Blk b5 [.int .i64 a0.f0, .slice A1 a0.f1.length c2] 36 :: L)) rfl fsz36 rfl rfl rfl rfl rfl (Nat.le_of_ble_eq_true rfl) rfl rfl ?_)
  refine TL.nil ?_
  refine TQ.then_ ?_
  refine TC.seq ?_
  refine TC.region ?_
  refine TL.cons (TO.val rfl rfl rfl (Val.loadsB 2 (cs := [.int .i64 a0.f0, .slice A1 a0.f1.length c2]) agg36 fsz36 rfl rfl rfl rfl) ?_)
  obtain ⟨y18, hy19, h⟩ := bind_no h
  refine TL.cons (TL.callV (Lin := []) (args := [.agg #[.int .i64 a0.f0, .slice A1 a0.f1.length c2]]) rfl rfl rfl hbd15 rfl rfl (deadstore_Func.calls (a0 := a0) hr3 hl4 hy19) rfl ?_)
  rintro _ _ _ _ ⟨rfl, A20, c21, rfl, rfl⟩
  refine TL.cons (TL.alloc (cs := [.int .i64 0, .slice none 0 0]) rfl rfl zr36 rfl (fun b23 => ?_))
  refine TL.cons (TL.store 0 (ds := [.int .i64 y18.f0, .slice A20 y18.f1.length c21]) (cs' := [.int .i64 y18.f0, .slice A20 y18.f1.length c21]) (L' := (Blk b23 [.int .i64 y18.f0, .slice A20 y18.f1.length c21] 36 :: Row k28 28 (.slice A20 y18.f1.length c21) y18.f1 :: Blk b17 [.int .i64 y12.f0, .slice A14 y12.f1.length c15] 36 :: Row k28 28 (.slice A14 y12.f1.length c15) y12.f1 :: Blk b5 [.int .i64 a0.f0, .slice A1 a0.f1.length c2] 36 :: L)) rfl fsz36 rfl rfl rfl rfl rfl (Nat.le_of_ble_eq_true rfl) rfl rfl ?_)
  refine TL.nil ?_
  refine TQ.then_ ?_
  refine TC.seq ?_
  obtain ⟨j120, hj120, h⟩ := jn_no h
  refine TC.tail (fun a W => ∃ (x119 : Bool) (G117 : Gd), j120 x119 = some r ∧ G.le G117 ∧ Fr 119 a [(1, .pointer (some ⟨b5, 0, none⟩)), (3, .bool y6), (5, .pointer (some ⟨b17, 0, none⟩)), (6, .pointer (some ⟨b23, 0, none⟩)), (7, .bool x119)] ∧ Own G117 (Blk b17 [.int .i64 y12.f0, .slice A14 y12.f1.length c15] 36 :: Blk b23 [.int .i64 y18.f0, .slice A20 y18.f1.length c21] 36 :: Blk b5 [.int .i64 a0.f0, .slice A1 a0.f1.length c2] 36 :: Row k28 28 (.slice A14 y12.f1.length c15) y12.f1 :: Row k28 28 (.slice A20 y18.f1.length c21) y18.f1 :: L) W) ?_ ?_
  ·
   rintro a W ⟨x119, G117, h, e118, hF, hO⟩
   rw [hj120] at h
   refine TQ.use ?_ hF hO
   clear hF hO
   refine TQ.then_ ?_
   refine TC.seq ?_
   refine TC.seq ?_
   refine TC.region ?_
   refine TL.cons (TO.val rfl rfl rfl (Val.assign rfl) ?_)
   refine TL.nil ?_
   refine TQ.then_ ?_
   refine TC.sel (Ls := [Row k28 28 (.slice A20 y18.f1.length c21) y18.f1, Blk b17 [.int .i64 y12.f0, .slice A14 y12.f1.length c15] 36, Blk b23 [.int .i64 y18.f0, .slice A20 y18.f1.length c21] 36, Blk b5 [.int .i64 a0.f0, .slice A1 a0.f1.length c2] 36, Row k28 28 (.slice A14 y12.f1.length c15) y12.f1]) [4, 0, 1, 2, 3] 5 rfl rfl rfl ?_
   refine TC.alk (fun W2261 S2262 B2263 hR2264 => ?_)
   obtain ⟨o9194, ho9194, ko9194⟩ := bind_no h
   clear h
   refine TC.tail (fun a W => ∃ (G9192 : Gd), () = o9194 ∧ G.le G9192 ∧ Fr 119 a [(1, .pointer (some ⟨b5, 0, none⟩)), (3, .bool y6), (5, .pointer (some ⟨b17, 0, none⟩)), (7, .bool x119)] ∧ Own G9192 (Blk b17 [.int .i64 y12.f0, .slice A14 y12.f1.length c15] 36 :: Blk b5 [.int .i64 a0.f0, .slice A1 a0.f1.length c2] 36 :: Alk W2261 S2262 :: Row k28 28 (.slice A14 y12.f1.length c15) y12.f1 :: L) W) ?_ ?_
   ·
    rintro a W ⟨G9192, rfl, e9193, hF, hO⟩
    have h := ko9194
    clear ko9194 ho9194
    refine TQ.use ?_ hF hO
    clear hF hO
    refine TQ.then_ ?_
    refine TC.seq ?_
    refine TC.seq ?_
    refine TC.region ?_
    refine TL.cons (TO.val rfl rfl rfl (Val.assign rfl) ?_)
    refine TL.nil ?_
    refine TQ.then_ ?_
    obtain ⟨o12608, ho12608, ko12608⟩ := bind_no h
    clear h
    refine TC.tail (fun a W => ∃ (x12607 : Bool) (G12605 : Gd), x12607 = o12608 ∧ G.le G12605 ∧ Fr 119 a [(1, .pointer (some ⟨b5, 0, none⟩)), (3, .bool y6), (5, .pointer (some ⟨b17, 0, none⟩)), (7, .bool x12607)] ∧ Own G12605 (Blk b17 [.int .i64 y12.f0, .slice A14 y12.f1.length c15] 36 :: Blk b5 [.int .i64 a0.f0, .slice A1 a0.f1.length c2] 36 :: Alk W2261 S2262 :: Row k28 28 (.slice A14 y12.f1.length c15) y12.f1 :: L) W) ?_ ?_
    ·
     rintro a W ⟨x12607, G12605, rfl, e12606, hF, hO⟩
     have h := ko12608
     clear ko12608 ho12608
     refine TQ.use ?_ hF hO
     clear hF hO
     refine TQ.then_ ?_
     refine TC.seq ?_
     refine TC.region ?_
     refine TL.cons (TO.val rfl rfl rfl (Val.move rfl) ?_)
     refine TL.cons (TO.val rfl rfl rfl (Val.move rfl) ?_)
     refine TK.split (p := y6 = true) h (fun hg12952 h => ?_) (fun hg12952 h => ?_)
     ·
      have hk12953 : y6 = true := hg12952
      refine TL.cons (TO.val (Wt.yes rfl rfl rfl hk12953) rfl rfl (Val.move rfl) ?_)
      refine TL.cons (TO.val rfl rfl rfl (Val.pickY rfl hk12953 rfl) ?_)
      refine TL.cons (TO.val rfl rfl rfl (Val.move rfl) ?_)
      refine TK.split (p := x12607 = true) h (fun hg12954 h => ?_) (fun hg12954 h => ?_)
      ·
       have hk12955 : x12607 = true := hg12954
       refine TL.cons (TO.val (Wt.yes rfl rfl rfl hk12955) rfl rfl (Val.loadsB 1 (cs := [.int .i64 a0.f0, .slice A1 a0.f1.length c2]) agg36 fsz36 rfl rfl rfl rfl) ?_)
       refine TL.cons (TO.val (Wt.yes rfl rfl rfl hk12955) rfl rfl (Val.loadsB 0 (cs := [.int .i64 y12.f0, .slice A14 y12.f1.length c15]) agg36 fsz36 rfl rfl rfl rfl) ?_)
       refine TK.sel (Ls := [Row k28 28 (.slice A14 y12.f1.length c15) y12.f1, Blk b17 [.int .i64 y12.f0, .slice A14 y12.f1.length c15] 36, Blk b5 [.int .i64 a0.f0, .slice A1 a0.f1.length c2] 36, Alk W2261 S2262]) [3, 0, 1, 2] 4 rfl rfl rfl ?_
       refine TK.share (fun G12956 e12957 hs12958 hb12959 => ?_)
       have rd12960 : Rd G12956 k28 A14 y12.f1 := Rd.row hs12958
       have le12961 : y12.f1.length ≤ c15 := Row.le hs12958
       obtain ⟨y12962, hy12963, h⟩ := bind_no h
       refine TL.cons (TL.callV (Lin := []) (args := [.agg #[.int .i64 a0.f0, .slice A1 a0.f1.length c2], .agg #[.int .i64 y12.f0, .slice A14 y12.f1.length c15]]) (Wt.yes rfl rfl rfl hk12955) rfl rfl hbd16 rfl rfl (swageref14_Same.calls (a0 := a0) (a1 := y12) (hr3.up (Gd.le.trans e12606 e12957)) hl4 rd12960 le12961 hy12963) rfl ?_)
       rintro _ _ _ _ ⟨rfl, rfl, rfl⟩
       refine TL.cons (TO.val rfl rfl rfl (Val.pickY rfl hk12955 rfl) ?_)
       refine TL.cons (TO.val rfl rfl rfl (Val.assign rfl) ?_)
       refine TL.nil ?_
       refine TQ.then_ ?_
       refine TC.ret ?_
       refine TQ.back hb12959 ?_
       obtain rfl := Option.some.inj h
       exact TQ.fin (.inl rfl) rfl Try.results4 (.tmp rfl .nil) rfl (FRel.mk (Ls := []) [] 4 e12606 rfl rfl rfl ⟨rfl, rfl⟩)
      ·
       have hk12964 : x12607 = false := (by simpa using hg12954)
       refine TL.cons (TL.not (Wt.no rfl rfl rfl hk12964) rfl ?_)
       refine TL.cons (TL.not (Wt.no rfl rfl rfl hk12964) rfl ?_)
       refine TL.cons (TL.not (Wt.no rfl rfl rfl hk12964) rfl ?_)
       refine TL.cons (TO.val rfl rfl rfl (Val.pickN rfl hk12964 rfl) ?_)
       refine TL.cons (TO.val rfl rfl rfl (Val.assign rfl) ?_)
       refine TL.nil ?_
       refine TQ.then_ ?_
       refine TC.ret ?_
       obtain rfl := Option.some.inj h
       exact TQ.fin (.inl rfl) rfl Try.results4 (.tmp rfl .nil) rfl (FRel.mk (Ls := []) [] 4 e12606 rfl rfl rfl ⟨rfl, rfl⟩)
     ·
      have hk12965 : y6 = false := (by simpa using hg12952)
      refine TL.cons (TL.not (Wt.no rfl rfl rfl hk12965) rfl ?_)
      refine TL.cons (TO.val rfl rfl rfl (Val.pickN rfl hk12965 rfl) ?_)
      refine TL.cons (TO.val rfl rfl rfl (Val.move rfl) ?_)
      refine TL.cons (TL.not (Wt.no rfl rfl rfl rfl) rfl ?_)
      refine TL.cons (TL.not (Wt.no rfl rfl rfl rfl) rfl ?_)
      refine TL.cons (TL.not (Wt.no rfl rfl rfl rfl) rfl ?_)
      refine TL.cons (TO.val rfl rfl rfl (Val.pickN rfl rfl rfl) ?_)
      refine TL.cons (TO.val rfl rfl rfl (Val.assign rfl) ?_)
      refine TL.nil ?_
      refine TQ.then_ ?_
      refine TC.ret ?_
      obtain rfl := Option.some.inj h
      exact TQ.fin (.inl rfl) rfl Try.results4 (.tmp rfl .nil) rfl (FRel.mk (Ls := []) [] 4 e12606 rfl rfl rfl ⟨rfl, rfl⟩)
    ·
     refine TC.block ?_
     intro a W hF hO
     have hS : ∃ (x12273 : Bool) (x12274 : Int) (G12271 : Gd), swagelaw23_DeadTells.l1 a0 (a0.f1.length + 1) x12273 x12274 = some o12608 ∧ G.le G12271 ∧ Fr 119 a [(1, .pointer (some ⟨b5, 0, none⟩)), (3, .bool y6), (5, .pointer (some ⟨b17, 0, none⟩)), (7, .bool x12273), (11, .int .i64 x12274)] ∧ Own G12271 (Blk b17 [.int .i64 y12.f0, .slice A14 y12.f1.length c15] 36 :: Blk b5 [.int .i64 a0.f0, .slice A1 a0.f1.length c2] 36 :: Alk W2261 S2262 :: Row k28 28 (.slice A14 y12.f1.length c15) y12.f1 :: L) W := by
      exact ⟨x119, 0, G9192, ho12608, e9193, hF.sub ⟨rfl, rfl, rfl, rfl, rfl, trivial⟩, hO.selT (Ls := [Blk b17 [.int .i64 y12.f0, .slice A14 y12.f1.length c15] 36, Blk b5 [.int .i64 a0.f0, .slice A1 a0.f1.length c2] 36, Alk W2261 S2262, Row k28 28 (.slice A14 y12.f1.length c15) y12.f1]) [0, 1, 2, 3] 4 rfl rfl rfl⟩
     clear hF hO ho12608 ko12608
     refine TC.loop (fun n12609 a W => ∃ (x12273 : Bool) (x12274 : Int) (G12271 : Gd), swagelaw23_DeadTells.l1 a0 n12609 x12273 x12274 = some o12608 ∧ G.le G12271 ∧ Fr 119 a [(1, .pointer (some ⟨b5, 0, none⟩)), (3, .bool y6), (5, .pointer (some ⟨b17, 0, none⟩)), (7, .bool x12273), (11, .int .i64 x12274)] ∧ Own G12271 (Blk b17 [.int .i64 y12.f0, .slice A14 y12.f1.length c15] 36 :: Blk b5 [.int .i64 a0.f0, .slice A1 a0.f1.length c2] 36 :: Alk W2261 S2262 :: Row k28 28 (.slice A14 y12.f1.length c15) y12.f1 :: L) W) ?_ ?_ hS
     ·
      rintro a W ⟨x12273, x12274, G12271, h, e12272, hF, hO⟩
      exact none_no h
     ·
      clear hS
      rintro n12609 a W ⟨x12273, x12274, G12271, h, e12272, hF, hO⟩
      rw [swagelaw23_DeadTells.l1] at h
      refine TC.use ?_ hF hO
      clear hF hO
      refine TC.seq ?_
      refine TC.seq ?_
      refine TC.region ?_
      refine TL.cons (TO.val rfl rfl rfl (Val.move rfl) ?_)
      refine TL.cons (TO.val rfl rfl rfl (Val.fieldAddrB Try.underlying36 rfl fsz34 rfl rfl rfl) ?_)
      refine TL.cons (TO.val rfl rfl rfl (Val.loadB 1 agg34 rfl rfl rfl) ?_)
      refine TL.cons (TO.val rfl rfl rfl (Val.len Try.underlying34 rfl) ?_)
      refine TL.cons (TO.val rfl rfl rfl (Val.cmp rfl rfl run_lss) ?_)
      refine TL.nil ?_
      refine TQ.then_ ?_
      refine TC.cond_p rfl h (fun hc12967 h => ?_) (fun hc12967 h => ?_)
      ·
       refine TC.skip ?_
       refine TQ.then_ ?_
       refine TC.seq ?_
       refine TC.block ?_
       obtain ⟨j13215, hj13215, h⟩ := jn_no h
       refine TC.tail (fun a W => ∃ (x13214 : Bool) (G13212 : Gd), j13215 x13214 = some o12608 ∧ G.le G13212 ∧ Fr 119 a [(1, .pointer (some ⟨b5, 0, none⟩)), (3, .bool y6), (5, .pointer (some ⟨b17, 0, none⟩)), (7, .bool x13214), (11, .int .i64 x12274)] ∧ Own G13212 (Blk b17 [.int .i64 y12.f0, .slice A14 y12.f1.length c15] 36 :: Blk b5 [.int .i64 a0.f0, .slice A1 a0.f1.length c2] 36 :: Alk W2261 S2262 :: Row k28 28 (.slice A14 y12.f1.length c15) y12.f1 :: L) W) ?_ ?_
       ·
        rintro a W ⟨x13214, G13212, h, e13213, hF, hO⟩
        rw [hj13215] at h
        refine TQ.use ?_ hF hO
        clear hF hO
        refine TQ.inB ?_
        refine TQ.then_ ?_
        refine TC.region ?_
        refine TL.cons (TO.val rfl rfl rfl (Val.move rfl) ?_)
        refine TL.cons (TO.val rfl rfl rfl (Val.cmp rfl rfl run_add) ?_)
        refine TL.cons (TO.val rfl rfl rfl (Val.assign rfl) ?_)
        refine TL.nil ?_
        exact fun a W hF hO => ⟨x13214, IntKind.i64.wrap (x12274 + 1), G13212, h, e13213, hF.sub ⟨rfl, rfl, rfl, rfl, rfl, trivial⟩, hO.selT (Ls := [Blk b17 [.int .i64 y12.f0, .slice A14 y12.f1.length c15] 36, Blk b5 [.int .i64 a0.f0, .slice A1 a0.f1.length c2] 36, Alk W2261 S2262, Row k28 28 (.slice A14 y12.f1.length c15) y12.f1]) [0, 1, 2, 3] 4 rfl rfl rfl⟩
       ·
        refine TC.regionAny [] [0, 1, 2, 3, 4, 5, 6, 7, 8, 9, 10, 11, 12, 13, 14, 15, 16] mixed (by kernel_rfl) ?_
        refine TA.take 0 rfl (by kernel_rfl) rfl (PQ.then_ (PQ.inB (PQ.then_ (PQ.then_ (PQ.inB (PQ.then_ (PQ.then_ PQ.body))))))) rfl (Val.move rfl) (fun W hO => hO) ?_
        refine TA.take 1 rfl (by kernel_rfl) rfl (PQ.then_ (PQ.inB (PQ.then_ (PQ.then_ (PQ.inB (PQ.then_ (PQ.then_ PQ.body))))))) rfl (Val.move rfl) (fun W hO => hO) ?_
        refine TK.split (p := x12273 = true) h (fun hg13256 h => ?_) (fun hg13256 h => ?_)
        ·
         have hk13257 : x12273 = true := hg13256
         refine TA.take 2 rfl (by kernel_rfl) rfl (PQ.then_ (PQ.inB (PQ.then_ (PQ.then_ (PQ.inB (PQ.then_ (PQ.then_ PQ.body))))))) (Wt.yes rfl rfl rfl hk13257) (Val.fieldAddrB Try.underlying36 rfl fsz34 rfl rfl rfl) (fun W hO => hO) ?_
         refine TA.take 3 rfl (by kernel_rfl) rfl (PQ.then_ (PQ.inB (PQ.then_ (PQ.then_ (PQ.inB (PQ.then_ (PQ.then_ PQ.body))))))) (Wt.yes rfl rfl rfl hk13257) (Val.loadB 1 agg34 rfl rfl rfl) (fun W hO => hO) ?_
         refine TA.take 4 rfl (by kernel_rfl) rfl (PQ.then_ (PQ.inB (PQ.then_ (PQ.then_ (PQ.inB (PQ.then_ (PQ.then_ PQ.body))))))) (Wt.yes rfl rfl rfl hk13257) (Val.move rfl) (fun W hO => hO) ?_
         obtain ⟨y13258, hx13259, h⟩ := bind_no h
         obtain ⟨ad13260, cs13266, hA13261, hi13262, hj13263, hcl13264, hK13265⟩ := Rd.at (hr3.up e12272) hx13259
         obtain ⟨A13267, c13268, rfl, hr13269, hl13270⟩ := k28_openR hK13265
         refine TA.take 5 rfl (by kernel_rfl) rfl (PQ.then_ (PQ.inB (PQ.then_ (PQ.then_ (PQ.inB (PQ.then_ (PQ.then_ PQ.body))))))) (Wt.yes rfl rfl rfl hk13257) (Val.indexAddr Try.underlying34 fsz28 rfl hA13261 rfl hi13262 hj13263) (fun W hO => hO) ?_
         refine TA.take 6 rfl (by kernel_rfl) rfl (PQ.then_ (PQ.inB (PQ.then_ (PQ.then_ (PQ.inB (PQ.then_ (PQ.then_ PQ.body))))))) (Wt.yes rfl rfl rfl hk13257) (Val.loadsS (cs := [.slice A13267 y13258.f0.length c13268, .int .i64 y13258.f1.f0, .int .i64 y13258.f1.f1, .int .i64 y13258.f1.f2, .int .i64 y13258.f1.f3]) agg28 fsz28 rfl rfl (Cl.sub (off := 0) (n := 5) hcl13264 rfl)) (fun W hO => hO) ?_
         refine TA.take 8 rfl (by kernel_rfl) rfl (PQ.then_ (PQ.inB (PQ.then_ (PQ.then_ (PQ.inB (PQ.then_ (PQ.then_ PQ.body))))))) (Wt.yes rfl rfl rfl hk13257) (Val.fieldAddrB Try.underlying36 rfl fsz34 rfl rfl rfl) (fun W hO => hO) ?_
         refine TA.take 9 rfl (by kernel_rfl) rfl (PQ.then_ (PQ.inB (PQ.then_ (PQ.then_ (PQ.inB (PQ.then_ (PQ.then_ PQ.body))))))) (Wt.yes rfl rfl rfl hk13257) (Val.loadB 1 agg34 rfl rfl rfl) (fun W hO => hO) ?_
         refine TA.take 10 rfl (by kernel_rfl) rfl (PQ.then_ (PQ.inB (PQ.then_ (PQ.then_ (PQ.inB (PQ.then_ (PQ.then_ PQ.body))))))) (Wt.yes rfl rfl rfl hk13257) (Val.move rfl) (fun W hO => hO) ?_
         refine TA.take 11 rfl (by kernel_rfl) rfl (PQ.then_ (PQ.inB (PQ.then_ (PQ.then_ (PQ.inB (PQ.then_ (PQ.then_ PQ.body))))))) (Wt.yes rfl rfl rfl hk13257) (Val.indexAddr Try.underlying34 fsz28 rfl hA13261 rfl hi13262 hj13263) (fun W hO => hO) ?_
         refine TA.take 12 rfl (by kernel_rfl) rfl (PQ.then_ (PQ.inB (PQ.then_ (PQ.then_ (PQ.inB (PQ.then_ (PQ.then_ PQ.body))))))) (Wt.yes rfl rfl rfl hk13257) (Val.loadsS (cs := [.slice A13267 y13258.f0.length c13268, .int .i64 y13258.f1.f0, .int .i64 y13258.f1.f1, .int .i64 y13258.f1.f2, .int .i64 y13258.f1.f3]) agg28 fsz28 rfl rfl (Cl.sub (off := 0) (n := 5) hcl13264 rfl)) (fun W hO => hO) ?_
         obtain ⟨y13271, hy13272, h⟩ := bind_no h
         refine TA.eff 7 rfl (by kernel_rfl) rfl (TL.callV (Lin := []) (args := [.agg #[.slice A13267 y13258.f0.length c13268, .int .i64 y13258.f1.f0, .int .i64 y13258.f1.f1, .int .i64 y13258.f1.f2, .int .i64 y13258.f1.f3]]) (Wt.yes rfl rfl rfl hk13257) rfl rfl hbd10 rfl rfl (deadstore_Dead.calls (a0 := y13258) hr13269 hl13270 hy13272) rfl ?_)
         rintro _ _ _ _ ⟨rfl, A13273, c13274, rfl, rfl⟩
         refine TA.next (fun W hO => hO.selT (Ls := [Blk b17 [.int .i64 y12.f0, .slice A14 y12.f1.length c15] 36, Blk b5 [.int .i64 a0.f0, .slice A1 a0.f1.length c2] 36, Alk W2261 S2262, Row k28 28 (.slice A14 y12.f1.length c15) y12.f1]) [1, 2, 3, 4] 5 rfl rfl rfl) ?_
         obtain ⟨y13276, hy13277, h⟩ := bind_no h
         refine TA.eff 13 rfl (by kernel_rfl) rfl (TL.callV (Lin := []) (args := [.agg #[.slice A13267 y13258.f0.length c13268, .int .i64 y13258.f1.f0, .int .i64 y13258.f1.f1, .int .i64 y13258.f1.f2, .int .i64 y13258.f1.f3]]) (Wt.yes rfl rfl rfl hk13257) rfl rfl hbd20 rfl rfl (swageref23_Dead.calls (a0 := y13258) hr13269 hl13270 hy13277) rfl ?_)
         rintro _ _ _ _ ⟨rfl, A13278, c13279, rfl, rfl⟩
         refine TA.next (fun W hO => hO.selT (Ls := [Blk b17 [.int .i64 y12.f0, .slice A14 y12.f1.length c15] 36, Blk b5 [.int .i64 a0.f0, .slice A1 a0.f1.length c2] 36, Alk W2261 S2262, Row k28 28 (.slice A14 y12.f1.length c15) y12.f1]) [2, 3, 4, 5] 6 rfl rfl rfl) ?_
         refine TK.sel (Ls := [Row (Kd.int .i64) 3 (.slice A13273 y13271.length c13274) y13271, Row (Kd.int .i64) 3 (.slice A13278 y13276.length c13279) y13276, Blk b17 [.int .i64 y12.f0, .slice A14 y12.f1.length c15] 36, Blk b5 [.int .i64 a0.f0, .slice A1 a0.f1.length c2] 36, Alk W2261 S2262, Row k28 28 (.slice A14 y12.f1.length c15) y12.f1]) [1, 0, 2, 3, 4, 5] 6 rfl rfl rfl ?_
         refine TK.share (fun G13281 e13282 hs13283 hb13284 => ?_)
         have rd13285 : Rd G13281 (Kd.int .i64) A13273 y13271 := Rd.row hs13283
         have le13286 : y13271.length ≤ c13274 := Row.le hs13283
         refine TK.share (fun G13287 e13288 hs13289 hb13290 => ?_)
         have rd13291 : Rd G13287 (Kd.int .i64) A13278 y13276 := Rd.row hs13289
         have le13292 : y13276.length ≤ c13279 := Row.le hs13289
         obtain ⟨y13293, hy13294, h⟩ := bind_no h
         refine TA.eff 14 rfl (by kernel_rfl) rfl (TL.callV (Lin := []) (args := [.slice A13273 y13271.length c13274, .slice A13278 y13276.length c13279]) (Wt.yes rfl rfl rfl hk13257) rfl rfl hbd19 rfl rfl (swageref02_Ints.calls (a0 := y13271) (a1 := y13276) (rd13285.up e13288) le13286 rd13291 le13292 hy13294) rfl ?_)
         rintro _ _ _ _ ⟨rfl, rfl, rfl⟩
         refine TA.next (fun W hO => (hb13284 _ _ (hb13290 _ _ hO)).selT (Ls := [Blk b17 [.int .i64 y12.f0, .slice A14 y12.f1.length c15] 36, Blk b5 [.int .i64 a0.f0, .slice A1 a0.f1.length c2] 36, Alk W2261 S2262, Row k28 28 (.slice A14 y12.f1.length c15) y12.f1]) [2, 3, 4, 5] 6 rfl rfl rfl) ?_
         refine TA.take 15 rfl (by kernel_rfl) rfl (PQ.then_ (PQ.inB (PQ.then_ (PQ.then_ (PQ.inB (PQ.then_ (PQ.then_ PQ.body))))))) rfl (Val.pickY rfl hk13257 rfl) (fun W hO => (hb13284 _ _ (hb13290 _ _ hO)).selT (Ls := [Blk b17 [.int .i64 y12.f0, .slice A14 y12.f1.length c15] 36, Blk b5 [.int .i64 a0.f0, .slice A1 a0.f1.length c2] 36, Alk W2261 S2262, Row k28 28 (.slice A14 y12.f1.length c15) y12.f1]) [2, 3, 4, 5] 6 rfl rfl rfl) ?_
         refine TA.take 16 rfl (by kernel_rfl) rfl (PQ.then_ (PQ.inB (PQ.then_ (PQ.then_ (PQ.inB (PQ.then_ (PQ.then_ PQ.body))))))) rfl (Val.assign rfl) (fun W hO => (hb13284 _ _ (hb13290 _ _ hO)).selT (Ls := [Blk b17 [.int .i64 y12.f0, .slice A14 y12.f1.length c15] 36, Blk b5 [.int .i64 a0.f0, .slice A1 a0.f1.length c2] 36, Alk W2261 S2262, Row k28 28 (.slice A14 y12.f1.length c15) y12.f1]) [2, 3, 4, 5] 6 rfl rfl rfl) ?_
         refine TA.done (by kernel_rfl) ?_
         refine TQ.back hb13290 ?_
         refine TQ.back hb13284 ?_
         exact fun a W hF hO => ⟨y13293, G12271, h, e12272, hF.sub ⟨rfl, rfl, rfl, rfl, rfl, trivial⟩, hO.selT (Ls := [Blk b17 [.int .i64 y12.f0, .slice A14 y12.f1.length c15] 36, Blk b5 [.int .i64 a0.f0, .slice A1 a0.f1.length c2] 36, Alk W2261 S2262, Row k28 28 (.slice A14 y12.f1.length c15) y12.f1]) [2, 3, 4, 5] 6 rfl rfl rfl⟩
        ·
         have hk13295 : x12273 = false := (by simpa using hg13256)
         refine TA.not 2 rfl (by kernel_rfl) rfl (PQ.then_ (PQ.inB (PQ.then_ (PQ.then_ (PQ.inB (PQ.then_ (PQ.then_ PQ.body))))))) (Wt.no rfl rfl rfl hk13295) (fun W hO => hO) ?_
         refine TA.not 3 rfl (by kernel_rfl) rfl (PQ.then_ (PQ.inB (PQ.then_ (PQ.then_ (PQ.inB (PQ.then_ (PQ.then_ PQ.body))))))) (Wt.no rfl rfl rfl hk13295) (fun W hO => hO) ?_
         refine TA.not 4 rfl (by kernel_rfl) rfl (PQ.then_ (PQ.inB (PQ.then_ (PQ.then_ (PQ.inB (PQ.then_ (PQ.then_ PQ.body))))))) (Wt.no rfl rfl rfl hk13295) (fun W hO => hO) ?_
         refine TA.not 5 rfl (by kernel_rfl) rfl (PQ.then_ (PQ.inB (PQ.then_ (PQ.then_ (PQ.inB (PQ.then_ (PQ.then_ PQ.body))))))) (Wt.no rfl rfl rfl hk13295) (fun W hO => hO) ?_
         refine TA.not 6 rfl (by kernel_rfl) rfl (PQ.then_ (PQ.inB (PQ.then_ (PQ.then_ (PQ.inB (PQ.then_ (PQ.then_ PQ.body))))))) (Wt.no rfl rfl rfl hk13295) (fun W hO => hO) ?_
         refine TA.not 7 rfl (by kernel_rfl) rfl (PQ.then_ (PQ.inB (PQ.then_ (PQ.then_ (PQ.inB (PQ.then_ (PQ.then_ PQ.body))))))) (Wt.no rfl rfl rfl hk13295) (fun W hO => hO) ?_
         refine TA.not 8 rfl (by kernel_rfl) rfl (PQ.then_ (PQ.inB (PQ.then_ (PQ.then_ (PQ.inB (PQ.then_ (PQ.then_ PQ.body))))))) (Wt.no rfl rfl rfl hk13295) (fun W hO => hO) ?_
         refine TA.not 9 rfl (by kernel_rfl) rfl (PQ.then_ (PQ.inB (PQ.then_ (PQ.then_ (PQ.inB (PQ.then_ (PQ.then_ PQ.body))))))) (Wt.no rfl rfl rfl hk13295) (fun W hO => hO) ?_
         refine TA.not 10 rfl (by kernel_rfl) rfl (PQ.then_ (PQ.inB (PQ.then_ (PQ.then_ (PQ.inB (PQ.then_ (PQ.then_ PQ.body))))))) (Wt.no rfl rfl rfl hk13295) (fun W hO => hO) ?_
         refine TA.not 11 rfl (by kernel_rfl) rfl (PQ.then_ (PQ.inB (PQ.then_ (PQ.then_ (PQ.inB (PQ.then_ (PQ.then_ PQ.body))))))) (Wt.no rfl rfl rfl hk13295) (fun W hO => hO) ?_
         refine TA.not 12 rfl (by kernel_rfl) rfl (PQ.then_ (PQ.inB (PQ.then_ (PQ.then_ (PQ.inB (PQ.then_ (PQ.then_ PQ.body))))))) (Wt.no rfl rfl rfl hk13295) (fun W hO => hO) ?_
         refine TA.not 13 rfl (by kernel_rfl) rfl (PQ.then_ (PQ.inB (PQ.then_ (PQ.then_ (PQ.inB (PQ.then_ (PQ.then_ PQ.body))))))) (Wt.no rfl rfl rfl hk13295) (fun W hO => hO) ?_
         refine TA.not 14 rfl (by kernel_rfl) rfl (PQ.then_ (PQ.inB (PQ.then_ (PQ.then_ (PQ.inB (PQ.then_ (PQ.then_ PQ.body))))))) (Wt.no rfl rfl rfl hk13295) (fun W hO => hO) ?_
         refine TA.take 15 rfl (by kernel_rfl) rfl (PQ.then_ (PQ.inB (PQ.then_ (PQ.then_ (PQ.inB (PQ.then_ (PQ.then_ PQ.body))))))) rfl (Val.pickN rfl hk13295 rfl) (fun W hO => hO) ?_
         refine TA.take 16 rfl (by kernel_rfl) rfl (PQ.then_ (PQ.inB (PQ.then_ (PQ.then_ (PQ.inB (PQ.then_ (PQ.then_ PQ.body))))))) rfl (Val.assign rfl) (fun W hO => hO) ?_
         refine TA.done (by kernel_rfl) ?_
         exact fun a W hF hO => ⟨false, G12271, h, e12272, hF.sub ⟨rfl, rfl, rfl, rfl, rfl, trivial⟩, hO.selT (Ls := [Blk b17 [.int .i64 y12.f0, .slice A14 y12.f1.length c15] 36, Blk b5 [.int .i64 a0.f0, .slice A1 a0.f1.length c2] 36, Alk W2261 S2262, Row k28 28 (.slice A14 y12.f1.length c15) y12.f1]) [0, 1, 2, 3] 4 rfl rfl rfl⟩
      ·
       refine TC.exit ?_
       refine TQ.thenX ?_
       refine TQ.thenX ?_
       refine TQ.inBX ?_
       exact fun a W hF hO => ⟨x12273, G12271, Option.some.inj h, e12272, hF.sub ⟨rfl, rfl, rfl, rfl, trivial⟩, hO.selT (Ls := [Blk b17 [.int .i64 y12.f0, .slice A14 y12.f1.length c15] 36, Blk b5 [.int .i64 a0.f0, .slice A1 a0.f1.length c2] 36, Alk W2261 S2262, Row k28 28 (.slice A14 y12.f1.length c15) y12.f1]) [0, 1, 2, 3] 4 rfl rfl rfl⟩
   ·
    refine TC.block ?_
    intro a W hF hO
    have hS : ∃ (x6885 : Int) (G6883 : Gd), swagelaw23_DeadTells.l0 y18 (y18.f1.length + 1) x6885 = some o9194 ∧ G.le G6883 ∧ Fr 119 a [(1, .pointer (some ⟨b5, 0, none⟩)), (3, .bool y6), (5, .pointer (some ⟨b17, 0, none⟩)), (6, .pointer (some ⟨b23, 0, none⟩)), (7, .bool x119), (8, .int .i64 x6885)] ∧ Own G6883 (Blk b17 [.int .i64 y12.f0, .slice A14 y12.f1.length c15] 36 :: Blk b23 [.int .i64 y18.f0, .slice A20 y18.f1.length c21] 36 :: Blk b5 [.int .i64 a0.f0, .slice A1 a0.f1.length c2] 36 :: Alk W2261 S2262 :: Row k28 28 (.slice A14 y12.f1.length c15) y12.f1 :: L) W := by
     exact ⟨0, G117, ho9194, e118, hF.sub ⟨rfl, rfl, rfl, rfl, rfl, rfl, trivial⟩, hO.selT (Ls := [Blk b17 [.int .i64 y12.f0, .slice A14 y12.f1.length c15] 36, Blk b23 [.int .i64 y18.f0, .slice A20 y18.f1.length c21] 36, Blk b5 [.int .i64 a0.f0, .slice A1 a0.f1.length c2] 36, Alk W2261 S2262, Row k28 28 (.slice A14 y12.f1.length c15) y12.f1]) [1, 2, 3, 0, 4] 5 rfl rfl rfl⟩
    clear hF hO ho9194 ko9194
    refine TC.loop (fun n9195 a W => ∃ (x6885 : Int) (G6883 : Gd), swagelaw23_DeadTells.l0 y18 n9195 x6885 = some o9194 ∧ G.le G6883 ∧ Fr 119 a [(1, .pointer (some ⟨b5, 0, none⟩)), (3, .bool y6), (5, .pointer (some ⟨b17, 0, none⟩)), (6, .pointer (some ⟨b23, 0, none⟩)), (7, .bool x119), (8, .int .i64 x6885)] ∧ Own G6883 (Blk b17 [.int .i64 y12.f0, .slice A14 y12.f1.length c15] 36 :: Blk b23 [.int .i64 y18.f0, .slice A20 y18.f1.length c21] 36 :: Blk b5 [.int .i64 a0.f0, .slice A1 a0.f1.length c2] 36 :: Alk W2261 S2262 :: Row k28 28 (.slice A14 y12.f1.length c15) y12.f1 :: L) W) ?_ ?_ hS
    ·
     rintro a W ⟨x6885, G6883, h, e6884, hF, hO⟩
     exact none_no h
    ·
     clear hS
     rintro n9195 a W ⟨x6885, G6883, h, e6884, hF, hO⟩
     rw [swagelaw23_DeadTells.l0] at h
     refine TC.use ?_ hF hO
     clear hF hO
     refine TC.seq ?_
     refine TC.seq ?_
     refine TC.region ?_
     refine TL.cons (TO.val rfl rfl rfl (Val.move rfl) ?_)
     refine TL.cons (TO.val rfl rfl rfl (Val.fieldAddrB Try.underlying36 rfl fsz34 rfl rfl rfl) ?_)
     refine TL.cons (TO.val rfl rfl rfl (Val.loadB 1 agg34 rfl rfl rfl) ?_)
     refine TL.cons (TO.val rfl rfl rfl (Val.len Try.underlying34 rfl) ?_)
     refine TL.cons (TO.val rfl rfl rfl (Val.cmp rfl rfl run_lss) ?_)
     refine TL.nil ?_
     refine TQ.then_ ?_
     refine TC.cond_p rfl h (fun hc13297 h => ?_) (fun hc13297 h => ?_)
     ·
      refine TC.skip ?_
      refine TQ.then_ ?_
      refine TC.seq ?_
      refine TC.block ?_
      refine TC.seq ?_
      refine TC.region ?_
      refine TL.cons (TO.val rfl rfl rfl (Val.assign rfl) ?_)
      refine TL.nil ?_
      refine TQ.then_ ?_
      obtain ⟨o16502, ho16502, ko16502⟩ := bind_no h
      clear h
      refine TC.tail (fun a W => ∃ (G16500 : Gd), () = o16502 ∧ G.le G16500 ∧ Fr 119 a [(1, .pointer (some ⟨b5, 0, none⟩)), (3, .bool y6), (5, .pointer (some ⟨b17, 0, none⟩)), (6, .pointer (some ⟨b23, 0, none⟩)), (7, .bool x119), (8, .int .i64 x6885)] ∧ Own G16500 (Blk b17 [.int .i64 y12.f0, .slice A14 y12.f1.length c15] 36 :: Blk b23 [.int .i64 y18.f0, .slice A20 y18.f1.length c21] 36 :: Blk b5 [.int .i64 a0.f0, .slice A1 a0.f1.length c2] 36 :: Alk W2261 S2262 :: Row k28 28 (.slice A14 y12.f1.length c15) y12.f1 :: L) W) ?_ ?_
      ·
       rintro a W ⟨G16500, rfl, e16501, hF, hO⟩
       have h := ko16502
       clear ko16502 ho16502
       refine TQ.use ?_ hF hO
       clear hF hO
       refine TQ.inB ?_
       refine TQ.then_ ?_
       refine TC.region ?_
       refine TL.cons (TO.val rfl rfl rfl (Val.move rfl) ?_)
       refine TL.cons (TO.val rfl rfl rfl (Val.cmp rfl rfl run_add) ?_)
       refine TL.cons (TO.val rfl rfl rfl (Val.assign rfl) ?_)
       refine TL.nil ?_
       exact fun a W hF hO => ⟨IntKind.i64.wrap (x6885 + 1), G16500, h, e16501, hF.sub ⟨rfl, rfl, rfl, rfl, rfl, rfl, trivial⟩, hO.selT (Ls := [Blk b17 [.int .i64 y12.f0, .slice A14 y12.f1.length c15] 36, Blk b23 [.int .i64 y18.f0, .slice A20 y18.f1.length c21] 36, Blk b5 [.int .i64 a0.f0, .slice A1 a0.f1.length c2] 36, Alk W2261 S2262, Row k28 28 (.slice A14 y12.f1.length c15) y12.f1]) [0, 1, 2, 3, 4] 5 rfl rfl rfl⟩
      ·
       refine TC.block ?_
       intro a W hF hO
       have hS : ∃ (x16079 : Int) (G16077 : Gd), swagelaw23_DeadTells.l2 y18 x6885 100000 x16079 = some o16502 ∧ G.le G16077 ∧ Fr 119 a [(1, .pointer (some ⟨b5, 0, none⟩)), (3, .bool y6), (5, .pointer (some ⟨b17, 0, none⟩)), (6, .pointer (some ⟨b23, 0, none⟩)), (7, .bool x119), (8, .int .i64 x6885), (9, .int .i64 x16079)] ∧ Own G16077 (Blk b17 [.int .i64 y12.f0, .slice A14 y12.f1.length c15] 36 :: Blk b23 [.int .i64 y18.f0, .slice A20 y18.f1.length c21] 36 :: Blk b5 [.int .i64 a0.f0, .slice A1 a0.f1.length c2] 36 :: Alk W2261 S2262 :: Row k28 28 (.slice A14 y12.f1.length c15) y12.f1 :: L) W := by
        exact ⟨0, G6883, ho16502, e6884, hF.sub ⟨rfl, rfl, rfl, rfl, rfl, rfl, rfl, trivial⟩, hO.selT (Ls := [Blk b17 [.int .i64 y12.f0, .slice A14 y12.f1.length c15] 36, Blk b23 [.int .i64 y18.f0, .slice A20 y18.f1.length c21] 36, Blk b5 [.int .i64 a0.f0, .slice A1 a0.f1.length c2] 36, Alk W2261 S2262, Row k28 28 (.slice A14 y12.f1.length c15) y12.f1]) [0, 1, 2, 3, 4] 5 rfl rfl rfl⟩
       clear hF hO ho16502 ko16502
       refine TC.loop (fun n16503 a W => ∃ (x16079 : Int) (G16077 : Gd), swagelaw23_DeadTells.l2 y18 x6885 n16503 x16079 = some o16502 ∧ G.le G16077 ∧ Fr 119 a [(1, .pointer (some ⟨b5, 0, none⟩)), (3, .bool y6), (5, .pointer (some ⟨b17, 0, none⟩)), (6, .pointer (some ⟨b23, 0, none⟩)), (7, .bool x119), (8, .int .i64 x6885), (9, .int .i64 x16079)] ∧ Own G16077 (Blk b17 [.int .i64 y12.f0, .slice A14 y12.f1.length c15] 36 :: Blk b23 [.int .i64 y18.f0, .slice A20 y18.f1.length c21] 36 :: Blk b5 [.int .i64 a0.f0, .slice A1 a0.f1.length c2] 36 :: Alk W2261 S2262 :: Row k28 28 (.slice A14 y12.f1.length c15) y12.f1 :: L) W) ?_ ?_ hS
       ·
        rintro a W ⟨x16079, G16077, h, e16078, hF, hO⟩
        exact none_no h
       ·
        clear hS
        rintro n16503 a W ⟨x16079, G16077, h, e16078, hF, hO⟩
        rw [swagelaw23_DeadTells.l2] at h
        refine TC.use ?_ hF hO
        clear hF hO
        refine TC.seq ?_
        refine TC.seq ?_
        refine TC.region ?_
        refine TL.cons (TO.val rfl rfl rfl (Val.move rfl) ?_)
        refine TL.cons (TO.val rfl rfl rfl (Val.fieldAddrB Try.underlying36 rfl fsz34 rfl rfl rfl) ?_)
        refine TL.cons (TO.val rfl rfl rfl (Val.loadB 1 agg34 rfl rfl rfl) ?_)
        refine TL.cons (TO.val rfl rfl rfl (Val.move rfl) ?_)
        obtain ⟨y16924, hx16925, h⟩ := bind_no h
        obtain ⟨b16926, cs16927, hA16928, hi16929, hj16930, hS16931, hM16932, hcl16933⟩ := RA.at hR2264 hx16925
        obtain ⟨v16934, rfl, hR16935⟩ := k28_openM hM16932
        obtain ⟨A16936, c16937, rfl⟩ := Kd.R_slice hR16935
        refine TL.cons (TO.val rfl rfl rfl (Val.indexAddrW Try.underlying34 fsz28 rfl hA16928 rfl hi16929 hj16930) ?_)
        refine TL.cons (TO.val rfl rfl rfl (Val.fieldAddrB Try.underlying28 rfl fsz26 rfl rfl rfl) ?_)
        refine TL.cons (TO.val rfl rfl rfl (Val.loadAlk 3 agg26 rfl rfl hS16931 (cell_sub (q := 0) hcl16933 rfl)) ?_)
        refine TL.cons (TO.val rfl rfl rfl (Val.len Try.underlying26 rfl) ?_)
        refine TL.cons (TO.val rfl rfl rfl (Val.cmp rfl rfl run_lss) ?_)
        refine TL.nil ?_
        refine TQ.then_ ?_
        refine TC.cond_p rfl h (fun hc16939 h => ?_) (fun hc16939 h => ?_)
        ·
         refine TC.skip ?_
         refine TQ.then_ ?_
         refine TC.seq ?_
         refine TC.block ?_
         refine TC.seq ?_
         refine TC.seq ?_
         refine TC.region ?_
         refine TL.cons (TO.val rfl rfl rfl (Val.assign rfl) ?_)
         refine TL.nil ?_
         refine TQ.then_ ?_
         obtain ⟨o17360, ho17360, ko17360⟩ := bind_no h
         clear h
         refine TC.tail (fun a W => ∃ (G17358 : Gd), () = o17360 ∧ G.le G17358 ∧ Fr 119 a [(1, .pointer (some ⟨b5, 0, none⟩)), (3, .bool y6), (5, .pointer (some ⟨b17, 0, none⟩)), (6, .pointer (some ⟨b23, 0, none⟩)), (7, .bool x119), (8, .int .i64 x6885), (9, .int .i64 x16079)] ∧ Own G17358 (Blk b17 [.int .i64 y12.f0, .slice A14 y12.f1.length c15] 36 :: Blk b23 [.int .i64 y18.f0, .slice A20 y18.f1.length c21] 36 :: Blk b5 [.int .i64 a0.f0, .slice A1 a0.f1.length c2] 36 :: Alk W2261 S2262 :: Row k28 28 (.slice A14 y12.f1.length c15) y12.f1 :: L) W) ?_ ?_
         ·
          rintro a W ⟨G17358, rfl, e17359, hF, hO⟩
          have h := ko17360
          clear ko17360 ho17360
          refine TQ.use ?_ hF hO
          clear hF hO
          refine TQ.then_ ?_
          refine TC.region ?_
          refine TL.cons (TO.val rfl rfl rfl (Val.fieldAddrB Try.underlying36 rfl fsz34 rfl rfl rfl) ?_)
          refine TL.cons (TO.val rfl rfl rfl (Val.loadB 1 agg34 rfl rfl rfl) ?_)
          refine TL.cons (TO.val rfl rfl rfl (Val.move rfl) ?_)
          obtain ⟨y17412, hx17413, h⟩ := bind_no h
          obtain ⟨b17414, cs17415, hA17416, hi17417, hj17418, hS17419, hM17420, hcl17421⟩ := RA.at hR2264 hx17413
          obtain ⟨v17422, rfl, hR17423⟩ := k28_openM hM17420
          obtain ⟨A17424, c17425, rfl⟩ := Kd.R_slice hR17423
          refine TL.cons (TO.val rfl rfl rfl (Val.indexAddrW Try.underlying34 fsz28 rfl hA17416 rfl hi17417 hj17418) ?_)
          refine TL.cons (TO.val rfl rfl rfl (Val.fieldAddrB Try.underlying28 rfl fsz26 rfl rfl rfl) ?_)
          refine TL.cons (TO.val rfl rfl rfl (Val.loadAlk 3 agg26 rfl rfl hS17419 (cell_sub (q := 0) hcl17421 rfl)) ?_)
          refine TL.cons (TO.val rfl rfl rfl (Val.move rfl) ?_)
          obtain ⟨y17426, hx17427, h⟩ := bind_no h
          obtain ⟨b17428, cs17429, hA17430, hi17431, hj17432, hS17433, hM17434, hcl17435⟩ := RA.at hR17423 hx17427
          obtain ⟨v17436, rfl, hR17437⟩ := k30_openM hM17434
          obtain ⟨A17438, c17439, rfl⟩ := Kd.R_slice hR17437
          refine TL.cons (TO.val rfl rfl rfl (Val.indexAddrW Try.underlying26 fsz30 rfl hA17430 rfl hi17431 hj17432) ?_)
          refine TL.cons (TO.val rfl rfl rfl (Val.fieldAddrB Try.underlying30 rfl fsz3 rfl rfl rfl) ?_)
          refine TL.cons (TL.storeAlk 3 rfl fsz3 rfl rfl rfl hS17433 (cell_sub (q := 0) hcl17435 rfl) ?_)
          refine TL.nil ?_
          refine TQ.inB ?_
          refine TQ.then_ ?_
          refine TC.region ?_
          refine TL.cons (TO.val rfl rfl rfl (Val.move rfl) ?_)
          refine TL.cons (TO.val rfl rfl rfl (Val.cmp rfl rfl run_add) ?_)
          refine TL.cons (TO.val rfl rfl rfl (Val.assign rfl) ?_)
          refine TL.nil ?_
          exact fun a W hF hO => ⟨IntKind.i64.wrap (x16079 + 1), G17358, h, e17359, hF.sub ⟨rfl, rfl, rfl, rfl, rfl, rfl, rfl, trivial⟩, hO.selT (Ls := [Blk b17 [.int .i64 y12.f0, .slice A14 y12.f1.length c15] 36, Blk b23 [.int .i64 y18.f0, .slice A20 y18.f1.length c21] 36, Blk b5 [.int .i64 a0.f0, .slice A1 a0.f1.length c2] 36, Alk W2261 S2262, Row k28 28 (.slice A14 y12.f1.length c15) y12.f1]) [0, 1, 2, 3, 4] 5 rfl rfl rfl⟩
         ·
          refine TC.block ?_
          intro a W hF hO
          have hS : ∃ (x17307 : Int) (G17305 : Gd), swagelaw23_DeadTells.l3 y18 x6885 x16079 100000 x17307 = some o17360 ∧ G.le G17305 ∧ Fr 119 a [(1, .pointer (some ⟨b5, 0, none⟩)), (3, .bool y6), (5, .pointer (some ⟨b17, 0, none⟩)), (6, .pointer (some ⟨b23, 0, none⟩)), (7, .bool x119), (8, .int .i64 x6885), (9, .int .i64 x16079), (10, .int .i64 x17307)] ∧ Own G17305 (Blk b17 [.int .i64 y12.f0, .slice A14 y12.f1.length c15] 36 :: Blk b23 [.int .i64 y18.f0, .slice A20 y18.f1.length c21] 36 :: Blk b5 [.int .i64 a0.f0, .slice A1 a0.f1.length c2] 36 :: Alk W2261 S2262 :: Row k28 28 (.slice A14 y12.f1.length c15) y12.f1 :: L) W := by
           exact ⟨0, G16077, ho17360, e16078, hF.sub ⟨rfl, rfl, rfl, rfl, rfl, rfl, rfl, rfl, trivial⟩, hO.selT (Ls := [Blk b17 [.int .i64 y12.f0, .slice A14 y12.f1.length c15] 36, Blk b23 [.int .i64 y18.f0, .slice A20 y18.f1.length c21] 36, Blk b5 [.int .i64 a0.f0, .slice A1 a0.f1.length c2] 36, Alk W2261 S2262, Row k28 28 (.slice A14 y12.f1.length c15) y12.f1]) [0, 1, 2, 3, 4] 5 rfl rfl rfl⟩
          clear hF hO ho17360 ko17360
          refine TC.loop (fun n17361 a W => ∃ (x17307 : Int) (G17305 : Gd), swagelaw23_DeadTells.l3 y18 x6885 x16079 n17361 x17307 = some o17360 ∧ G.le G17305 ∧ Fr 119 a [(1, .pointer (some ⟨b5, 0, none⟩)), (3, .bool y6), (5, .pointer (some ⟨b17, 0, none⟩)), (6, .pointer (some ⟨b23, 0, none⟩)), (7, .bool x119), (8, .int .i64 x6885), (9, .int .i64 x16079), (10, .int .i64 x17307)] ∧ Own G17305 (Blk b17 [.int .i64 y12.f0, .slice A14 y12.f1.length c15] 36 :: Blk b23 [.int .i64 y18.f0, .slice A20 y18.f1.length c21] 36 :: Blk b5 [.int .i64 a0.f0, .slice A1 a0.f1.length c2] 36 :: Alk W2261 S2262 :: Row k28 28 (.slice A14 y12.f1.length c15) y12.f1 :: L) W) ?_ ?_ hS
          ·
           rintro a W ⟨x17307, G17305, h, e17306, hF, hO⟩
           exact none_no h
          ·
           clear hS
           rintro n17361 a W ⟨x17307, G17305, h, e17306, hF, hO⟩
           rw [swagelaw23_DeadTells.l3] at h
           refine TC.use ?_ hF hO
           clear hF hO
           refine TC.seq ?_
           refine TC.seq ?_
           refine TC.region ?_
           refine TL.cons (TO.val rfl rfl rfl (Val.move rfl) ?_)
           refine TL.cons (TO.val rfl rfl rfl (Val.fieldAddrB Try.underlying36 rfl fsz34 rfl rfl rfl) ?_)
           refine TL.cons (TO.val rfl rfl rfl (Val.loadB 1 agg34 rfl rfl rfl) ?_)
           refine TL.cons (TO.val rfl rfl rfl (Val.move rfl) ?_)
           obtain ⟨y17440, hx17441, h⟩ := bind_no h
           obtain ⟨b17442, cs17443, hA17444, hi17445, hj17446, hS17447, hM17448, hcl17449⟩ := RA.at hR2264 hx17441
           obtain ⟨v17450, rfl, hR17451⟩ := k28_openM hM17448
           obtain ⟨A17452, c17453, rfl⟩ := Kd.R_slice hR17451
           refine TL.cons (TO.val rfl rfl rfl (Val.indexAddrW Try.underlying34 fsz28 rfl hA17444 rfl hi17445 hj17446) ?_)
           refine TL.cons (TO.val rfl rfl rfl (Val.fieldAddrB Try.underlying28 rfl fsz26 rfl rfl rfl) ?_)
           refine TL.cons (TO.val rfl rfl rfl (Val.loadAlk 3 agg26 rfl rfl hS17447 (cell_sub (q := 0) hcl17449 rfl)) ?_)
           refine TL.cons (TO.val rfl rfl rfl (Val.move rfl) ?_)
           obtain ⟨y17454, hx17455, h⟩ := bind_no h
           obtain ⟨b17456, cs17457, hA17458, hi17459, hj17460, hS17461, hM17462, hcl17463⟩ := RA.at hR17451 hx17455
           obtain ⟨v17464, rfl, hR17465⟩ := k30_openM hM17462
           obtain ⟨A17466, c17467, rfl⟩ := Kd.R_slice hR17465
           refine TL.cons (TO.val rfl rfl rfl (Val.indexAddrW Try.underlying26 fsz30 rfl hA17458 rfl hi17459 hj17460) ?_)
           refine TL.cons (TO.val rfl rfl rfl (Val.fieldAddrB Try.underlying30 rfl fsz22 rfl rfl rfl) ?_)
           refine TL.cons (TO.val rfl rfl rfl (Val.loadAlk 3 agg22 rfl rfl hS17461 (cell_sub (q := 5) hcl17463 rfl)) ?_)
           refine TL.cons (TO.val rfl rfl rfl (Val.len Try.underlying22 rfl) ?_)
           refine TL.cons (TO.val rfl rfl rfl (Val.cmp rfl rfl run_lss) ?_)
           refine TL.nil ?_
           refine TQ.then_ ?_
           refine TC.cond_p rfl h (fun hc17469 h => ?_) (fun hc17469 h => ?_)
           ·
            refine TC.skip ?_
            refine TQ.then_ ?_
            refine TC.seq ?_
            refine TC.block ?_
            refine TC.region ?_
            refine TL.cons (TO.val rfl rfl rfl (Val.fieldAddrB Try.underlying36 rfl fsz34 rfl rfl rfl) ?_)
            refine TL.cons (TO.val rfl rfl rfl (Val.loadB 1 agg34 rfl rfl rfl) ?_)
            refine TL.cons (TO.val rfl rfl rfl (Val.move rfl) ?_)
            refine TL.cons (TO.val rfl rfl rfl (Val.indexAddrW Try.underlying34 fsz28 rfl hA17444 rfl hi17445 hj17446) ?_)
            refine TL.cons (TO.val rfl rfl rfl (Val.fieldAddrB Try.underlying28 rfl fsz26 rfl rfl rfl) ?_)
            refine TL.cons (TO.val rfl rfl rfl (Val.loadAlk 3 agg26 rfl rfl hS17447 (cell_sub (q := 0) hcl17449 rfl)) ?_)
            refine TL.cons (TO.val rfl rfl rfl (Val.move rfl) ?_)
            refine TL.cons (TO.val rfl rfl rfl (Val.indexAddrW Try.underlying26 fsz30 rfl hA17458 rfl hi17459 hj17460) ?_)
            refine TL.cons (TO.val rfl rfl rfl (Val.fieldAddrB Try.underlying30 rfl fsz22 rfl rfl rfl) ?_)
            refine TL.cons (TO.val rfl rfl rfl (Val.loadAlk 3 agg22 rfl rfl hS17461 (cell_sub (q := 5) hcl17463 rfl)) ?_)
            refine TL.cons (TO.val rfl rfl rfl (Val.move rfl) ?_)
            obtain ⟨y17480, hx17481, h⟩ := bind_no h
            obtain ⟨b17482, cs17483, hA17484, hi17485, hj17486, hS17487, hM17488, hcl17489⟩ := RA.at hR17465 hx17481
            obtain rfl := (Kd.int .i64).K_of_M hM17488
            refine TL.cons (TO.val rfl rfl rfl (Val.indexAddrW Try.underlying22 fsz3 rfl hA17484 rfl hi17485 hj17486) ?_)
            refine TL.cons (TL.storeAlk 3 rfl fsz3 rfl rfl rfl hS17487 (cell_sub (q := 0) hcl17489 rfl) ?_)
            refine TL.nil ?_
            refine TQ.inB ?_
            refine TQ.then_ ?_
            refine TC.region ?_
            refine TL.cons (TO.val rfl rfl rfl (Val.move rfl) ?_)
            refine TL.cons (TO.val rfl rfl rfl (Val.cmp rfl rfl run_add) ?_)
            refine TL.cons (TO.val rfl rfl rfl (Val.assign rfl) ?_)
            refine TL.nil ?_
            exact fun a W hF hO => ⟨IntKind.i64.wrap (x17307 + 1), G17305, h, e17306, hF.sub ⟨rfl, rfl, rfl, rfl, rfl, rfl, rfl, rfl, trivial⟩, hO.selT (Ls := [Blk b17 [.int .i64 y12.f0, .slice A14 y12.f1.length c15] 36, Blk b23 [.int .i64 y18.f0, .slice A20 y18.f1.length c21] 36, Blk b5 [.int .i64 a0.f0, .slice A1 a0.f1.length c2] 36, Alk W2261 S2262, Row k28 28 (.slice A14 y12.f1.length c15) y12.f1]) [0, 1, 2, 3, 4] 5 rfl rfl rfl⟩
           ·
            refine TC.exit ?_
            refine TQ.thenX ?_
            refine TQ.thenX ?_
            refine TQ.inBX ?_
            exact fun a W hF hO => ⟨G17305, Option.some.inj h, e17306, hF.sub ⟨rfl, rfl, rfl, rfl, rfl, rfl, rfl, trivial⟩, hO.selT (Ls := [Blk b17 [.int .i64 y12.f0, .slice A14 y12.f1.length c15] 36, Blk b23 [.int .i64 y18.f0, .slice A20 y18.f1.length c21] 36, Blk b5 [.int .i64 a0.f0, .slice A1 a0.f1.length c2] 36, Alk W2261 S2262, Row k28 28 (.slice A14 y12.f1.length c15) y12.f1]) [0, 1, 2, 3, 4] 5 rfl rfl rfl⟩
        ·
         refine TC.exit ?_
         refine TQ.thenX ?_
         refine TQ.thenX ?_
         refine TQ.inBX ?_
         exact fun a W hF hO => ⟨G16077, Option.some.inj h, e16078, hF.sub ⟨rfl, rfl, rfl, rfl, rfl, rfl, trivial⟩, hO.selT (Ls := [Blk b17 [.int .i64 y12.f0, .slice A14 y12.f1.length c15] 36, Blk b23 [.int .i64 y18.f0, .slice A20 y18.f1.length c21] 36, Blk b5 [.int .i64 a0.f0, .slice A1 a0.f1.length c2] 36, Alk W2261 S2262, Row k28 28 (.slice A14 y12.f1.length c15) y12.f1]) [0, 1, 2, 3, 4] 5 rfl rfl rfl⟩
     ·
      refine TC.exit ?_
      refine TQ.thenX ?_
      refine TQ.thenX ?_
      refine TQ.inBX ?_
      exact fun a W hF hO => ⟨G6883, Option.some.inj h, e6884, hF.sub ⟨rfl, rfl, rfl, rfl, trivial⟩, hO.selT (Ls := [Blk b17 [.int .i64 y12.f0, .slice A14 y12.f1.length c15] 36, Blk b5 [.int .i64 a0.f0, .slice A1 a0.f1.length c2] 36, Alk W2261 S2262, Row k28 28 (.slice A14 y12.f1.length c15) y12.f1]) [0, 2, 3, 4] 5 rfl rfl rfl⟩
  ·
   refine TC.regionAny [] [0, 1, 4, 5, 6, 7, 8, 9, 10, 11] mixed (by kernel_rfl) ?_
   refine TA.take 0 rfl (by kernel_rfl) rfl (PQ.then_ (PQ.then_ PQ.body)) rfl (Val.loadsB 0 (cs := [.int .i64 y18.f0, .slice A20 y18.f1.length c21]) agg36 fsz36 rfl rfl rfl rfl) (fun W hO => hO) ?_
   refine TA.take 1 rfl (by kernel_rfl) rfl (PQ.then_ (PQ.then_ PQ.body)) rfl (Val.loadsB 4 (cs := [.int .i64 a0.f0, .slice A1 a0.f1.length c2]) agg36 fsz36 rfl rfl rfl rfl) (fun W hO => hO) ?_
   obtain ⟨y17554, hy17555, h⟩ := bind_no h
   refine TA.eff 2 rfl (by kernel_rfl) rfl (TL.callV (Lin := []) (args := [.agg #[.int .i64 a0.f0, .slice A1 a0.f1.length c2]]) rfl rfl rfl hbd17 rfl rfl (swageref23_Func.calls (a0 := a0) hr3 hl4 hy17555) rfl ?_)
   rintro _ G17556 _ e17557 ⟨A17558, c17559, rfl, rfl⟩
   refine TA.next (fun W hO => (Own.weak e17557 hO).selT (Ls := [Blk b23 [.int .i64 y18.f0, .slice A20 y18.f1.length c21] 36, Row k28 28 (.slice A20 y18.f1.length c21) y18.f1, Blk b17 [.int .i64 y12.f0, .slice A14 y12.f1.length c15] 36, Row k28 28 (.slice A14 y12.f1.length c15) y12.f1, Blk b5 [.int .i64 a0.f0, .slice A1 a0.f1.length c2] 36]) [1, 2, 3, 4, 5] 6 rfl rfl rfl) ?_
   refine TK.sel (Ls := [Row k28 28 (.slice A20 y18.f1.length c21) y18.f1, Row (Sh G17556 k28) 28 (.slice A17558 y17554.f1.length c17559) y17554.f1, Blk b23 [.int .i64 y18.f0, .slice A20 y18.f1.length c21] 36, Blk b17 [.int .i64 y12.f0, .slice A14 y12.f1.length c15] 36, Row k28 28 (.slice A14 y12.f1.length c15) y12.f1, Blk b5 [.int .i64 a0.f0, .slice A1 a0.f1.length c2] 36]) [2, 0, 1, 3, 4, 5] 6 rfl rfl rfl ?_
   refine TK.share (fun G17561 e17562 hs17563 hb17564 => ?_)
   have rd17565 : Rd G17561 k28 A20 y18.f1 := Rd.row hs17563
   have le17566 : y18.f1.length ≤ c21 := Row.le hs17563
   refine TK.share (fun G17567 e17568 hs17569 hb17570 => ?_)
   have rd17571 : Rd G17567 k28 A17558 y17554.f1 := Rd.unsh (Rd.row hs17569) (e17562.trans e17568)
   have le17572 : y17554.f1.length ≤ c17559 := Row.le hs17569
   have rd17573 := Rd.row hs17569
   obtain ⟨y17574, hy17575, h⟩ := bind_no h
   refine TA.eff 3 rfl (by kernel_rfl) rfl (TL.callV (Lin := []) (args := [.agg #[.int .i64 y18.f0, .slice A20 y18.f1.length c21], .agg #[.int .i64 y17554.f0, .slice A17558 y17554.f1.length c17559]]) rfl rfl rfl hbd16 rfl rfl (swageref14_Same.calls (a0 := y18) (a1 := y17554) (rd17565.up e17568) le17566 rd17571 le17572 hy17575) rfl ?_)
   rintro _ _ _ _ ⟨rfl, rfl, rfl⟩
   refine TA.next (fun W hO => (Own.weak e17557 (hb17564 _ _ (hb17570 _ _ hO))).selT (Ls := [Blk b23 [.int .i64 y18.f0, .slice A20 y18.f1.length c21] 36, Row k28 28 (.slice A20 y18.f1.length c21) y18.f1, Blk b17 [.int .i64 y12.f0, .slice A14 y12.f1.length c15] 36, Row k28 28 (.slice A14 y12.f1.length c15) y12.f1, Blk b5 [.int .i64 a0.f0, .slice A1 a0.f1.length c2] 36]) [2, 0, 3, 4, 5] 6 rfl rfl rfl) ?_
   refine TA.take 4 rfl (by kernel_rfl) rfl (PQ.then_ (PQ.then_ PQ.body)) rfl (Val.move rfl) (fun W hO => (Own.weak e17557 (hb17564 _ _ (hb17570 _ _ hO))).selT (Ls := [Blk b23 [.int .i64 y18.f0, .slice A20 y18.f1.length c21] 36, Row k28 28 (.slice A20 y18.f1.length c21) y18.f1, Blk b17 [.int .i64 y12.f0, .slice A14 y12.f1.length c15] 36, Row k28 28 (.slice A14 y12.f1.length c15) y12.f1, Blk b5 [.int .i64 a0.f0, .slice A1 a0.f1.length c2] 36]) [2, 0, 3, 4, 5] 6 rfl rfl rfl) ?_
   refine TK.split (p := y17574 = true) h (fun hg17576 h => ?_) (fun hg17576 h => ?_)
   ·
    have hk17577 : y17574 = true := hg17576
    refine TA.take 5 rfl (by kernel_rfl) rfl (PQ.then_ (PQ.then_ PQ.body)) (Wt.yes rfl rfl rfl hk17577) (Val.loadsB 4 (cs := [.int .i64 a0.f0, .slice A1 a0.f1.length c2]) agg36 fsz36 rfl rfl rfl rfl) (fun W hO => (Own.weak e17557 (hb17564 _ _ (hb17570 _ _ hO))).selT (Ls := [Blk b23 [.int .i64 y18.f0, .slice A20 y18.f1.length c21] 36, Row k28 28 (.slice A20 y18.f1.length c21) y18.f1, Blk b17 [.int .i64 y12.f0, .slice A14 y12.f1.length c15] 36, Row k28 28 (.slice A14 y12.f1.length c15) y12.f1, Blk b5 [.int .i64 a0.f0, .slice A1 a0.f1.length c2] 36]) [2, 0, 3, 4, 5] 6 rfl rfl rfl) ?_
    refine TA.take 7 rfl (by kernel_rfl) rfl (PQ.then_ (PQ.then_ PQ.body)) (Wt.yes rfl rfl rfl hk17577) (Val.loadsB 4 (cs := [.int .i64 a0.f0, .slice A1 a0.f1.length c2]) agg36 fsz36 rfl rfl rfl rfl) (fun W hO => (Own.weak e17557 (hb17564 _ _ (hb17570 _ _ hO))).selT (Ls := [Blk b23 [.int .i64 y18.f0, .slice A20 y18.f1.length c21] 36, Row k28 28 (.slice A20 y18.f1.length c21) y18.f1, Blk b17 [.int .i64 y12.f0, .slice A14 y12.f1.length c15] 36, Row k28 28 (.slice A14 y12.f1.length c15) y12.f1, Blk b5 [.int .i64 a0.f0, .slice A1 a0.f1.length c2] 36]) [2, 0, 3, 4, 5] 6 rfl rfl rfl) ?_
    obtain ⟨y17578, hy17579, h⟩ := bind_no h
    refine TA.eff 6 rfl (by kernel_rfl) rfl (TL.callV (Lin := []) (args := [.agg #[.int .i64 a0.f0, .slice A1 a0.f1.length c2]]) (Wt.yes rfl rfl rfl hk17577) rfl rfl hbd12 rfl rfl (deadstore_Stores.calls (a0 := a0) (hr3.up (Gd.le.trans (Gd.le.trans e17557 e17562) e17568)) hl4 hy17579) rfl ?_)
    rintro _ _ _ _ ⟨rfl, rfl, rfl⟩
    refine TA.next (fun W hO => (Own.weak e17557 (hb17564 _ _ (hb17570 _ _ hO))).selT (Ls := [Blk b23 [.int .i64 y18.f0, .slice A20 y18.f1.length c21] 36, Row k28 28 (.slice A20 y18.f1.length c21) y18.f1, Blk b17 [.int .i64 y12.f0, .slice A14 y12.f1.length c15] 36, Row k28 28 (.slice A14 y12.f1.length c15) y12.f1, Blk b5 [.int .i64 a0.f0, .slice A1 a0.f1.length c2] 36]) [2, 0, 3, 4, 5] 6 rfl rfl rfl) ?_
    obtain ⟨y17580, hy17581, h⟩ := bind_no h
    refine TA.eff 8 rfl (by kernel_rfl) rfl (TL.callV (Lin := []) (args := [.agg #[.int .i64 a0.f0, .slice A1 a0.f1.length c2]]) (Wt.yes rfl rfl rfl hk17577) rfl rfl hbd18 rfl rfl (swageref23_Stores.calls (a0 := a0) (hr3.up (Gd.le.trans (Gd.le.trans e17557 e17562) e17568)) hl4 hy17581) rfl ?_)
    rintro _ _ _ _ ⟨rfl, rfl, rfl⟩
    refine TA.next (fun W hO => (Own.weak e17557 (hb17564 _ _ (hb17570 _ _ hO))).selT (Ls := [Blk b23 [.int .i64 y18.f0, .slice A20 y18.f1.length c21] 36, Row k28 28 (.slice A20 y18.f1.length c21) y18.f1, Blk b17 [.int .i64 y12.f0, .slice A14 y12.f1.length c15] 36, Row k28 28 (.slice A14 y12.f1.length c15) y12.f1, Blk b5 [.int .i64 a0.f0, .slice A1 a0.f1.length c2] 36]) [2, 0, 3, 4, 5] 6 rfl rfl rfl) ?_
    refine TA.take 9 rfl (by kernel_rfl) rfl (PQ.then_ (PQ.then_ PQ.body)) (Wt.yes rfl rfl rfl hk17577) (Val.cmp rfl rfl run_eql) (fun W hO => (Own.weak e17557 (hb17564 _ _ (hb17570 _ _ hO))).selT (Ls := [Blk b23 [.int .i64 y18.f0, .slice A20 y18.f1.length c21] 36, Row k28 28 (.slice A20 y18.f1.length c21) y18.f1, Blk b17 [.int .i64 y12.f0, .slice A14 y12.f1.length c15] 36, Row k28 28 (.slice A14 y12.f1.length c15) y12.f1, Blk b5 [.int .i64 a0.f0, .slice A1 a0.f1.length c2] 36]) [2, 0, 3, 4, 5] 6 rfl rfl rfl) ?_
    refine TA.take 10 rfl (by kernel_rfl) rfl (PQ.then_ (PQ.then_ PQ.body)) rfl (Val.pickY rfl hk17577 rfl) (fun W hO => (Own.weak e17557 (hb17564 _ _ (hb17570 _ _ hO))).selT (Ls := [Blk b23 [.int .i64 y18.f0, .slice A20 y18.f1.length c21] 36, Row k28 28 (.slice A20 y18.f1.length c21) y18.f1, Blk b17 [.int .i64 y12.f0, .slice A14 y12.f1.length c15] 36, Row k28 28 (.slice A14 y12.f1.length c15) y12.f1, Blk b5 [.int .i64 a0.f0, .slice A1 a0.f1.length c2] 36]) [2, 0, 3, 4, 5] 6 rfl rfl rfl) ?_
    refine TA.take 11 rfl (by kernel_rfl) rfl (PQ.then_ (PQ.then_ PQ.body)) rfl (Val.assign rfl) (fun W hO => (Own.weak e17557 (hb17564 _ _ (hb17570 _ _ hO))).selT (Ls := [Blk b23 [.int .i64 y18.f0, .slice A20 y18.f1.length c21] 36, Row k28 28 (.slice A20 y18.f1.length c21) y18.f1, Blk b17 [.int .i64 y12.f0, .slice A14 y12.f1.length c15] 36, Row k28 28 (.slice A14 y12.f1.length c15) y12.f1, Blk b5 [.int .i64 a0.f0, .slice A1 a0.f1.length c2] 36]) [2, 0, 3, 4, 5] 6 rfl rfl rfl) ?_
    refine TA.done (by kernel_rfl) ?_
    refine TQ.back hb17570 ?_
    refine TQ.back hb17564 ?_
    exact fun a W hF hO => ⟨decide (y17578 = y17580), G17556, h, e17557, hF.sub ⟨rfl, rfl, rfl, rfl, rfl, trivial⟩, hO.selT (Ls := [Blk b17 [.int .i64 y12.f0, .slice A14 y12.f1.length c15] 36, Blk b23 [.int .i64 y18.f0, .slice A20 y18.f1.length c21] 36, Blk b5 [.int .i64 a0.f0, .slice A1 a0.f1.length c2] 36, Row k28 28 (.slice A14 y12.f1.length c15) y12.f1, Row k28 28 (.slice A20 y18.f1.length c21) y18.f1]) [3, 2, 5, 4, 0] 6 rfl rfl rfl⟩
   ·
    have hk17582 : y17574 = false := (by simpa using hg17576)
    refine TA.not 5 rfl (by kernel_rfl) rfl (PQ.then_ (PQ.then_ PQ.body)) (Wt.no rfl rfl rfl hk17582) (fun W hO => (Own.weak e17557 (hb17564 _ _ (hb17570 _ _ hO))).selT (Ls := [Blk b23 [.int .i64 y18.f0, .slice A20 y18.f1.length c21] 36, Row k28 28 (.slice A20 y18.f1.length c21) y18.f1, Blk b17 [.int .i64 y12.f0, .slice A14 y12.f1.length c15] 36, Row k28 28 (.slice A14 y12.f1.length c15) y12.f1, Blk b5 [.int .i64 a0.f0, .slice A1 a0.f1.length c2] 36]) [2, 0, 3, 4, 5] 6 rfl rfl rfl) ?_
    refine TA.not 6 rfl (by kernel_rfl) rfl (PQ.then_ (PQ.then_ PQ.body)) (Wt.no rfl rfl rfl hk17582) (fun W hO => (Own.weak e17557 (hb17564 _ _ (hb17570 _ _ hO))).selT (Ls := [Blk b23 [.int .i64 y18.f0, .slice A20 y18.f1.length c21] 36, Row k28 28 (.slice A20 y18.f1.length c21) y18.f1, Blk b17 [.int .i64 y12.f0, .slice A14 y12.f1.length c15] 36, Row k28 28 (.slice A14 y12.f1.length c15) y12.f1, Blk b5 [.int .i64 a0.f0, .slice A1 a0.f1.length c2] 36]) [2, 0, 3, 4, 5] 6 rfl rfl rfl) ?_
    refine TA.not 7 rfl (by kernel_rfl) rfl (PQ.then_ (PQ.then_ PQ.body)) (Wt.no rfl rfl rfl hk17582) (fun W hO => (Own.weak e17557 (hb17564 _ _ (hb17570 _ _ hO))).selT (Ls := [Blk b23 [.int .i64 y18.f0, .slice A20 y18.f1.length c21] 36, Row k28 28 (.slice A20 y18.f1.length c21) y18.f1, Blk b17 [.int .i64 y12.f0, .slice A14 y12.f1.length c15] 36, Row k28 28 (.slice A14 y12.f1.length c15) y12.f1, Blk b5 [.int .i64 a0.f0, .slice A1 a0.f1.length c2] 36]) [2, 0, 3, 4, 5] 6 rfl rfl rfl) ?_
    refine TA.not 8 rfl (by kernel_rfl) rfl (PQ.then_ (PQ.then_ PQ.body)) (Wt.no rfl rfl rfl hk17582) (fun W hO => (Own.weak e17557 (hb17564 _ _ (hb17570 _ _ hO))).selT (Ls := [Blk b23 [.int .i64 y18.f0, .slice A20 y18.f1.length c21] 36, Row k28 28 (.slice A20 y18.f1.length c21) y18.f1, Blk b17 [.int .i64 y12.f0, .slice A14 y12.f1.length c15] 36, Row k28 28 (.slice A14 y12.f1.length c15) y12.f1, Blk b5 [.int .i64 a0.f0, .slice A1 a0.f1.length c2] 36]) [2, 0, 3, 4, 5] 6 rfl rfl rfl) ?_
    refine TA.not 9 rfl (by kernel_rfl) rfl (PQ.then_ (PQ.then_ PQ.body)) (Wt.no rfl rfl rfl hk17582) (fun W hO => (Own.weak e17557 (hb17564 _ _ (hb17570 _ _ hO))).selT (Ls := [Blk b23 [.int .i64 y18.f0, .slice A20 y18.f1.length c21] 36, Row k28 28 (.slice A20 y18.f1.length c21) y18.f1, Blk b17 [.int .i64 y12.f0, .slice A14 y12.f1.length c15] 36, Row k28 28 (.slice A14 y12.f1.length c15) y12.f1, Blk b5 [.int .i64 a0.f0, .slice A1 a0.f1.length c2] 36]) [2, 0, 3, 4, 5] 6 rfl rfl rfl) ?_
    refine TA.take 10 rfl (by kernel_rfl) rfl (PQ.then_ (PQ.then_ PQ.body)) rfl (Val.pickN rfl hk17582 rfl) (fun W hO => (Own.weak e17557 (hb17564 _ _ (hb17570 _ _ hO))).selT (Ls := [Blk b23 [.int .i64 y18.f0, .slice A20 y18.f1.length c21] 36, Row k28 28 (.slice A20 y18.f1.length c21) y18.f1, Blk b17 [.int .i64 y12.f0, .slice A14 y12.f1.length c15] 36, Row k28 28 (.slice A14 y12.f1.length c15) y12.f1, Blk b5 [.int .i64 a0.f0, .slice A1 a0.f1.length c2] 36]) [2, 0, 3, 4, 5] 6 rfl rfl rfl) ?_
    refine TA.take 11 rfl (by kernel_rfl) rfl (PQ.then_ (PQ.then_ PQ.body)) rfl (Val.assign rfl) (fun W hO => (Own.weak e17557 (hb17564 _ _ (hb17570 _ _ hO))).selT (Ls := [Blk b23 [.int .i64 y18.f0, .slice A20 y18.f1.length c21] 36, Row k28 28 (.slice A20 y18.f1.length c21) y18.f1, Blk b17 [.int .i64 y12.f0, .slice A14 y12.f1.length c15] 36, Row k28 28 (.slice A14 y12.f1.length c15) y12.f1, Blk b5 [.int .i64 a0.f0, .slice A1 a0.f1.length c2] 36]) [2, 0, 3, 4, 5] 6 rfl rfl rfl) ?_
    refine TA.done (by kernel_rfl) ?_
    refine TQ.back hb17570 ?_
    refine TQ.back hb17564 ?_
    exact fun a W hF hO => ⟨false, G17556, h, e17557, hF.sub ⟨rfl, rfl, rfl, rfl, rfl, trivial⟩, hO.selT (Ls := [Blk b17 [.int .i64 y12.f0, .slice A14 y12.f1.length c15] 36, Blk b23 [.int .i64 y18.f0, .slice A20 y18.f1.length c21] 36, Blk b5 [.int .i64 a0.f0, .slice A1 a0.f1.length c2] 36, Row k28 28 (.slice A14 y12.f1.length c15) y12.f1, Row k28 28 (.slice A20 y18.f1.length c21) y18.f1]) [3, 2, 5, 4, 0] 6 rfl rfl rfl⟩
end Go.Proofs.Ytmacdhkfgoahcaa.Sy
set_option linter.unusedVariables false
set_option linter.unusedSimpArgs false
namespace Go.Proofs.Ytmacdhkfgoahcaa.Sy.Dx
open Go Go.RowKit Go.Proofs.YtmacdhkfgoahcaaW.PrintWords Go.Proofs.Ytmacdhkfgoahcaa.Q Go.Proofs.Ytmacdhkfgoahcaa.Fo Go.Proofs.Ytmacdhkfgoahcaa.De Go.Proofs.Ytmacdhkfgoahcaa.Sy
theorem contains_f (k : Int) : slices_Contains_int_int.f 11 ([4, 5, 9, 10] : List Int) k = some (decide (k = 4 ∨ k = 5 ∨ k = 9 ∨ k = 10)) := by
  by_cases h4 : k = 4
  · subst h4; decide +kernel
  by_cases h5 : k = 5
  · subst h5; decide +kernel
  by_cases h9 : k = 9
  · subst h9; decide +kernel
  by_cases h10 : k = 10
  · subst h10; decide +kernel
  have : decide (k = 4 ∨ k = 5 ∨ k = 9 ∨ k = 10) = false := by simp [h4, h5, h9, h10]
  rw [this]
  have w1 : wrap64 (0 + 1) = 1 := by decide +kernel
  have w2 : wrap64 (1 + 1) = 2 := by decide +kernel
  have w3 : wrap64 (2 + 1) = 3 := by decide +kernel
  have w4 : wrap64 (3 + 1) = 4 := by decide +kernel
  have r0 : rd [4, 5, 9, 10] 0 = 4 := by decide +kernel
  have r1 : rd [4, 5, 9, 10] 1 = 5 := by decide +kernel
  have r2 : rd [4, 5, 9, 10] 2 = 9 := by decide +kernel
  have r3 : rd [4, 5, 9, 10] 3 = 10 := by decide +kernel
  simp [slices_Contains_int_int.f, slices_Index_int_int.f, slices_Index_int_int.l0, w1, w2, w3, w4, r0, r1, r2, r3, h4, h5, h9, h10, -Int.zero_add, -Int.reduceAdd]
theorem pure_f (x : S30) : swageref14_Pure.f x = some (pureB x) := by
  unfold pureB code_Pure.f swageref14_Pure.f
  simp only [code_Pure.j0, contains_f, Option.bind_some]
  by_cases h1 : x.f0 = 1
  · simp [h1]
  by_cases h3 : x.f0 = 3
  · simp [h3]
  by_cases h2 : x.f0 = 2
  · simp only [h2]
    by_cases a : x.f4 = 4 <;> by_cases b : x.f4 = 5 <;> by_cases c : x.f4 = 9 <;> by_cases d : x.f4 = 10 <;> simp [a, b, c, d]
  · simp [h1, h2, h3]
theorem sets_f (x : S30) : swageref14_Sets.f x = some (setsI x) := by
  unfold swageref14_Sets.f setsI
  simp only [jn]
  by_cases h1 : x.f0 < 1
  · simp [h1]
  by_cases h8 : 8 < x.f0
  · simp [h8]
  by_cases h5 : x.f0 = 5
  · simp [h5]
  · simp [h1, h8, h5]
theorem dead_l0 {l : List S30} (hl : l.length ≤ 1000000) {z : S30} (hz : z.f0 = 5) : ∀ (r : List S30) (n i : Nat), l.drop i = r → r.length < n → i ≤ l.length → (swageref23_dead.l0 l z n (i : Int)).bind (fun | .inl q => some q | .inr _ => some false) = some (hit (bk r) z) := by
  intro r
  induction r with
  | nil =>
    intro n i hd hn hi
    obtain ⟨n, rfl⟩ : ∃ m, n = m + 1 := ⟨n - 1, by simp at hn; omega⟩
    have h2 := congrArg List.length hd
    rw [List.length_drop, List.length_nil] at h2
    rw [swageref23_dead.l0]
    simp only [jn]
    rw [if_neg (by omega)]
    simp [bk, hit, st0]
  | cons x r ih =>
    intro n i hd hn hi
    obtain ⟨n, rfl⟩ : ∃ m, n = m + 1 := ⟨n - 1, by omega⟩
    obtain ⟨h1, h2, h3, h4⟩ := drop_cons hd
    have ih' := ih n (i + 1) h3 (by simp at hn; omega) (by omega)
    rw [swageref23_dead.l0]
    simp only [jn, if_pos h1, hz, h2, pure_f, sets_f, Option.bind_some, wsucc (show i ≤ 140737488355328 by omega), bk]
    by_cases h5 : x.f0 = 5
    · have hx : (x.f0 == 5) = true := by simp [h5]
      rw [hit_store _ hx]
      by_cases ha : x.f2 = z.f2
      · simp only [h5, ha, decide_true, if_true, beq_self_eq_true, Bool.true_and]
        by_cases hi4 : x.f4 = z.f4 <;> simp [hi4]
      · simp [h5, ha]
    · have hx : (x.f0 == 5) = false := by simp [h5]
      cases hp : pureB x with
      | true =>
        rw [hit_pure _ hx hp]
        by_cases hs : setsI x = z.f2
        · simp [h5, hs]
        · simp only [h5, decide_true, if_true, if_false, Bool.not_true, Bool.false_eq_true, decide_eq_false hs]
          rw [ih']
          simp [Ne.symm hs, fun h => hs (Eq.symm h)]
      | false => rw [hit_else _ hx hp]; simp [h5]
theorem rdead_f {l : List S30} (hl : l.length ≤ 1000000) {i : Nat} {x : S30} {r : List S30} (hd : l.drop i = x :: r) : swageref23_dead.f l (i : Int) = some (deadP (bk r) x) := by
  obtain ⟨h1, h2, h3, h4⟩ := drop_cons hd
  unfold swageref23_dead.f
  rw [h2, Option.bind_some, wsucc (by omega), deadP_hit]
  by_cases h5 : x.f0 = 5
  · have := dead_l0 hl h5 r (l.length + 1) (i + 1) h3 (by have := congrArg List.length h3; rw [List.length_drop] at this; omega) (by omega)
    simp only [h5, beq_self_eq_true, Bool.true_and]
    exact this
  · rw [swageref23_dead.l0]
    simp only [jn]
    have hx : (x.f0 == 5) = false := by simp [h5]
    rw [hx]
    by_cases hlt : ((i + 1 : Nat) : Int) < (l.length : Int)
    · rw [if_pos hlt]; simp [h5]
    · rw [if_neg hlt]; simp
theorem rDead_f {b : S28} (hl : b.f0.length ≤ 250) : swageref23_Dead.f b = some (deadL b.f0) := by
  unfold swageref23_Dead.f
  have key : ∀ (r : List S30) (n i : Nat) (acc : List Int), b.f0.drop i = r → r.length < n → i ≤ b.f0.length → acc.length ≤ i → swageref23_Dead.l0 b n acc (i : Int) = some (acc ++ idx i (dd r)) := by
    intro r
    induction r with
    | nil =>
      intro n i acc hd hn hi ha
      obtain ⟨n, rfl⟩ : ∃ m, n = m + 1 := ⟨n - 1, by simp at hn; omega⟩
      have h2 := congrArg List.length hd
      rw [List.length_drop, List.length_nil] at h2
      rw [swageref23_Dead.l0, if_neg (by omega)]
      simp [dd, idx]
    | cons x r ih =>
      intro n i acc hd hn hi ha
      obtain ⟨n, rfl⟩ : ∃ m, n = m + 1 := ⟨n - 1, by omega⟩
      obtain ⟨h1, h2, h3, h4⟩ := drop_cons hd
      rw [swageref23_Dead.l0, if_pos h1, rdead_f (by omega) hd, Option.bind_some]
      simp only [jn, wsucc (show i ≤ 140737488355328 by omega), dd]
      cases hdp : deadP (bk r) x with
      | true =>
        simp only [if_true]
        rw [if_pos (by omega), ih n (i + 1) _ h3 (by simp at hn; omega) (by omega) (by simp; omega)]
        simp [idx]
      | false =>
        simp only [Bool.false_eq_true, if_false]
        rw [ih n (i + 1) _ h3 (by simp at hn; omega) (by omega) (by omega)]
        simp [idx]
  have := key b.f0 (b.f0.length + 1) 0 [] (by simp) (by omega) (by omega) (by simp)
  have h2 : swageref23_Dead.l0 b (b.f0.length + 1) [] 0 = some ([] ++ idx 0 (dd b.f0)) := this
  rw [h2, Option.bind_some, List.nil_append, deadL_idx]
theorem cut_to {l : List S30} {i : Nat} (h : i ≤ l.length) : cut? l 0 (i : Int) = some (l.take i) := by
  unfold cut?; rw [if_pos (by omega)]; simp
theorem cut_from {l : List S30} {i : Nat} (h : i ≤ l.length) : cut? l (i : Int) (l.length : Int) = some (l.drop i) := by
  unfold cut?; rw [if_pos (by omega)]; simp
theorem rblock_l1 {l : List S30} (hl : l.length ≤ 1000) : ∀ (r : List S30) (n i : Nat), l.drop i = r → r.length < n → i ≤ l.length → swageref23_Block.l1 n l false (i : Int) = some (match idx i (dd r) with | [] => (l, false) | j :: _ => (l.take j.toNat ++ l.drop (j.toNat + 1), true)) := by
  intro r
  induction r with
  | nil =>
    intro n i hd hn hi
    obtain ⟨n, rfl⟩ : ∃ m, n = m + 1 := ⟨n - 1, by simp at hn; omega⟩
    have h2 := congrArg List.length hd
    rw [List.length_drop, List.length_nil] at h2
    rw [swageref23_Block.l1]
    simp only [jn]
    rw [if_neg (by omega)]
    simp [dd, idx]
  | cons x r ih =>
    intro n i hd hn hi
    obtain ⟨n, rfl⟩ : ∃ m, n = m + 1 := ⟨n - 1, by omega⟩
    obtain ⟨h1, h2, h3, h4⟩ := drop_cons hd
    have hil : i < l.length := by omega
    rw [swageref23_Block.l1]
    simp only [jn, if_pos h1, Bool.not_false, if_true, rdead_f (show l.length ≤ 1000000 by omega) hd, Option.bind_some, wsucc (show i ≤ 140737488355328 by omega), dd]
    cases hdp : deadP (bk r) x with
    | true =>
      simp only [if_true, cut_to (show i ≤ l.length by omega), cut_from (show i + 1 ≤ l.length by omega), Option.bind_some, idx, Int.toNat_natCast]
      rw [if_pos (by simp; omega), if_pos (by simp; omega)]
      obtain ⟨n, rfl⟩ : ∃ m, n = m + 1 := ⟨n - 1, by simp at hn; omega⟩
      rw [swageref23_Block.l1]
      simp only [jn, Bool.not_true, List.nil_append]
      split <;> simp
    | false =>
      simp only [Bool.false_eq_true, if_false, idx]
      exact ih n (i + 1) h3 (by simp at hn; omega) (by omega)
theorem rblock_l0 : ∀ (k : Nat) (l : List S30) (n : Nat), l.length = k → l.length ≤ 1000 → l.length + 1 < n → swageref23_Block.l0 n l true = some (keep l) := by
  intro k
  induction k using Nat.strongRecOn with
  | _ k ih =>
    intro l n hk hl hn
    obtain ⟨n, rfl⟩ : ∃ m, n = m + 1 := ⟨n - 1, by omega⟩
    have h1 : swageref23_Block.l1 (l.length + 1) l false 0 = _ := rblock_l1 hl l (l.length + 1) 0 (by simp) (by omega) (by omega)
    rw [swageref23_Block.l0, if_pos rfl, h1]
    rcases first_dead l 0 with ⟨h2, h3⟩ | ⟨j, r, h2, h3, h4⟩
    · rw [h2]
      simp only [Option.bind_some]
      obtain ⟨n, rfl⟩ : ∃ m, n = m + 1 := ⟨n - 1, by omega⟩
      rw [swageref23_Block.l0, if_neg (by simp), h3]
    · rw [h2]
      simp only [Option.bind_some, Nat.zero_add, Int.toNat_natCast]
      have hlen : (l.take j ++ l.drop (j + 1)).length = l.length - 1 := by simp; omega
      rw [ih (l.length - 1) (by omega) (l.take j ++ l.drop (j + 1)) n hlen (by omega) (by omega), h4]
theorem rblock_f {b : S28} (hl : b.f0.length ≤ 250) (ha : ∀ o ∈ b.f0, o.f5.length ≤ 17592186044416) : swageref23_Block.f b = some (kb b) := by
  unfold swageref23_Block.f
  have hf : Fewp (⟨0, ([b] : List S28)⟩ : S36) := ⟨by simp, trivial, fun y hy => by
    obtain rfl : y = b := by simpa using hy
    exact ⟨hl, ha⟩⟩
  have h0 : at? ([b] : List S28) 0 = some b := rfl
  rw [rcopy_f hf, Option.bind_some, h0, Option.bind_some, rblock_l0 _ b.f0 (b.f0.length + 2) rfl (by omega) (by omega)]
  rfl
theorem rfunc_f {t : S36} (hf : Fewp t) : swageref23_Func.f t = some ⟨t.f0, t.f1.map kb⟩ := by
  obtain ⟨h1, _, h3⟩ := hf
  unfold swageref23_Func.f
  have := loopd (xs := t.f1) (F := fun n i z => swageref23_Func.l0 t n i z) (P := fun ys f => ∀ acc : List S28, acc.length + ys.length ≤ 2000 → f acc = some (acc ++ ys.map kb)) (by omega) (fun n acc h => by simp [swageref23_Func.l0]) (fun n i y r hd hlt hat hm hw ih acc h => by
    show swageref23_Func.l0 t (n + 1) i acc = _
    simp only [List.length_cons] at h
    rw [swageref23_Func.l0, if_pos hlt, hat, Option.bind_some, rblock_f (h3 y hm).1 (h3 y hm).2, Option.bind_some, if_pos (by omega), hw]
    have := ih (acc ++ [kb y]) (by simp; omega)
    simpa using this) (t.f1.length + 1) (by omega)
  have h0 := this [] (by simp; omega)
  simp only [List.nil_append] at h0
  rw [h0, Option.bind_some]
theorem rstores_l1 {t : S36} {j : Int} {y : S28} (hy : at? t.f1 j = some y) (hl : y.f0.length ≤ 250) (z : Nat) (hz : z ≤ 100000) : swageref23_Stores.l1 t j (y.f0.length + 1) (z : Int) 0 = some ((z + stores y.f0 : Nat) : Int) := by
  have := loopd (xs := y.f0) (F := fun n i w => swageref23_Stores.l1 t j n w i) (P := fun os f => ∀ w : Nat, w + os.length ≤ 200000 → f (w : Int) = some ((w + stores os : Nat) : Int)) (by omega) (fun n w h => by simp [swageref23_Stores.l1, hy, stores]) (fun n i o r hd hlt hat hm hw ih w h => by
    show swageref23_Stores.l1 t j (n + 1) w i = _
    simp only [List.length_cons] at h
    rw [swageref23_Stores.l1, hy, Option.bind_some, if_pos hlt, hat, Option.bind_some]
    simp only [jn, hw, wsucc (show w ≤ 140737488355328 by omega)]
    by_cases h5 : o.f0 = 5
    · rw [if_pos h5]
      have := ih (w + 1) (by omega)
      rw [show swageref23_Stores.l1 t j n ((w + 1 : Nat) : Int) ((i + 1 : Nat) : Int) = _ from this]
      simp [stores, h5]; omega
    · rw [if_neg h5]
      rw [show swageref23_Stores.l1 t j n (w : Int) ((i + 1 : Nat) : Int) = _ from ih w (by omega)]
      simp [stores, h5]) (y.f0.length + 1) (by omega)
  exact this z (by omega)
theorem rstores_f {t : S36} (hf : Fewp t) : swageref23_Stores.f t = some ((storesB t.f1 : Nat) : Int) := by
  obtain ⟨h1, _, h3⟩ := hf
  unfold swageref23_Stores.f
  have := loopd (xs := t.f1) (F := fun n i w => swageref23_Stores.l0 t n w i) (P := fun ys f => ∀ w : Nat, w + 250 * ys.length ≤ 100000 → f (w : Int) = some ((w + storesB ys : Nat) : Int)) (by omega) (fun n w h => by simp [swageref23_Stores.l0, storesB]) (fun n i y r hd hlt hat hm hw ih w h => by
    show swageref23_Stores.l0 t (n + 1) w i = _
    simp only [List.length_cons] at h
    have hs := stores_le y.f0
    have hy := (h3 y hm).1
    rw [swageref23_Stores.l0, if_pos hlt, hat, Option.elim_some, rstores_l1 hat hy w (by omega), Option.bind_some, hw]
    rw [show swageref23_Stores.l0 t n ((w + stores y.f0 : Nat) : Int) ((i + 1 : Nat) : Int) = _ from ih (w + stores y.f0) (by omega)]
    simp [storesB]; omega) (t.f1.length + 1) (by omega)
  have h0 := this 0 (by omega)
  rw [Nat.zero_add] at h0
  have h0' : swageref23_Stores.l0 t (t.f1.length + 1) 0 0 = _ := h0
  rw [h0', Option.bind_some]
theorem spoil_l3 {t : S36} {i k : Int} {y : S28} {o : S30} (hy : at? t.f1 i = some y) (ho : at? y.f0 k = some o) (hl : o.f5.length ≤ 20) {n : Nat} (hn : 1000 < n) : swagelaw23_DeadTells.l3 t i k n 0 = some () := by
  refine loopd (xs := o.f5) (F := fun n j => swagelaw23_DeadTells.l3 t i k n j) (P := fun _ r => r = some ()) (by omega) (fun n => by simp [swagelaw23_DeadTells.l3, hy, ho]) (fun n j z r hd hlt hat hm hw ih => ?_) n (by omega)
  rw [swagelaw23_DeadTells.l3]
  simp only [hy, ho, Option.bind_some, if_pos hlt, hat, hw]; exact ih
theorem spoil_l2 {t : S36} {i : Int} {y : S28} (hy : at? t.f1 i = some y) (hl : y.f0.length ≤ 250) (ha : ∀ o ∈ y.f0, o.f5.length ≤ 20) {n : Nat} (hn : 1000 < n) : swagelaw23_DeadTells.l2 t i n 0 = some () := by
  refine loopd (xs := y.f0) (F := fun n j => swagelaw23_DeadTells.l2 t i n j) (P := fun _ r => r = some ()) (by omega) (fun n => by simp [swagelaw23_DeadTells.l2, hy]) (fun n j z r hd hlt hat hm hw ih => ?_) n (by omega)
  rw [swagelaw23_DeadTells.l2]
  simp only [hy, Option.bind_some, if_pos hlt, hat, hw, spoil_l3 hy hat (ha z hm) (show 1000 < 100000 by omega)]; exact ih
theorem spoil_l0 {t : S36} (h1 : t.f1.length ≤ 40) (h3 : ∀ y ∈ t.f1, y.f0.length ≤ 250 ∧ ∀ o ∈ y.f0, o.f5.length ≤ 20) : swagelaw23_DeadTells.l0 t (t.f1.length + 1) 0 = some () := by
  refine loopd (xs := t.f1) (F := fun n j => swagelaw23_DeadTells.l0 t n j) (P := fun _ r => r = some ()) (by omega) (fun n => by simp [swagelaw23_DeadTells.l0]) (fun n j z r hd hlt hat hm hw ih => ?_) _ (by omega)
  rw [swagelaw23_DeadTells.l0]
  simp only [if_pos hlt, hat, Option.bind_some, hw, spoil_l2 hat (h3 z hm).1 (h3 z hm).2 (show 1000 < 100000 by omega)]; exact ih
theorem small_true : swagelaw23_small.f = some true := by decide +kernel
theorem few_args {a0 : S36} (h : In36 a0) : ∃ b, swagelaw14_Few.f a0 = some b ∧ (b = true → a0.f1.length ≤ 40 ∧ ∀ x ∈ a0.f1, x.f0.length ≤ 250 ∧ Fit x.f0 ∧ ∀ o ∈ x.f0, o.f5.length ≤ 20) := by
  obtain ⟨b, hb, hp⟩ := few_f h
  refine ⟨b, hb, fun ht => ?_⟩
  obtain ⟨p1, p2, p3⟩ := hp ht
  refine ⟨p1, fun x hx => ⟨(p3 x hx).1, (p3 x hx).2, fun o ho => ?_⟩⟩
  have q := few_l0 a0 (fun b hb => (h.2.2 b hb).1.1) a0.f1 0 (a0.f1.length + 1) 0 (by simp) (by omega) (by omega) (by omega)
  have q' : swagelaw14_Few.l0 a0 (a0.f1.length + 1) 0 0 = _ := q
  unfold swagelaw14_Few.f at hb
  rw [q', ht] at hb
  split at hb
  · rename_i hok
    rw [List.take_of_length_le (by omega)] at hok
    have := List.all_eq_true.1 hok x hx
    unfold okArgs at this
    rw [List.take_of_length_le (by have := (p3 x hx).1; omega)] at this
    exact of_decide_eq_true (List.all_eq_true.1 this o ho)
  · simp at hb
theorem deadTells_law (a0 : S36) (h : In36 a0) : swagelaw23_DeadTells.f a0 = some true := by
  unfold swagelaw23_DeadTells.f
  rw [small_true, Option.bind_some]
  obtain ⟨b, b1, b2⟩ := few_args h
  rw [b1, Option.bind_some]
  cases b with
  | false => rw [if_pos (by simp)]
  | true =>
    rw [if_neg (by simp)]
    obtain ⟨p1, p3⟩ := b2 rfl
    have hf : Fewp a0 := ⟨p1, trivial, fun y hy => ⟨(p3 y hy).1, (p3 y hy).2.1.args⟩⟩
    have hx : ∀ y ∈ a0.f1.map kb, y.f0.length ≤ 250 ∧ ∀ o ∈ y.f0, o.f5.length ≤ 20 := fun y hy => by
      obtain ⟨z, hz, rfl⟩ := List.mem_map.1 hy
      have := keep_length z.f0
      exact ⟨by have := (p3 z hz).1; simp only [kb]; omega, fun o ho => (p3 z hz).2.2 o (keep_mem ho)⟩
    have hfx : Fewp (⟨a0.f0, a0.f1.map kb⟩ : S36) := ⟨by simpa using p1, trivial, fun y hy => ⟨(hx y hy).1, fun o ho => by have := (hx y hy).2 o ho; omega⟩⟩
    obtain ⟨r1, e1, e2⟩ := rsame_f (a := (⟨a0.f0, a0.f1.map kb⟩ : S36)) (b := ⟨a0.f0, a0.f1.map kb⟩) hfx
    obtain ⟨r2, d1, d2⟩ := rsame_f (a := a0) (b := a0) hf
    have hst : deadstore_Stores.f a0 = some ((storesB a0.f1 : Nat) : Int) := by
      have hsz : sizeB a0.f1 < 9223372036854775807 := by
        obtain ⟨b', c1, c2⟩ := few_f h
        rw [b1] at c1; obtain rfl := Option.some.inj c1
        have := (c2 rfl).2.1; omega
      exact stores_f hsz (by omega)
    have hl0 : swagelaw23_DeadTells.l0 (⟨a0.f0, a0.f1.map kb⟩ : S36) ((a0.f1.map kb).length + 1) 0 = some () := spoil_l0 (t := ⟨a0.f0, a0.f1.map kb⟩) (by simpa using p1) hx
    have hl1 : swagelaw23_DeadTells.l1 a0 (a0.f1.length + 1) true 0 = some true := by
      refine loopd (xs := a0.f1) (F := fun n i => swagelaw23_DeadTells.l1 a0 n true i) (P := fun _ r => r = some true) (by omega) (fun n => by simp [swagelaw23_DeadTells.l1]) (fun n i y r hd hlt hat hm hw ih => ?_) _ (by omega)
      have hy := p3 y hm
      have hdl : (deadL y.f0).length ≤ 20000000000000 := by
        rw [deadL_idx]
        have key : ∀ (bs : List Bool) (i : Nat), (idx i bs).length ≤ bs.length := by
          intro bs
          induction bs with
          | nil => intro i; simp [idx]
          | cons b bs ih => intro i; cases b <;> simp [idx] <;> have := ih (i + 1) <;> omega
        have k2 : ∀ l : List S30, (dd l).length = l.length := fun l => by induction l with | nil => rfl | cons x r ih => simp [dd, ih]
        have := key (dd y.f0) 0; rw [k2] at this; omega
      rw [swagelaw23_DeadTells.l1]
      have hdf : deadstore_Dead.f y = some (deadL y.f0) := dead_f (l := y.f0) (t := y.f1) hy.2.1
      simp only [if_pos hlt, jn, if_true, hat, Option.bind_some, hdf, rDead_f hy.1, ints_f hdl, decide_true, hw]
      exact ih
    rw [rcopy_f hf, Option.bind_some, func_f p1 (fun y hy => (p3 y hy).2.1), Option.bind_some]
    simp only [jn, rfunc_f hf, Option.bind_some, e1, e2.2 rfl, if_true, hst, rstores_f hf, decide_true, hl0, hl1, d1, d2.2 rfl]
end Go.Proofs.Ytmacdhkfgoahcaa.Sy.Dx
