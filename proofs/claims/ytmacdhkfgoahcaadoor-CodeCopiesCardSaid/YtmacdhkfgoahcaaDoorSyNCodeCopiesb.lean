/- Texts of this work, joined: SyF41, SyF13, CcC, SyF9, SyF37, SyF38, SyF39, SyF10, SyF21, SyF40, SyF11, CcD, SyF57, SyF59, SyF58, SyF60, SyF24. -/
import Derived.Test.YtmacdhkfgoahcaaDoorSyNCodeCopiesa
set_option linter.unusedVariables false
set_option linter.unusedSimpArgs false
set_option maxRecDepth 100000
set_option maxHeartbeats 4000000
namespace Go.Proofs.YtmacdhkfgoahcaaDoor.Sy
open Go Go.RowKit Go.Proofs.YtmacdhkfgoahcaaDoorW.PrintWords 
def code_Same_1.l0 (a0 : S37) (a1 : S37) (j521 : (Bool → Option Bool)) : Nat → Int → Option (Sum Bool (Unit))
 | 0, _ => none
 | n725 + 1, x657 => (if x657 < (a0.f0.length : Int) then (at? a0.f0 x657).bind fun y826 => (at? a1.f0 x657).bind fun y840 => (code_sameOp.f y826 y840).bind fun (y854 : Bool) => (if (!y854) = true then (j521 false).bind fun q_ => some (.inl q_) else code_Same_1.l0 a0 a1 j521 n725 (IntKind.i64.wrap (x657 + 1))) else some (.inr ()))
def code_Same_1.f (a0 : S37) (a1 : S37) : Option Bool := (if ((a0.f1.f0 == a1.f1.f0) && ((a0.f1.f1 == a1.f1.f1) && ((a0.f1.f2 == a1.f1.f2) && (a0.f1.f3 == a1.f1.f3)))) = true then jn (γ := Bool) (fun (x520 : Bool) => some x520) (fun (j521 : (Bool → Option Bool)) => (if (!decide ((a0.f0.length : Int) = (a1.f0.length : Int))) = true then j521 false else (code_Same_1.l0 a0 a1 j521 (a0.f0.length + 1) 0).bind fun | .inl q_ => some q_ | .inr _ => (j521 true))) else some false)
def code_Same_1.post (G : Gd)  (r : Bool) (v : Value) (G' : Gd) (Lr : List Ch) : Prop := G = G' ∧ v = .bool r ∧ Lr = []
theorem code_Same_1.calls {G : Gd} {r : Bool} {a0 : S37} {a1 : S37} {A1 : Option Addr} {c2 : Nat} {A5 : Option Addr} {c6 : Nat} (hr3 : Rd G k40 A1 a0.f0) (hl4 : a0.f0.length ≤ c2) (hr7 : Rd G k40 A5 a1.f0) (hl8 : a1.f0.length ≤ c6) (h : code_Same_1.f a0 a1 = some r) : Fn Tryd.prog 41 G [] [.agg #[.slice A1 a0.f0.length c2, .int .i64 a0.f1.f0, .int .i64 a0.f1.f1, .int .i64 a0.f1.f2, .int .i64 a0.f1.f3], .agg #[.slice A5 a1.f0.length c6, .int .i64 a1.f1.f0, .int .i64 a1.f1.f1, .int .i64 a1.f1.f2, .int .i64 a1.f1.f3]] (code_Same_1.post G  r) := by
 refine Fn.intro (e := [(0, .agg #[.slice A1 a0.f0.length c2, .int .i64 a0.f1.f0, .int .i64 a0.f1.f1, .int .i64 a0.f1.f2, .int .i64 a0.f1.f3]), (1, .agg #[.slice A5 a1.f0.length c6, .int .i64 a1.f1.f0, .int .i64 a1.f1.f1, .int .i64 a1.f1.f2, .int .i64 a1.f1.f3])]) 17 Tryd.func41 rfl Tryd.ntmps41 rfl rfl (Nat.le_of_ble_eq_true rfl) (fun L => ?_)
 unfold code_Same_1.f at h
 refine TC.seq ?_
 refine TC.region ?_
 refine TL.cons (TL.box (cs := [.slice A1 a0.f0.length c2, .int .i64 a0.f1.f0, .int .i64 a0.f1.f1, .int .i64 a0.f1.f2, .int .i64 a0.f1.f3]) rfl rfl rfl rfl (fun b9 => ?_))
 refine TL.cons (TL.box (cs := [.slice A5 a1.f0.length c6, .int .i64 a1.f1.f0, .int .i64 a1.f1.f1, .int .i64 a1.f1.f2, .int .i64 a1.f1.f3]) rfl rfl rfl rfl (fun b10 => ?_))
 refine TL.cons (TO.val rfl rfl rfl (Val.assign rfl) ?_)
 refine TL.nil ?_
 refine TQ.then_ ?_
 refine TC.seq ?_
 refine TC.region ?_
 refine TL.cons (TO.val rfl rfl rfl (Val.fieldAddrB Tryd.underlying37 rfl fsz35 rfl rfl rfl) ?_)
 refine TL.cons (TO.val rfl rfl rfl (Val.loadsB 1 (cs := [.int .i64 a0.f1.f0, .int .i64 a0.f1.f1, .int .i64 a0.f1.f2, .int .i64 a0.f1.f3]) agg35 fsz35 rfl rfl rfl rfl) ?_)
 refine TL.cons (TO.val rfl rfl rfl (Val.fieldAddrB Tryd.underlying37 rfl fsz35 rfl rfl rfl) ?_)
 refine TL.cons (TO.val rfl rfl rfl (Val.loadsB 0 (cs := [.int .i64 a1.f1.f0, .int .i64 a1.f1.f1, .int .i64 a1.f1.f2, .int .i64 a1.f1.f3]) agg35 fsz35 rfl rfl rfl rfl) ?_)
 refine TL.cons (TO.val rfl rfl rfl (Val.eqA eqg35 rfl rfl (fun W => eqs35 9998 W _ _ _ _ _ _ _ _)) ?_)
 refine TL.cons (TO.val rfl rfl rfl (Val.move rfl) ?_)
 refine TK.split (p := ((a0.f1.f0 == a1.f1.f0) && ((a0.f1.f1 == a1.f1.f1) && ((a0.f1.f2 == a1.f1.f2) && (a0.f1.f3 == a1.f1.f3)))) = true) h (fun hg317 h => ?_) (fun hg317 h => ?_)
 ·
  have hk318 : ((a0.f1.f0 == a1.f1.f0) && ((a0.f1.f1 == a1.f1.f1) && ((a0.f1.f2 == a1.f1.f2) && (a0.f1.f3 == a1.f1.f3)))) = true := hg317
  refine TL.cons (TO.val (Wt.yes rfl rfl rfl hk318) rfl rfl (Val.fieldAddrB Tryd.underlying37 rfl fsz33 rfl rfl rfl) ?_)
  refine TL.cons (TO.val (Wt.yes rfl rfl rfl hk318) rfl rfl (Val.loadB 1 agg33 rfl rfl rfl) ?_)
  refine TL.cons (TO.val (Wt.yes rfl rfl rfl hk318) rfl rfl (Val.fieldAddrB Tryd.underlying37 rfl fsz33 rfl rfl rfl) ?_)
  refine TL.cons (TO.val (Wt.yes rfl rfl rfl hk318) rfl rfl (Val.loadB 0 agg33 rfl rfl rfl) ?_)
  refine TL.cons (TO.inl (args := [.slice A1 a0.f0.length c2, .slice A5 a1.f0.length c6, .func (.func 43) #[] #[]]) (e' := [(0, .slice A1 a0.f0.length c2), (1, .slice A5 a1.f0.length c6), (2, .func (.func 43) #[] #[])]) 32 (Wt.yes rfl rfl rfl hk318) rfl hbd42 rfl rfl Tryd.func42 rfl Tryd.ntmps42 rfl rfl (Nat.le_of_ble_eq_true rfl) (fun a319 hf320 => ?_))
  obtain ⟨j521, hj521, h⟩ := jn_no h
  refine TC.after (fun en W => ∃ (x520 : Bool), j521 x520 = some r ∧ en = .returned (.bool x520) ∧ Own G (Blk b10 [.slice A5 a1.f0.length c6, .int .i64 a1.f1.f0, .int .i64 a1.f1.f1, .int .i64 a1.f1.f2, .int .i64 a1.f1.f3] 37 :: Blk b9 [.slice A1 a0.f0.length c2, .int .i64 a0.f1.f0, .int .i64 a0.f1.f1, .int .i64 a0.f1.f2, .int .i64 a0.f1.f3] 37 :: L) W) ?_ ?_
  ·
   rintro en W ⟨x520, h, rfl, hO⟩
   rw [hj521] at h
   refine (After.mk hf320 rfl ?_) W hO
   clear hO
   refine TL.cons (TO.val rfl rfl rfl (Val.pickY rfl hk318 rfl) ?_)
   refine TL.cons (TO.val rfl rfl rfl (Val.assign rfl) ?_)
   refine TL.nil ?_
   refine TQ.then_ ?_
   refine TC.ret ?_
   obtain rfl := Option.some.inj h
   exact TQ.fin (.inl rfl) rfl Tryd.results41 (.tmp rfl .nil) rfl (FRel.mk (Ls := []) [] 2 (Gd.le.refl _) rfl rfl rfl ⟨rfl, rfl, rfl⟩)
  ·
   refine TC.seq ?_
   refine TC.region ?_
   refine TL.cons (TO.val rfl rfl rfl (Val.assign rfl) ?_)
   refine TL.nil ?_
   refine TQ.then_ ?_
   refine TC.seq ?_
   refine TC.seq ?_
   refine TC.region ?_
   refine TL.cons (TO.val rfl rfl rfl (Val.move rfl) ?_)
   refine TL.cons (TO.val rfl rfl rfl (Val.len Tryd.underlying33 rfl) ?_)
   refine TL.cons (TO.val rfl rfl rfl (Val.move rfl) ?_)
   refine TL.cons (TO.val rfl rfl rfl (Val.len Tryd.underlying33 rfl) ?_)
   refine TL.cons (TO.val rfl rfl rfl (Val.cmp rfl rfl run_neq) ?_)
   refine TL.nil ?_
   refine TQ.then_ ?_
   refine TC.cond_b rfl h (fun hc523 h => ?_) (fun hc523 h => ?_)
   ·
    refine TC.seq ?_
    refine TC.region ?_
    refine TL.cons (TO.val rfl rfl rfl (Val.assign rfl) ?_)
    refine TL.nil ?_
    refine TQ.then_ ?_
    refine TC.ret ?_
    refine TQ.thenR ?_
    exact TQ.fin (v := .bool false) (.inl rfl) rfl Tryd.results42 (.tmp rfl .nil) rfl (fun W hO => ⟨false, h, rfl, hO.selT (Ls := [Blk b10 [.slice A5 a1.f0.length c6, .int .i64 a1.f1.f0, .int .i64 a1.f1.f1, .int .i64 a1.f1.f2, .int .i64 a1.f1.f3] 37, Blk b9 [.slice A1 a0.f0.length c2, .int .i64 a0.f1.f0, .int .i64 a0.f1.f1, .int .i64 a0.f1.f2, .int .i64 a0.f1.f3] 37]) [0, 1] 2 rfl rfl rfl⟩)
   ·
    refine TC.skip ?_
    refine TQ.then_ ?_
    refine TC.seq ?_
    refine TC.seq ?_
    refine TC.region ?_
    refine TL.cons (TO.val rfl rfl rfl (Val.move rfl) ?_)
    refine TL.cons (TO.val rfl rfl rfl (Val.len Tryd.underlying33 rfl) ?_)
    refine TL.cons (TO.val rfl rfl rfl (Val.move rfl) ?_)
    refine TL.nil ?_
    refine TQ.then_ ?_
    obtain ⟨o724, ho724, ko724⟩ := bind_no h
    clear h
    refine TC.tail (fun a W => (.inr ()) = o724 ∧ Fr 32 a [] ∧ Own G (Blk b10 [.slice A5 a1.f0.length c6, .int .i64 a1.f1.f0, .int .i64 a1.f1.f1, .int .i64 a1.f1.f2, .int .i64 a1.f1.f3] 37 :: Blk b9 [.slice A1 a0.f0.length c2, .int .i64 a0.f1.f0, .int .i64 a0.f1.f1, .int .i64 a0.f1.f2, .int .i64 a0.f1.f3] 37 :: L) W) ?_ ?_
    ·
     rintro a W ⟨rfl, hF, hO⟩
     have h := ko724
     clear ko724 ho724
     refine TQ.use ?_ hF hO
     clear hF hO
     refine TQ.then_ ?_
     refine TC.seq ?_
     refine TC.region ?_
     refine TL.cons (TO.val rfl rfl rfl (Val.assign rfl) ?_)
     refine TL.nil ?_
     refine TQ.then_ ?_
     refine TC.ret ?_
     exact TQ.fin (v := .bool true) (.inl rfl) rfl Tryd.results42 (.tmp rfl .nil) rfl (fun W hO => ⟨true, h, rfl, hO.selT (Ls := [Blk b10 [.slice A5 a1.f0.length c6, .int .i64 a1.f1.f0, .int .i64 a1.f1.f1, .int .i64 a1.f1.f2, .int .i64 a1.f1.f3] 37, Blk b9 [.slice A1 a0.f0.length c2, .int .i64 a0.f1.f0, .int .i64 a0.f1.f1, .int .i64 a0.f1.f2, .int .i64 a0.f1.f3] 37]) [0, 1] 2 rfl rfl rfl⟩)
    ·
     refine TC.block ?_
     intro a W hF hO
     have hS : ∃ (x657 : Int), code_Same_1.l0 a0 a1 j521 (a0.f0.length + 1) x657 = some o724 ∧ Fr 32 a [(1, .slice A5 a1.f0.length c6), (2, .func (.func 43) #[] #[]), (15, .slice A1 a0.f0.length c2), (16, .int .i64 (a0.f0.length : Int)), (17, .int .i64 x657)] ∧ Own G (Blk b10 [.slice A5 a1.f0.length c6, .int .i64 a1.f1.f0, .int .i64 a1.f1.f1, .int .i64 a1.f1.f2, .int .i64 a1.f1.f3] 37 :: Blk b9 [.slice A1 a0.f0.length c2, .int .i64 a0.f1.f0, .int .i64 a0.f1.f1, .int .i64 a0.f1.f2, .int .i64 a0.f1.f3] 37 :: L) W := by
      exact ⟨0, ho724, hF.sub ⟨rfl, rfl, rfl, rfl, rfl, trivial⟩, hO.selT (Ls := [Blk b10 [.slice A5 a1.f0.length c6, .int .i64 a1.f1.f0, .int .i64 a1.f1.f1, .int .i64 a1.f1.f2, .int .i64 a1.f1.f3] 37, Blk b9 [.slice A1 a0.f0.length c2, .int .i64 a0.f1.f0, .int .i64 a0.f1.f1, .int .i64 a0.f1.f2, .int .i64 a0.f1.f3] 37]) [0, 1] 2 rfl rfl rfl⟩
     clear hF hO ho724
     refine TC.loop (fun n725 a W => ∃ (x657 : Int), code_Same_1.l0 a0 a1 j521 n725 x657 = some o724 ∧ Fr 32 a [(1, .slice A5 a1.f0.length c6), (2, .func (.func 43) #[] #[]), (15, .slice A1 a0.f0.length c2), (16, .int .i64 (a0.f0.length : Int)), (17, .int .i64 x657)] ∧ Own G (Blk b10 [.slice A5 a1.f0.length c6, .int .i64 a1.f1.f0, .int .i64 a1.f1.f1, .int .i64 a1.f1.f2, .int .i64 a1.f1.f3] 37 :: Blk b9 [.slice A1 a0.f0.length c2, .int .i64 a0.f1.f0, .int .i64 a0.f1.f1, .int .i64 a0.f1.f2, .int .i64 a0.f1.f3] 37 :: L) W) ?_ ?_ hS
     ·
      rintro a W ⟨x657, h, hF, hO⟩
      exact none_no h
     ·
      clear hS
      rintro n725 a W ⟨x657, h, hF, hO⟩
      rw [code_Same_1.l0] at h
      refine TC.use ?_ hF hO
      clear hF hO
      refine TC.seq ?_
      refine TC.region ?_
      refine TL.cons (TO.val rfl rfl rfl (Val.cmp rfl rfl run_lss) ?_)
      refine TL.nil ?_
      refine TQ.then_ ?_
      refine TC.seq ?_
      refine TC.cond_p rfl h (fun hc793 h => ?_) (fun hc793 h => ?_)
      ·
       refine TC.skip ?_
       refine TQ.then_ ?_
       refine TC.seq ?_
       refine TC.block ?_
       refine TC.seq ?_
       refine TC.region ?_
       refine TL.cons (TO.val rfl rfl rfl (Val.move rfl) ?_)
       obtain ⟨y826, hx827, h⟩ := bind_no h
       obtain ⟨ad828, cs834, hA829, hi830, hj831, hcl832, hK833⟩ := Rd.at hr3 hx827
       obtain ⟨A835, c836, rfl, hr837, hl838⟩ := k40_openR hK833
       refine TL.cons (TO.val rfl rfl rfl (Val.indexAddr Tryd.underlying33 fsz40 rfl hA829 rfl hi830 hj831) ?_)
       refine TL.cons (TO.val rfl rfl rfl (Val.loadsS (cs := [.int .i64 y826.f0, .int .i64 y826.f1, .int .i64 y826.f2, .int .i64 y826.f3, .int .i64 y826.f4, .slice A835 y826.f5.length c836]) agg40 fsz40 rfl rfl (Cl.sub (off := 0) (n := 6) hcl832 rfl)) ?_)
       refine TL.cons (TL.alloc (cs := [.int .i64 0, .int .i64 0, .int .i64 0, .int .i64 0, .int .i64 0, .slice none 0 0]) rfl rfl zr40 rfl (fun b839 => ?_))
       refine TL.cons (TO.val rfl rfl rfl (Val.assign rfl) ?_)
       refine TL.cons (TL.store 0 (ds := [.int .i64 y826.f0, .int .i64 y826.f1, .int .i64 y826.f2, .int .i64 y826.f3, .int .i64 y826.f4, .slice A835 y826.f5.length c836]) (cs' := [.int .i64 y826.f0, .int .i64 y826.f1, .int .i64 y826.f2, .int .i64 y826.f3, .int .i64 y826.f4, .slice A835 y826.f5.length c836]) (L' := (Blk b839 [.int .i64 y826.f0, .int .i64 y826.f1, .int .i64 y826.f2, .int .i64 y826.f3, .int .i64 y826.f4, .slice A835 y826.f5.length c836] 40 :: Blk b10 [.slice A5 a1.f0.length c6, .int .i64 a1.f1.f0, .int .i64 a1.f1.f1, .int .i64 a1.f1.f2, .int .i64 a1.f1.f3] 37 :: Blk b9 [.slice A1 a0.f0.length c2, .int .i64 a0.f1.f0, .int .i64 a0.f1.f1, .int .i64 a0.f1.f2, .int .i64 a0.f1.f3] 37 :: L)) rfl fsz40 rfl rfl rfl rfl rfl (Nat.le_of_ble_eq_true rfl) rfl rfl ?_)
       refine TL.nil ?_
       refine TQ.then_ ?_
       refine TC.seq ?_
       refine TC.region ?_
       refine TL.cons (TO.val rfl rfl rfl (Val.move rfl) ?_)
       refine TL.cons (TO.val rfl rfl rfl (Val.move rfl) ?_)
       obtain ⟨y840, hx841, h⟩ := bind_no h
       obtain ⟨ad842, cs848, hA843, hi844, hj845, hcl846, hK847⟩ := Rd.at hr7 hx841
       obtain ⟨A849, c850, rfl, hr851, hl852⟩ := k40_openR hK847
       refine TL.cons (TO.val rfl rfl rfl (Val.indexAddr Tryd.underlying33 fsz40 rfl hA843 rfl hi844 hj845) ?_)
       refine TL.cons (TO.val rfl rfl rfl (Val.loadsS (cs := [.int .i64 y840.f0, .int .i64 y840.f1, .int .i64 y840.f2, .int .i64 y840.f3, .int .i64 y840.f4, .slice A849 y840.f5.length c850]) agg40 fsz40 rfl rfl (Cl.sub (off := 0) (n := 6) hcl846 rfl)) ?_)
       refine TL.cons (TL.alloc (cs := [.int .i64 0, .int .i64 0, .int .i64 0, .int .i64 0, .int .i64 0, .slice none 0 0]) rfl rfl zr40 rfl (fun b853 => ?_))
       refine TL.cons (TL.store 0 (ds := [.int .i64 y840.f0, .int .i64 y840.f1, .int .i64 y840.f2, .int .i64 y840.f3, .int .i64 y840.f4, .slice A849 y840.f5.length c850]) (cs' := [.int .i64 y840.f0, .int .i64 y840.f1, .int .i64 y840.f2, .int .i64 y840.f3, .int .i64 y840.f4, .slice A849 y840.f5.length c850]) (L' := (Blk b853 [.int .i64 y840.f0, .int .i64 y840.f1, .int .i64 y840.f2, .int .i64 y840.f3, .int .i64 y840.f4, .slice A849 y840.f5.length c850] 40 :: Blk b839 [.int .i64 y826.f0, .int .i64 y826.f1, .int .i64 y826.f2, .int .i64 y826.f3, .int .i64 y826.f4, .slice A835 y826.f5.length c836] 40 :: Blk b10 [.slice A5 a1.f0.length c6, .int .i64 a1.f1.f0, .int .i64 a1.f1.f1, .int .i64 a1.f1.f2, .int .i64 a1.f1.f3] 37 :: Blk b9 [.slice A1 a0.f0.length c2, .int .i64 a0.f1.f0, .int .i64 a0.f1.f1, .int .i64 a0.f1.f2, .int .i64 a0.f1.f3] 37 :: L)) rfl fsz40 rfl rfl rfl rfl rfl (Nat.le_of_ble_eq_true rfl) rfl rfl ?_)
       refine TL.nil ?_
       refine TQ.then_ ?_
       refine TC.seq ?_
       refine TC.region ?_
       refine TL.cons (TO.val rfl rfl rfl (Val.move rfl) ?_)
       refine TL.cons (TO.val rfl rfl rfl (Val.loadsB 1 (cs := [.int .i64 y826.f0, .int .i64 y826.f1, .int .i64 y826.f2, .int .i64 y826.f3, .int .i64 y826.f4, .slice A835 y826.f5.length c836]) agg40 fsz40 rfl rfl rfl rfl) ?_)
       refine TL.cons (TO.val rfl rfl rfl (Val.loadsB 0 (cs := [.int .i64 y840.f0, .int .i64 y840.f1, .int .i64 y840.f2, .int .i64 y840.f3, .int .i64 y840.f4, .slice A849 y840.f5.length c850]) agg40 fsz40 rfl rfl rfl rfl) ?_)
       obtain ⟨y854, hy855, h⟩ := bind_no h
       refine TL.cons (TL.callV (Lin := []) (args := [.agg #[.int .i64 y826.f0, .int .i64 y826.f1, .int .i64 y826.f2, .int .i64 y826.f3, .int .i64 y826.f4, .slice A835 y826.f5.length c836], .agg #[.int .i64 y840.f0, .int .i64 y840.f1, .int .i64 y840.f2, .int .i64 y840.f3, .int .i64 y840.f4, .slice A849 y840.f5.length c850]]) rfl rfl rfl hbd43 rfl rfl (code_sameOp.calls (a0 := y826) (a1 := y840) hr837 hl838 hr851 hl852 hy855) rfl ?_)
       rintro _ _ _ _ ⟨rfl, rfl, rfl⟩
       refine TL.cons (TO.val rfl rfl rfl (Val.not_ rfl) ?_)
       refine TL.nil ?_
       refine TQ.then_ ?_
       refine TC.cond_b rfl h (fun hc857 h => ?_) (fun hc857 h => ?_)
       ·
        refine TC.seq ?_
        refine TC.region ?_
        refine TL.cons (TO.val rfl rfl rfl (Val.assign rfl) ?_)
        refine TL.nil ?_
        refine TQ.then_ ?_
        refine TC.ret ?_
        refine TQ.inBR ?_
        refine TQ.thenR ?_
        refine TQ.thenR ?_
        refine TQ.inBR ?_
        refine TQ.thenR ?_
        refine TQ.thenR ?_
        obtain ⟨q_, hq_, h⟩ := bind_no h
        obtain rfl := Option.some.inj h
        have h := ko724
        obtain rfl := Option.some.inj h
        have h := hq_
        clear hq_
        exact TQ.fin (v := .bool false) (.inl rfl) rfl Tryd.results42 (.tmp rfl .nil) rfl (fun W hO => ⟨false, h, rfl, hO.selT (Ls := [Blk b10 [.slice A5 a1.f0.length c6, .int .i64 a1.f1.f0, .int .i64 a1.f1.f1, .int .i64 a1.f1.f2, .int .i64 a1.f1.f3] 37, Blk b9 [.slice A1 a0.f0.length c2, .int .i64 a0.f1.f0, .int .i64 a0.f1.f1, .int .i64 a0.f1.f2, .int .i64 a0.f1.f3] 37]) [2, 3] 4 rfl rfl rfl⟩)
       ·
        refine TC.skip ?_
        refine TQ.inB ?_
        refine TQ.then_ ?_
        refine TC.region ?_
        refine TL.cons (TO.val rfl rfl rfl (Val.cmp rfl rfl run_add) ?_)
        refine TL.cons (TO.val rfl rfl rfl (Val.move rfl) ?_)
        refine TL.nil ?_
        exact fun a W hF hO => ⟨IntKind.i64.wrap (x657 + 1), h, hF.sub ⟨rfl, rfl, rfl, rfl, rfl, trivial⟩, hO.selT (Ls := [Blk b10 [.slice A5 a1.f0.length c6, .int .i64 a1.f1.f0, .int .i64 a1.f1.f1, .int .i64 a1.f1.f2, .int .i64 a1.f1.f3] 37, Blk b9 [.slice A1 a0.f0.length c2, .int .i64 a0.f1.f0, .int .i64 a0.f1.f1, .int .i64 a0.f1.f2, .int .i64 a0.f1.f3] 37]) [2, 3] 4 rfl rfl rfl⟩
      ·
       refine TC.exit ?_
       refine TQ.thenX ?_
       refine TQ.thenX ?_
       refine TQ.inBX ?_
       exact fun a W hF hO => ⟨Option.some.inj h, hF.sub trivial, hO.selT (Ls := [Blk b10 [.slice A5 a1.f0.length c6, .int .i64 a1.f1.f0, .int .i64 a1.f1.f1, .int .i64 a1.f1.f2, .int .i64 a1.f1.f3] 37, Blk b9 [.slice A1 a0.f0.length c2, .int .i64 a0.f1.f0, .int .i64 a0.f1.f1, .int .i64 a0.f1.f2, .int .i64 a0.f1.f3] 37]) [0, 1] 2 rfl rfl rfl⟩
 ·
  have hk858 : ((a0.f1.f0 == a1.f1.f0) && ((a0.f1.f1 == a1.f1.f1) && ((a0.f1.f2 == a1.f1.f2) && (a0.f1.f3 == a1.f1.f3)))) = false := (by simpa using hg317)
  refine TL.cons (TL.not (Wt.no rfl rfl rfl hk858) rfl ?_)
  refine TL.cons (TL.not (Wt.no rfl rfl rfl hk858) rfl ?_)
  refine TL.cons (TL.not (Wt.no rfl rfl rfl hk858) rfl ?_)
  refine TL.cons (TL.not (Wt.no rfl rfl rfl hk858) rfl ?_)
  refine TL.cons (TL.not (Wt.no rfl rfl rfl hk858) rfl ?_)
  refine TL.cons (TO.val rfl rfl rfl (Val.pickN rfl hk858 rfl) ?_)
  refine TL.cons (TO.val rfl rfl rfl (Val.assign rfl) ?_)
  refine TL.nil ?_
  refine TQ.then_ ?_
  refine TC.ret ?_
  obtain rfl := Option.some.inj h
  exact TQ.fin (.inl rfl) rfl Tryd.results41 (.tmp rfl .nil) rfl (FRel.mk (Ls := []) [] 2 (Gd.le.refl _) rfl rfl rfl ⟨rfl, rfl, rfl⟩)
end Go.Proofs.YtmacdhkfgoahcaaDoor.Sy
set_option linter.unusedVariables false
set_option linter.unusedSimpArgs false
set_option maxRecDepth 100000
set_option maxHeartbeats 4000000
namespace Go.Proofs.YtmacdhkfgoahcaaDoor.Sy
open Go Go.RowKit Go.Proofs.YtmacdhkfgoahcaaDoorW.PrintWords 
def code_Same.l0 (a0 : S27) (a1 : S27) (j521 : (Bool → Option Bool)) : Nat → Int → Option (Sum Bool (Unit))
 | 0, _ => none
 | n725 + 1, x657 => (if x657 < (a0.f1.length : Int) then (at? a0.f1 x657).bind fun y826 => (at? a1.f1 x657).bind fun y840 => (code_Same_1.f y826 y840).bind fun (y854 : Bool) => (if (!y854) = true then (j521 false).bind fun q_ => some (.inl q_) else code_Same.l0 a0 a1 j521 n725 (IntKind.i64.wrap (x657 + 1))) else some (.inr ()))
def code_Same.f (a0 : S27) (a1 : S27) : Option Bool := (if a0.f0 = a1.f0 then jn (γ := Bool) (fun (x520 : Bool) => some x520) (fun (j521 : (Bool → Option Bool)) => (if (!decide ((a0.f1.length : Int) = (a1.f1.length : Int))) = true then j521 false else (code_Same.l0 a0 a1 j521 (a0.f1.length + 1) 0).bind fun | .inl q_ => some q_ | .inr _ => (j521 true))) else some false)
def code_Same.post (G : Gd)  (r : Bool) (v : Value) (G' : Gd) (Lr : List Ch) : Prop := G = G' ∧ v = .bool r ∧ Lr = []
theorem code_Same.calls {G : Gd} {r : Bool} {a0 : S27} {a1 : S27} {A1 : Option Addr} {c2 : Nat} {A5 : Option Addr} {c6 : Nat} (hr3 : Rd G k37 A1 a0.f1) (hl4 : a0.f1.length ≤ c2) (hr7 : Rd G k37 A5 a1.f1) (hl8 : a1.f1.length ≤ c6) (h : code_Same.f a0 a1 = some r) : Fn Tryd.prog 13 G [] [.agg #[.int .i64 a0.f0, .slice A1 a0.f1.length c2], .agg #[.int .i64 a1.f0, .slice A5 a1.f1.length c6]] (code_Same.post G  r) := by
 refine Fn.intro (e := [(0, .agg #[.int .i64 a0.f0, .slice A1 a0.f1.length c2]), (1, .agg #[.int .i64 a1.f0, .slice A5 a1.f1.length c6])]) 19 Tryd.func13 rfl Tryd.ntmps13 rfl rfl (Nat.le_of_ble_eq_true rfl) (fun L => ?_)
 unfold code_Same.f at h
 refine TC.seq ?_
 refine TC.region ?_
 refine TL.cons (TL.box (cs := [.int .i64 a0.f0, .slice A1 a0.f1.length c2]) rfl rfl rfl rfl (fun b9 => ?_))
 refine TL.cons (TL.box (cs := [.int .i64 a1.f0, .slice A5 a1.f1.length c6]) rfl rfl rfl rfl (fun b10 => ?_))
 refine TL.cons (TO.val rfl rfl rfl (Val.assign rfl) ?_)
 refine TL.nil ?_
 refine TQ.then_ ?_
 refine TC.seq ?_
 refine TC.region ?_
 refine TL.cons (TO.val rfl rfl rfl (Val.assign rfl) ?_)
 refine TL.nil ?_
 refine TQ.then_ ?_
 refine TC.seq ?_
 refine TC.region ?_
 refine TL.cons (TO.val rfl rfl rfl (Val.fieldAddrB Tryd.underlying27 rfl fsz3 rfl rfl rfl) ?_)
 refine TL.cons (TO.val rfl rfl rfl (Val.loadB 1 agg3 rfl rfl rfl) ?_)
 refine TL.cons (TO.val rfl rfl rfl (Val.fieldAddrB Tryd.underlying27 rfl fsz3 rfl rfl rfl) ?_)
 refine TL.cons (TO.val rfl rfl rfl (Val.loadB 0 agg3 rfl rfl rfl) ?_)
 refine TL.cons (TO.val rfl rfl rfl (Val.cmp rfl rfl run_eql) ?_)
 refine TL.cons (TO.val rfl rfl rfl (Val.move rfl) ?_)
 refine TK.split (p := a0.f0 = a1.f0) h (fun hg317 h => ?_) (fun hg317 h => ?_)
 ·
  have hk318 : decide (a0.f0 = a1.f0) = true := decide_eq_true hg317
  refine TL.cons (TO.val (Wt.yes rfl rfl rfl hk318) rfl rfl (Val.fieldAddrB Tryd.underlying27 rfl fsz25 rfl rfl rfl) ?_)
  refine TL.cons (TO.val (Wt.yes rfl rfl rfl hk318) rfl rfl (Val.loadB 1 agg25 rfl rfl rfl) ?_)
  refine TL.cons (TO.val (Wt.yes rfl rfl rfl hk318) rfl rfl (Val.fieldAddrB Tryd.underlying27 rfl fsz25 rfl rfl rfl) ?_)
  refine TL.cons (TO.val (Wt.yes rfl rfl rfl hk318) rfl rfl (Val.loadB 0 agg25 rfl rfl rfl) ?_)
  refine TL.cons (TO.val (Wt.yes rfl rfl rfl hk318) rfl rfl (Val.move rfl) ?_)
  refine TL.cons (TO.inl (args := [.slice A1 a0.f1.length c2, .slice A5 a1.f1.length c6, .func (.func 41) #[] #[]]) (e' := [(0, .slice A1 a0.f1.length c2), (1, .slice A5 a1.f1.length c6), (2, .func (.func 41) #[] #[])]) 32 (Wt.yes rfl rfl rfl hk318) rfl hbd44 rfl rfl Tryd.func44 rfl Tryd.ntmps44 rfl rfl (Nat.le_of_ble_eq_true rfl) (fun a319 hf320 => ?_))
  obtain ⟨j521, hj521, h⟩ := jn_no h
  refine TC.after (fun en W => ∃ (x520 : Bool), j521 x520 = some r ∧ en = .returned (.bool x520) ∧ Own G (Blk b10 [.int .i64 a1.f0, .slice A5 a1.f1.length c6] 27 :: Blk b9 [.int .i64 a0.f0, .slice A1 a0.f1.length c2] 27 :: L) W) ?_ ?_
  ·
   rintro en W ⟨x520, h, rfl, hO⟩
   rw [hj521] at h
   refine (After.mk hf320 rfl ?_) W hO
   clear hO
   refine TL.cons (TO.val rfl rfl rfl (Val.pickY rfl hk318 rfl) ?_)
   refine TL.cons (TO.val rfl rfl rfl (Val.assign rfl) ?_)
   refine TL.nil ?_
   refine TQ.then_ ?_
   refine TC.ret ?_
   obtain rfl := Option.some.inj h
   exact TQ.fin (.inl rfl) rfl Tryd.results13 (.tmp rfl .nil) rfl (FRel.mk (Ls := []) [] 2 (Gd.le.refl _) rfl rfl rfl ⟨rfl, rfl, rfl⟩)
  ·
   refine TC.seq ?_
   refine TC.region ?_
   refine TL.cons (TO.val rfl rfl rfl (Val.assign rfl) ?_)
   refine TL.nil ?_
   refine TQ.then_ ?_
   refine TC.seq ?_
   refine TC.seq ?_
   refine TC.region ?_
   refine TL.cons (TO.val rfl rfl rfl (Val.move rfl) ?_)
   refine TL.cons (TO.val rfl rfl rfl (Val.len Tryd.underlying25 rfl) ?_)
   refine TL.cons (TO.val rfl rfl rfl (Val.move rfl) ?_)
   refine TL.cons (TO.val rfl rfl rfl (Val.len Tryd.underlying25 rfl) ?_)
   refine TL.cons (TO.val rfl rfl rfl (Val.cmp rfl rfl run_neq) ?_)
   refine TL.nil ?_
   refine TQ.then_ ?_
   refine TC.cond_b rfl h (fun hc523 h => ?_) (fun hc523 h => ?_)
   ·
    refine TC.seq ?_
    refine TC.region ?_
    refine TL.cons (TO.val rfl rfl rfl (Val.assign rfl) ?_)
    refine TL.nil ?_
    refine TQ.then_ ?_
    refine TC.ret ?_
    refine TQ.thenR ?_
    exact TQ.fin (v := .bool false) (.inl rfl) rfl Tryd.results44 (.tmp rfl .nil) rfl (fun W hO => ⟨false, h, rfl, hO.selT (Ls := [Blk b10 [.int .i64 a1.f0, .slice A5 a1.f1.length c6] 27, Blk b9 [.int .i64 a0.f0, .slice A1 a0.f1.length c2] 27]) [0, 1] 2 rfl rfl rfl⟩)
   ·
    refine TC.skip ?_
    refine TQ.then_ ?_
    refine TC.seq ?_
    refine TC.seq ?_
    refine TC.region ?_
    refine TL.cons (TO.val rfl rfl rfl (Val.move rfl) ?_)
    refine TL.cons (TO.val rfl rfl rfl (Val.len Tryd.underlying25 rfl) ?_)
    refine TL.cons (TO.val rfl rfl rfl (Val.move rfl) ?_)
    refine TL.nil ?_
    refine TQ.then_ ?_
    obtain ⟨o724, ho724, ko724⟩ := bind_no h
    clear h
    refine TC.tail (fun a W => (.inr ()) = o724 ∧ Fr 32 a [] ∧ Own G (Blk b10 [.int .i64 a1.f0, .slice A5 a1.f1.length c6] 27 :: Blk b9 [.int .i64 a0.f0, .slice A1 a0.f1.length c2] 27 :: L) W) ?_ ?_
    ·
     rintro a W ⟨rfl, hF, hO⟩
     have h := ko724
     clear ko724 ho724
     refine TQ.use ?_ hF hO
     clear hF hO
     refine TQ.then_ ?_
     refine TC.seq ?_
     refine TC.region ?_
     refine TL.cons (TO.val rfl rfl rfl (Val.assign rfl) ?_)
     refine TL.nil ?_
     refine TQ.then_ ?_
     refine TC.ret ?_
     exact TQ.fin (v := .bool true) (.inl rfl) rfl Tryd.results44 (.tmp rfl .nil) rfl (fun W hO => ⟨true, h, rfl, hO.selT (Ls := [Blk b10 [.int .i64 a1.f0, .slice A5 a1.f1.length c6] 27, Blk b9 [.int .i64 a0.f0, .slice A1 a0.f1.length c2] 27]) [0, 1] 2 rfl rfl rfl⟩)
    ·
     refine TC.block ?_
     intro a W hF hO
     have hS : ∃ (x657 : Int), code_Same.l0 a0 a1 j521 (a0.f1.length + 1) x657 = some o724 ∧ Fr 32 a [(1, .slice A5 a1.f1.length c6), (2, .func (.func 41) #[] #[]), (15, .slice A1 a0.f1.length c2), (16, .int .i64 (a0.f1.length : Int)), (17, .int .i64 x657)] ∧ Own G (Blk b10 [.int .i64 a1.f0, .slice A5 a1.f1.length c6] 27 :: Blk b9 [.int .i64 a0.f0, .slice A1 a0.f1.length c2] 27 :: L) W := by
      exact ⟨0, ho724, hF.sub ⟨rfl, rfl, rfl, rfl, rfl, trivial⟩, hO.selT (Ls := [Blk b10 [.int .i64 a1.f0, .slice A5 a1.f1.length c6] 27, Blk b9 [.int .i64 a0.f0, .slice A1 a0.f1.length c2] 27]) [0, 1] 2 rfl rfl rfl⟩
     clear hF hO ho724
     refine TC.loop (fun n725 a W => ∃ (x657 : Int), code_Same.l0 a0 a1 j521 n725 x657 = some o724 ∧ Fr 32 a [(1, .slice A5 a1.f1.length c6), (2, .func (.func 41) #[] #[]), (15, .slice A1 a0.f1.length c2), (16, .int .i64 (a0.f1.length : Int)), (17, .int .i64 x657)] ∧ Own G (Blk b10 [.int .i64 a1.f0, .slice A5 a1.f1.length c6] 27 :: Blk b9 [.int .i64 a0.f0, .slice A1 a0.f1.length c2] 27 :: L) W) ?_ ?_ hS
     ·
      rintro a W ⟨x657, h, hF, hO⟩
      exact none_no h
     ·
      clear hS
      rintro n725 a W ⟨x657, h, hF, hO⟩
      rw [code_Same.l0] at h
      refine TC.use ?_ hF hO
      clear hF hO
      refine TC.seq ?_
      refine TC.region ?_
      refine TL.cons (TO.val rfl rfl rfl (Val.cmp rfl rfl run_lss) ?_)
      refine TL.nil ?_
      refine TQ.then_ ?_
      refine TC.seq ?_
      refine TC.cond_p rfl h (fun hc793 h => ?_) (fun hc793 h => ?_)
      ·
       refine TC.skip ?_
       refine TQ.then_ ?_
       refine TC.seq ?_
       refine TC.block ?_
       refine TC.seq ?_
       refine TC.region ?_
       refine TL.cons (TO.val rfl rfl rfl (Val.move rfl) ?_)
       obtain ⟨y826, hx827, h⟩ := bind_no h
       obtain ⟨ad828, cs834, hA829, hi830, hj831, hcl832, hK833⟩ := Rd.at hr3 hx827
       obtain ⟨A835, c836, rfl, hr837, hl838⟩ := k37_openR hK833
       refine TL.cons (TO.val rfl rfl rfl (Val.indexAddr Tryd.underlying25 fsz37 rfl hA829 rfl hi830 hj831) ?_)
       refine TL.cons (TO.val rfl rfl rfl (Val.loadsS (cs := [.slice A835 y826.f0.length c836, .int .i64 y826.f1.f0, .int .i64 y826.f1.f1, .int .i64 y826.f1.f2, .int .i64 y826.f1.f3]) agg37 fsz37 rfl rfl (Cl.sub (off := 0) (n := 5) hcl832 rfl)) ?_)
       refine TL.cons (TL.alloc (cs := [.slice none 0 0, .int .i64 0, .int .i64 0, .int .i64 0, .int .i64 0]) rfl rfl zr37 rfl (fun b839 => ?_))
       refine TL.cons (TO.val rfl rfl rfl (Val.assign rfl) ?_)
       refine TL.cons (TL.store 0 (ds := [.slice A835 y826.f0.length c836, .int .i64 y826.f1.f0, .int .i64 y826.f1.f1, .int .i64 y826.f1.f2, .int .i64 y826.f1.f3]) (cs' := [.slice A835 y826.f0.length c836, .int .i64 y826.f1.f0, .int .i64 y826.f1.f1, .int .i64 y826.f1.f2, .int .i64 y826.f1.f3]) (L' := (Blk b839 [.slice A835 y826.f0.length c836, .int .i64 y826.f1.f0, .int .i64 y826.f1.f1, .int .i64 y826.f1.f2, .int .i64 y826.f1.f3] 37 :: Blk b10 [.int .i64 a1.f0, .slice A5 a1.f1.length c6] 27 :: Blk b9 [.int .i64 a0.f0, .slice A1 a0.f1.length c2] 27 :: L)) rfl fsz37 rfl rfl rfl rfl rfl (Nat.le_of_ble_eq_true rfl) rfl rfl ?_)
       refine TL.nil ?_
       refine TQ.then_ ?_
       refine TC.seq ?_
       refine TC.region ?_
       refine TL.cons (TO.val rfl rfl rfl (Val.move rfl) ?_)
       refine TL.cons (TO.val rfl rfl rfl (Val.move rfl) ?_)
       obtain ⟨y840, hx841, h⟩ := bind_no h
       obtain ⟨ad842, cs848, hA843, hi844, hj845, hcl846, hK847⟩ := Rd.at hr7 hx841
       obtain ⟨A849, c850, rfl, hr851, hl852⟩ := k37_openR hK847
       refine TL.cons (TO.val rfl rfl rfl (Val.indexAddr Tryd.underlying25 fsz37 rfl hA843 rfl hi844 hj845) ?_)
       refine TL.cons (TO.val rfl rfl rfl (Val.loadsS (cs := [.slice A849 y840.f0.length c850, .int .i64 y840.f1.f0, .int .i64 y840.f1.f1, .int .i64 y840.f1.f2, .int .i64 y840.f1.f3]) agg37 fsz37 rfl rfl (Cl.sub (off := 0) (n := 5) hcl846 rfl)) ?_)
       refine TL.cons (TL.alloc (cs := [.slice none 0 0, .int .i64 0, .int .i64 0, .int .i64 0, .int .i64 0]) rfl rfl zr37 rfl (fun b853 => ?_))
       refine TL.cons (TL.store 0 (ds := [.slice A849 y840.f0.length c850, .int .i64 y840.f1.f0, .int .i64 y840.f1.f1, .int .i64 y840.f1.f2, .int .i64 y840.f1.f3]) (cs' := [.slice A849 y840.f0.length c850, .int .i64 y840.f1.f0, .int .i64 y840.f1.f1, .int .i64 y840.f1.f2, .int .i64 y840.f1.f3]) (L' := (Blk b853 [.slice A849 y840.f0.length c850, .int .i64 y840.f1.f0, .int .i64 y840.f1.f1, .int .i64 y840.f1.f2, .int .i64 y840.f1.f3] 37 :: Blk b839 [.slice A835 y826.f0.length c836, .int .i64 y826.f1.f0, .int .i64 y826.f1.f1, .int .i64 y826.f1.f2, .int .i64 y826.f1.f3] 37 :: Blk b10 [.int .i64 a1.f0, .slice A5 a1.f1.length c6] 27 :: Blk b9 [.int .i64 a0.f0, .slice A1 a0.f1.length c2] 27 :: L)) rfl fsz37 rfl rfl rfl rfl rfl (Nat.le_of_ble_eq_true rfl) rfl rfl ?_)
       refine TL.nil ?_
       refine TQ.then_ ?_
       refine TC.seq ?_
       refine TC.region ?_
       refine TL.cons (TO.val rfl rfl rfl (Val.move rfl) ?_)
       refine TL.cons (TO.val rfl rfl rfl (Val.loadsB 1 (cs := [.slice A835 y826.f0.length c836, .int .i64 y826.f1.f0, .int .i64 y826.f1.f1, .int .i64 y826.f1.f2, .int .i64 y826.f1.f3]) agg37 fsz37 rfl rfl rfl rfl) ?_)
       refine TL.cons (TO.val rfl rfl rfl (Val.loadsB 0 (cs := [.slice A849 y840.f0.length c850, .int .i64 y840.f1.f0, .int .i64 y840.f1.f1, .int .i64 y840.f1.f2, .int .i64 y840.f1.f3]) agg37 fsz37 rfl rfl rfl rfl) ?_)
       obtain ⟨y854, hy855, h⟩ := bind_no h
       refine TL.cons (TL.callV (Lin := []) (args := [.agg #[.slice A835 y826.f0.length c836, .int .i64 y826.f1.f0, .int .i64 y826.f1.f1, .int .i64 y826.f1.f2, .int .i64 y826.f1.f3], .agg #[.slice A849 y840.f0.length c850, .int .i64 y840.f1.f0, .int .i64 y840.f1.f1, .int .i64 y840.f1.f2, .int .i64 y840.f1.f3]]) rfl rfl rfl hbd41 rfl rfl (code_Same_1.calls (a0 := y826) (a1 := y840) hr837 hl838 hr851 hl852 hy855) rfl ?_)
       rintro _ _ _ _ ⟨rfl, rfl, rfl⟩
       refine TL.cons (TO.val rfl rfl rfl (Val.not_ rfl) ?_)
       refine TL.nil ?_
       refine TQ.then_ ?_
       refine TC.cond_b rfl h (fun hc857 h => ?_) (fun hc857 h => ?_)
       ·
        refine TC.seq ?_
        refine TC.region ?_
        refine TL.cons (TO.val rfl rfl rfl (Val.assign rfl) ?_)
        refine TL.nil ?_
        refine TQ.then_ ?_
        refine TC.ret ?_
        refine TQ.inBR ?_
        refine TQ.thenR ?_
        refine TQ.thenR ?_
        refine TQ.inBR ?_
        refine TQ.thenR ?_
        refine TQ.thenR ?_
        obtain ⟨q_, hq_, h⟩ := bind_no h
        obtain rfl := Option.some.inj h
        have h := ko724
        obtain rfl := Option.some.inj h
        have h := hq_
        clear hq_
        exact TQ.fin (v := .bool false) (.inl rfl) rfl Tryd.results44 (.tmp rfl .nil) rfl (fun W hO => ⟨false, h, rfl, hO.selT (Ls := [Blk b10 [.int .i64 a1.f0, .slice A5 a1.f1.length c6] 27, Blk b9 [.int .i64 a0.f0, .slice A1 a0.f1.length c2] 27]) [2, 3] 4 rfl rfl rfl⟩)
       ·
        refine TC.skip ?_
        refine TQ.inB ?_
        refine TQ.then_ ?_
        refine TC.region ?_
        refine TL.cons (TO.val rfl rfl rfl (Val.cmp rfl rfl run_add) ?_)
        refine TL.cons (TO.val rfl rfl rfl (Val.move rfl) ?_)
        refine TL.nil ?_
        exact fun a W hF hO => ⟨IntKind.i64.wrap (x657 + 1), h, hF.sub ⟨rfl, rfl, rfl, rfl, rfl, trivial⟩, hO.selT (Ls := [Blk b10 [.int .i64 a1.f0, .slice A5 a1.f1.length c6] 27, Blk b9 [.int .i64 a0.f0, .slice A1 a0.f1.length c2] 27]) [2, 3] 4 rfl rfl rfl⟩
      ·
       refine TC.exit ?_
       refine TQ.thenX ?_
       refine TQ.thenX ?_
       refine TQ.inBX ?_
       exact fun a W hF hO => ⟨Option.some.inj h, hF.sub trivial, hO.selT (Ls := [Blk b10 [.int .i64 a1.f0, .slice A5 a1.f1.length c6] 27, Blk b9 [.int .i64 a0.f0, .slice A1 a0.f1.length c2] 27]) [0, 1] 2 rfl rfl rfl⟩
 ·
  have hk858 : decide (a0.f0 = a1.f0) = false := decide_eq_false hg317
  refine TL.cons (TL.not (Wt.no rfl rfl rfl hk858) rfl ?_)
  refine TL.cons (TL.not (Wt.no rfl rfl rfl hk858) rfl ?_)
  refine TL.cons (TL.not (Wt.no rfl rfl rfl hk858) rfl ?_)
  refine TL.cons (TL.not (Wt.no rfl rfl rfl hk858) rfl ?_)
  refine TL.cons (TL.not (Wt.no rfl rfl rfl hk858) rfl ?_)
  refine TL.cons (TL.not (Wt.no rfl rfl rfl hk858) rfl ?_)
  refine TL.cons (TO.val rfl rfl rfl (Val.pickN rfl hk858 rfl) ?_)
  refine TL.cons (TO.val rfl rfl rfl (Val.assign rfl) ?_)
  refine TL.nil ?_
  refine TQ.then_ ?_
  refine TC.ret ?_
  obtain rfl := Option.some.inj h
  exact TQ.fin (.inl rfl) rfl Tryd.results13 (.tmp rfl .nil) rfl (FRel.mk (Ls := []) [] 2 (Gd.le.refl _) rfl rfl rfl ⟨rfl, rfl, rfl⟩)
end Go.Proofs.YtmacdhkfgoahcaaDoor.Sy
set_option linter.unusedVariables false
set_option linter.unusedSimpArgs false
namespace Go.Proofs.YtmacdhkfgoahcaaDoor.Sy
open Go Go.RowKit Go.Proofs.YtmacdhkfgoahcaaDoorW.PrintWords Go.Proofs.YtmacdhkfgoahcaaDoor.SyO
/-! #### Alike -/
theorem eqi_l0 {a b : List Int} (hl : a.length ≤ 1000) (hab : a.length = b.length) : ∀ (xs ys : List Int) (n i : Nat), a.drop i = xs → b.drop i = ys → xs.length < n → i ≤ a.length → slices_Equal_int_int.l0 a b n i = some (if xs = ys then .inr () else .inl false) := by
  intro xs
  induction xs with
  | nil =>
    intro ys n i hx hy hn hi
    obtain ⟨n, rfl⟩ : ∃ m, n = m + 1 := ⟨n - 1, by simp at hn; omega⟩
    have hxl := drop_nil hx
    have hy0 : ys = [] := by rw [← hy]; exact List.drop_eq_nil_of_le (by omega)
    subst hy0
    rw [slices_Equal_int_int.l0, if_neg hxl]; simp
  | cons x xs ih =>
    intro ys n i hx hy hn hi
    obtain ⟨n, rfl⟩ : ∃ m, n = m + 1 := ⟨n - 1, by simp at hn; omega⟩
    obtain ⟨h1, h2, h3, h4⟩ := drop_cons hx
    cases ys with
    | nil => have := drop_nil hy; omega
    | cons y ys =>
      obtain ⟨_, g2, g3, _⟩ := drop_cons hy
      rw [slices_Equal_int_int.l0, if_pos h1, h2]
      simp only [Option.bind_some]
      rw [g2]
      simp only [Option.bind_some]
      by_cases hxy : x = y
      · rw [decide_eq_true hxy]
        simp only [Bool.not_true, Bool.false_eq_true, if_false]
        rw [wsucc (by omega), ih ys n (i + 1) h3 g3 (by simp at hn; omega) (by omega)]
        simp [hxy]
      · rw [decide_eq_false hxy]
        simp [hxy]
theorem eqi_f {a b : List Int} (hl : a.length ≤ 1000) : slices_Equal_int_int.f a b = some (decide (a = b)) := by
  unfold slices_Equal_int_int.f
  by_cases h : a.length = b.length
  · have h0 := eqi_l0 hl h a b (a.length + 1) 0 (by simp) (by simp) (by omega) (by omega)
    have h0' : slices_Equal_int_int.l0 a b (a.length + 1) 0 = _ := h0
    rw [h0', decide_eq_true (by omega : (a.length : Int) = (b.length : Int))]
    by_cases e : a = b <;> simp [e]
  · have e : a ≠ b := fun e => h (by rw [e])
    rw [decide_eq_false (by omega : ¬ (a.length : Int) = (b.length : Int))]
    simp [e]
theorem sameOp_f {a b : S40} (hl : a.f5.length ≤ 20) : ∃ r, code_sameOp.f a b = some r ∧ (r = true ↔ a = b) := by
  unfold code_sameOp.f
  simp only [jn]
  rw [eqi_f (by omega)]
  obtain ⟨a0, a1, a2, a3, a4, a5⟩ := a
  obtain ⟨b0, b1, b2, b3, b4, b5⟩ := b
  by_cases h : ([a0, a1, a2, a3, a4] == [b0, b1, b2, b3, b4]) = true
  · refine ⟨decide (a5 = b5), by simp only [h, if_true, Option.bind_some], ?_⟩
    have h2 : [a0, a1, a2, a3, a4] = [b0, b1, b2, b3, b4] := by simpa using h
    simp only [List.cons.injEq] at h2
    obtain ⟨rfl, rfl, rfl, rfl, rfl, _⟩ := h2
    simp
  · refine ⟨false, by rw [if_neg h], ?_⟩
    constructor
    · intro h; cases h
    · intro e
      exfalso; apply h
      injection e with e0 e1 e2 e3 e4 e5
      simp [e0, e1, e2, e3, e4]
theorem same1_l0 {a b : S37} (hl : a.f0.length ≤ 250) (ha : ∀ o ∈ a.f0, o.f5.length ≤ 20) (hab : a.f0.length = b.f0.length) : ∀ (xs ys : List S40) (n i : Nat), a.f0.drop i = xs → b.f0.drop i = ys → xs.length < n → i ≤ a.f0.length →
    ∃ r, code_Same_1.l0 a b (fun x => some x) n i = some r ∧ ((r = .inr () ∧ xs = ys) ∨ (r = .inl false ∧ xs ≠ ys)) := by
  intro xs
  induction xs with
  | nil =>
    intro ys n i hx hy hn hi
    obtain ⟨n, rfl⟩ : ∃ m, n = m + 1 := ⟨n - 1, by simp at hn; omega⟩
    have hxl := drop_nil hx
    have hy0 : ys = [] := by rw [← hy]; exact List.drop_eq_nil_of_le (by omega)
    subst hy0
    rw [code_Same_1.l0, if_neg hxl]
    exact ⟨_, rfl, .inl ⟨rfl, rfl⟩⟩
  | cons x xs ih =>
    intro ys n i hx hy hn hi
    obtain ⟨n, rfl⟩ : ∃ m, n = m + 1 := ⟨n - 1, by simp at hn; omega⟩
    obtain ⟨h1, h2, h3, h4⟩ := drop_cons hx
    cases ys with
    | nil => have := drop_nil hy; omega
    | cons y ys =>
      obtain ⟨_, g2, g3, _⟩ := drop_cons hy
      obtain ⟨s, s1, s2⟩ := sameOp_f (b := y) (ha x h4)
      rw [code_Same_1.l0, if_pos h1, h2]
      simp only [Option.bind_some]
      rw [g2]
      simp only [Option.bind_some]
      rw [s1]
      simp only [Option.bind_some]
      cases s with
      | false => exact ⟨_, rfl, .inr ⟨rfl, fun e => by injection e with e _; have := s2.2 e; cases this⟩⟩
      | true =>
        have hxy := s2.1 rfl
        simp only [Bool.not_true, Bool.false_eq_true, if_false]
        rw [wsucc (by omega)]
        obtain ⟨r, r1, r2⟩ := ih ys n (i + 1) h3 g3 (by simp at hn; omega) (by omega)
        refine ⟨r, r1, ?_⟩
        rcases r2 with ⟨r2, r3⟩ | ⟨r2, r3⟩
        · exact .inl ⟨r2, by rw [hxy, r3]⟩
        · exact .inr ⟨r2, fun e => r3 (by injection e)⟩
theorem same1_f {a b : S37} (hl : a.f0.length ≤ 250) (ha : ∀ o ∈ a.f0, o.f5.length ≤ 20) : ∃ r, code_Same_1.f a b = some r ∧ (r = true ↔ a = b) := by
  unfold code_Same_1.f
  by_cases ht : ((a.f1.f0 == b.f1.f0) && ((a.f1.f1 == b.f1.f1) && ((a.f1.f2 == b.f1.f2) && (a.f1.f3 == b.f1.f3)))) = true
  · rw [if_pos ht]
    simp only [jn]
    have ht2 : a.f1 = b.f1 := by
      simp only [Bool.and_eq_true, beq_iff_eq] at ht
      obtain ⟨e0, e1, e2, e3⟩ := ht
      rcases a with ⟨_, ⟨_, _, _, _⟩⟩; rcases b with ⟨_, ⟨_, _, _, _⟩⟩
      simp only at e0 e1 e2 e3 ⊢
      rw [e0, e1, e2, e3]
    by_cases h : a.f0.length = b.f0.length
    · obtain ⟨r, r1, r2⟩ := same1_l0 (b := b) hl ha h a.f0 b.f0 (a.f0.length + 1) 0 (by simp) (by simp) (by omega) (by omega)
      have r1' : code_Same_1.l0 a b (fun x => some x) (a.f0.length + 1) 0 = some r := r1
      rw [decide_eq_true (by omega : (a.f0.length : Int) = (b.f0.length : Int)), r1']
      simp only [Bool.not_true, Bool.false_eq_true, if_false, Option.bind_some]
      rcases r2 with ⟨rfl, e⟩ | ⟨rfl, e⟩
      · exact ⟨true, rfl, by simp; cases a; cases b; simp only at e ht2; rw [e, ht2]⟩
      · exact ⟨false, rfl, by simp; intro e'; exact e (by rw [e'])⟩
    · rw [decide_eq_false (by omega : ¬ (a.f0.length : Int) = (b.f0.length : Int))]
      exact ⟨false, by simp, by simp; intro e; exact h (by rw [e])⟩
  · rw [if_neg ht]
    refine ⟨false, rfl, by simp; intro e; apply ht; rw [e]; simp⟩
theorem same_l0 {a b : S27} (hl : a.f1.length ≤ 40) (ha : ∀ y ∈ a.f1, y.f0.length ≤ 250 ∧ ∀ o ∈ y.f0, o.f5.length ≤ 20) (hab : a.f1.length = b.f1.length) : ∀ (xs ys : List S37) (n i : Nat), a.f1.drop i = xs → b.f1.drop i = ys → xs.length < n → i ≤ a.f1.length →
    ∃ r, code_Same.l0 a b (fun x => some x) n i = some r ∧ ((r = .inr () ∧ xs = ys) ∨ (r = .inl false ∧ xs ≠ ys)) := by
  intro xs
  induction xs with
  | nil =>
    intro ys n i hx hy hn hi
    obtain ⟨n, rfl⟩ : ∃ m, n = m + 1 := ⟨n - 1, by simp at hn; omega⟩
    have hxl := drop_nil hx
    have hy0 : ys = [] := by rw [← hy]; exact List.drop_eq_nil_of_le (by omega)
    subst hy0
    rw [code_Same.l0, if_neg hxl]
    exact ⟨_, rfl, .inl ⟨rfl, rfl⟩⟩
  | cons x xs ih =>
    intro ys n i hx hy hn hi
    obtain ⟨n, rfl⟩ : ∃ m, n = m + 1 := ⟨n - 1, by simp at hn; omega⟩
    obtain ⟨h1, h2, h3, h4⟩ := drop_cons hx
    cases ys with
    | nil => have := drop_nil hy; omega
    | cons y ys =>
      obtain ⟨_, g2, g3, _⟩ := drop_cons hy
      obtain ⟨s, s1, s2⟩ := same1_f (b := y) (ha x h4).1 (ha x h4).2
      rw [code_Same.l0, if_pos h1, h2]
      simp only [Option.bind_some]
      rw [g2]
      simp only [Option.bind_some]
      rw [s1]
      simp only [Option.bind_some]
      cases s with
      | false => exact ⟨_, rfl, .inr ⟨rfl, fun e => by injection e with e _; have := s2.2 e; cases this⟩⟩
      | true =>
        have hxy := s2.1 rfl
        simp only [Bool.not_true, Bool.false_eq_true, if_false]
        rw [wsucc (by omega)]
        obtain ⟨r, r1, r2⟩ := ih ys n (i + 1) h3 g3 (by simp at hn; omega) (by omega)
        refine ⟨r, r1, ?_⟩
        rcases r2 with ⟨r2, r3⟩ | ⟨r2, r3⟩
        · exact .inl ⟨r2, by rw [hxy, r3]⟩
        · exact .inr ⟨r2, fun e => r3 (by injection e)⟩
theorem same_f {a b : S27} (hf : Fewp a) : ∃ r, code_Same.f a b = some r ∧ (r = true ↔ a = b) := by
  obtain ⟨f1, f2, f3⟩ := hf
  unfold code_Same.f
  by_cases ht : a.f0 = b.f0
  · rw [if_pos ht]
    simp only [jn]
    by_cases h : a.f1.length = b.f1.length
    · obtain ⟨r, r1, r2⟩ := same_l0 (b := b) f1 f3 h a.f1 b.f1 (a.f1.length + 1) 0 (by simp) (by simp) (by omega) (by omega)
      have r1' : code_Same.l0 a b (fun x => some x) (a.f1.length + 1) 0 = some r := r1
      rw [decide_eq_true (by omega : (a.f1.length : Int) = (b.f1.length : Int)), r1']
      simp only [Bool.not_true, Bool.false_eq_true, if_false, Option.bind_some]
      rcases r2 with ⟨rfl, e⟩ | ⟨rfl, e⟩
      · exact ⟨true, rfl, by simp; cases a; cases b; simp only at e ht; rw [e, ht]⟩
      · exact ⟨false, rfl, by simp; intro e'; exact e (by rw [e'])⟩
    · rw [decide_eq_false (by omega : ¬ (a.f1.length : Int) = (b.f1.length : Int))]
      exact ⟨false, by simp, by simp; intro e; exact h (by rw [e])⟩
  · rw [if_neg ht]
    exact ⟨false, rfl, by simp; intro e; exact ht (by rw [e])⟩
end Go.Proofs.YtmacdhkfgoahcaaDoor.Sy
set_option linter.unusedVariables false
set_option linter.unusedSimpArgs false
set_option maxRecDepth 100000
set_option maxHeartbeats 4000000
namespace Go.Proofs.YtmacdhkfgoahcaaDoor.Sy
open Go Go.RowKit Go.Proofs.YtmacdhkfgoahcaaDoorW.PrintWords 
def swageref14_Copy.l1 (a0 : S27) (x816 : Int) : Nat → Int → (List S40) → Option ((List S40))
 | 0, _, _ => none
 | n2236 + 1, x2165, l2166 => (at? a0.f1 x816).bind fun y2302 => (if x2165 < (y2302.f0.length : Int) then (at? y2302.f0 x2165).bind fun y2340 => (if ([] : List Int).length + y2340.f5.length ≤ 17592186044416 then (if l2166.length < 2199023255552 then swageref14_Copy.l1 a0 x816 n2236 (IntKind.i64.wrap (x2165 + 1)) (l2166 ++ [(⟨y2340.f0, y2340.f1, y2340.f2, y2340.f3, y2340.f4, (([] : List Int) ++ y2340.f5)⟩ : S40)]) else none) else none) else some l2166)
def swageref14_Copy.l0 (a0 : S27) : Nat → Int → (List S37) → Option ((List S37))
 | 0, _, _ => none
 | n1264 + 1, x816, l817 => (if x816 < (a0.f1.length : Int) then (at? a0.f1 x816).bind fun y1972 => (swageref14_Copy.l1 a0 x816 ((at? a0.f1 x816).elim 0 (fun vy2237 => vy2237.f0.length) + 1) 0 []).bind fun (l2231 : (List S40)) => (if l817.length < 2513169434916 then swageref14_Copy.l0 a0 n1264 (IntKind.i64.wrap (x816 + 1)) (l817 ++ [(⟨l2231, y1972.f1⟩ : S37)]) else none) else some l817)
def swageref14_Copy.f (a0 : S27) : Option S27 := (swageref14_Copy.l0 a0 (a0.f1.length + 1) 0 []).bind fun (l1259 : (List S37)) => some (⟨a0.f0, l1259⟩ : S27)
def swageref14_Copy.post (G : Gd)  (r : S27) (v : Value) (G' : Gd) (Lr : List Ch) : Prop := G = G' ∧ ∃ (A_1 : Option Addr) (c_1 : Nat), v = .agg #[.int .i64 r.f0, .slice A_1 r.f1.length c_1] ∧ Lr = [Row k37 37 (.slice A_1 r.f1.length c_1) r.f1]
theorem swageref14_Copy.calls {G : Gd} {r : S27} {a0 : S27} {A1 : Option Addr} {c2 : Nat} (hr3 : Rd G k37 A1 a0.f1) (hl4 : a0.f1.length ≤ c2) (h : swageref14_Copy.f a0 = some r) : Fn Tryd.prog 9 G [] [.agg #[.int .i64 a0.f0, .slice A1 a0.f1.length c2]] (swageref14_Copy.post G  r) := by
 refine Fn.intro (e := [(0, .agg #[.int .i64 a0.f0, .slice A1 a0.f1.length c2])]) 63 Tryd.func9 rfl Tryd.ntmps9 rfl rfl (Nat.le_of_ble_eq_true rfl) (fun L => ?_)
 unfold swageref14_Copy.f at h
 refine TC.seq ?_
 refine TC.region ?_
 refine TL.cons (TL.box (cs := [.int .i64 a0.f0, .slice A1 a0.f1.length c2]) rfl rfl rfl rfl (fun b5 => ?_))
 refine TL.cons (TL.alloc (cs := [.int .i64 0, .slice none 0 0]) rfl rfl zr27 rfl (fun b6 => ?_))
 refine TL.nil ?_
 refine TQ.then_ ?_
 refine TC.seq ?_
 refine TC.region ?_
 refine TL.cons (TO.val rfl rfl rfl (Val.fieldAddrB Tryd.underlying27 rfl fsz3 rfl rfl rfl) ?_)
 refine TL.cons (TO.val rfl rfl rfl (Val.loadB 1 agg3 rfl rfl rfl) ?_)
 refine TL.cons (TO.val rfl rfl rfl (Val.build (cs := [.int .i64 a0.f0, .slice none 0 0]) (is := [0]) (xs := [.tmp 9]) Tryd.underlying27 zr27 bld27 rfl rfl rfl rfl) ?_)
 refine TL.cons (TL.alloc (cs := [.int .i64 0, .slice none 0 0]) rfl rfl zr27 rfl (fun b7 => ?_))
 refine TL.cons (TL.store 0 (ds := [.int .i64 a0.f0, .slice none 0 0]) (cs' := [.int .i64 a0.f0, .slice none 0 0]) (L' := (Blk b7 [.int .i64 a0.f0, .slice none 0 0] 27 :: Blk b6 [.int .i64 0, .slice none 0 0] 27 :: Blk b5 [.int .i64 a0.f0, .slice A1 a0.f1.length c2] 27 :: L)) rfl fsz27 rfl rfl rfl rfl rfl (Nat.le_of_ble_eq_true rfl) rfl rfl ?_)
 refine TL.nil ?_
 refine TQ.then_ ?_
 refine TC.seq ?_
 refine TC.seq ?_
 refine TC.region ?_
 refine TL.cons (TO.val rfl rfl rfl (Val.assign rfl) ?_)
 refine TL.nil ?_
 refine TQ.then_ ?_
 obtain ⟨o1263, ho1263, ko1263⟩ := bind_no h
 clear h
 refine TC.tail (fun a W => ∃ (l1259 : (List S37)) (A1260 : Option Addr) (c1261 : Nat), l1259 = o1263 ∧ Fr 63 a [(2, .pointer (some ⟨b6, 0, none⟩)), (3, .pointer (some ⟨b7, 0, none⟩))] ∧ Own G (Blk b6 [.int .i64 0, .slice none 0 0] 27 :: Blk b7 [.int .i64 a0.f0, .slice A1260 l1259.length c1261] 27 :: Row k37 37 (.slice A1260 l1259.length c1261) l1259 :: L) W) ?_ ?_
 ·
  rintro a W ⟨l1259, A1260, c1261, rfl, hF, hO⟩
  have h := ko1263
  clear ko1263 ho1263
  refine TQ.use ?_ hF hO
  clear hF hO
  refine TQ.then_ ?_
  refine TC.seq ?_
  refine TC.region ?_
  refine TL.cons (TO.val rfl rfl rfl (Val.loadsB 1 (cs := [.int .i64 a0.f0, .slice A1260 l1259.length c1261]) agg27 fsz27 rfl rfl rfl rfl) ?_)
  refine TL.cons (TL.store 0 (ds := [.int .i64 a0.f0, .slice A1260 l1259.length c1261]) (cs' := [.int .i64 a0.f0, .slice A1260 l1259.length c1261]) (L' := (Blk b6 [.int .i64 a0.f0, .slice A1260 l1259.length c1261] 27 :: Blk b7 [.int .i64 a0.f0, .slice A1260 l1259.length c1261] 27 :: Row k37 37 (.slice A1260 l1259.length c1261) l1259 :: L)) rfl fsz27 rfl rfl rfl rfl rfl (Nat.le_of_ble_eq_true rfl) rfl rfl ?_)
  refine TL.nil ?_
  refine TQ.then_ ?_
  refine TC.ret ?_
  obtain rfl := Option.some.inj h
  exact TQ.fin (.inl rfl) rfl Tryd.results9 (.cells 0 rfl rfl agg27 fsz27 .nil) rfl (FRel.mk (Ls := [Row k37 37 (.slice A1260 l1259.length c1261) l1259]) [2] 3 (Gd.le.refl _) rfl rfl rfl ⟨rfl, A1260, c1261, rfl, rfl⟩)
 ·
  refine TC.block ?_
  intro a W hF hO
  have hS : ∃ (x816 : Int) (l817 : (List S37)) (A818 : Option Addr) (c819 : Nat), swageref14_Copy.l0 a0 (a0.f1.length + 1) x816 l817 = some o1263 ∧ Fr 63 a [(1, .pointer (some ⟨b5, 0, none⟩)), (2, .pointer (some ⟨b6, 0, none⟩)), (3, .pointer (some ⟨b7, 0, none⟩)), (4, .int .i64 x816)] ∧ Own G (Blk b5 [.int .i64 a0.f0, .slice A1 a0.f1.length c2] 27 :: Blk b6 [.int .i64 0, .slice none 0 0] 27 :: Blk b7 [.int .i64 a0.f0, .slice A818 l817.length c819] 27 :: Row k37 37 (.slice A818 l817.length c819) l817 :: L) W := by
   exact ⟨0, [], none, 0, ho1263, hF.sub ⟨rfl, rfl, rfl, rfl, trivial⟩, (Own.nilRow k37 37 hO).selT (Ls := [Blk b5 [.int .i64 a0.f0, .slice A1 a0.f1.length c2] 27, Blk b6 [.int .i64 0, .slice none 0 0] 27, Blk b7 [.int .i64 a0.f0, .slice none ([] : List S37).length 0] 27, Row k37 37 (.slice none ([] : List S37).length 0) ([] : List S37)]) [3, 2, 1, 0] 4 rfl rfl rfl⟩
  clear hF hO ho1263 ko1263
  refine TC.loop (fun n1264 a W => ∃ (x816 : Int) (l817 : (List S37)) (A818 : Option Addr) (c819 : Nat), swageref14_Copy.l0 a0 n1264 x816 l817 = some o1263 ∧ Fr 63 a [(1, .pointer (some ⟨b5, 0, none⟩)), (2, .pointer (some ⟨b6, 0, none⟩)), (3, .pointer (some ⟨b7, 0, none⟩)), (4, .int .i64 x816)] ∧ Own G (Blk b5 [.int .i64 a0.f0, .slice A1 a0.f1.length c2] 27 :: Blk b6 [.int .i64 0, .slice none 0 0] 27 :: Blk b7 [.int .i64 a0.f0, .slice A818 l817.length c819] 27 :: Row k37 37 (.slice A818 l817.length c819) l817 :: L) W) ?_ ?_ hS
  ·
   rintro a W ⟨x816, l817, A818, c819, h, hF, hO⟩
   exact none_no h
  ·
   clear hS
   rintro n1264 a W ⟨x816, l817, A818, c819, h, hF, hO⟩
   rw [swageref14_Copy.l0] at h
   refine TC.use ?_ hF hO
   clear hF hO
   refine TC.seq ?_
   refine TC.seq ?_
   refine TC.region ?_
   refine TL.cons (TO.val rfl rfl rfl (Val.move rfl) ?_)
   refine TL.cons (TO.val rfl rfl rfl (Val.fieldAddrB Tryd.underlying27 rfl fsz25 rfl rfl rfl) ?_)
   refine TL.cons (TO.val rfl rfl rfl (Val.loadB 0 agg25 rfl rfl rfl) ?_)
   refine TL.cons (TO.val rfl rfl rfl (Val.len Tryd.underlying25 rfl) ?_)
   refine TL.cons (TO.val rfl rfl rfl (Val.cmp rfl rfl run_lss) ?_)
   refine TL.nil ?_
   refine TQ.then_ ?_
   refine TC.cond_p rfl h (fun hc1704 h => ?_) (fun hc1704 h => ?_)
   ·
    refine TC.skip ?_
    refine TQ.then_ ?_
    refine TC.seq ?_
    refine TC.block ?_
    refine TC.seq ?_
    refine TC.region ?_
    refine TL.cons (TO.val rfl rfl rfl (Val.fieldAddrB Tryd.underlying27 rfl fsz25 rfl rfl rfl) ?_)
    refine TL.cons (TO.val rfl rfl rfl (Val.loadB 0 agg25 rfl rfl rfl) ?_)
    refine TL.cons (TO.val rfl rfl rfl (Val.move rfl) ?_)
    obtain ⟨y1972, hx1973, h⟩ := bind_no h
    obtain ⟨ad1974, cs1980, hA1975, hi1976, hj1977, hcl1978, hK1979⟩ := Rd.at hr3 hx1973
    obtain ⟨A1981, c1982, rfl, hr1983, hl1984⟩ := k37_openR hK1979
    refine TL.cons (TO.val rfl rfl rfl (Val.indexAddr Tryd.underlying25 fsz37 rfl hA1975 rfl hi1976 hj1977) ?_)
    refine TL.cons (TO.val rfl rfl rfl (Val.fieldAddrE Tryd.underlying37 rfl fsz35 rfl rfl) ?_)
    refine TL.cons (TO.val rfl rfl rfl (Val.loadsS (cs := [.int .i64 y1972.f1.f0, .int .i64 y1972.f1.f1, .int .i64 y1972.f1.f2, .int .i64 y1972.f1.f3]) agg35 fsz35 rfl rfl (Cl.sub (off := 1) (n := 4) hcl1978 rfl)) ?_)
    refine TL.cons (TO.val rfl rfl rfl (Val.build (cs := [.slice none 0 0, .int .i64 y1972.f1.f0, .int .i64 y1972.f1.f1, .int .i64 y1972.f1.f2, .int .i64 y1972.f1.f3]) (is := [1]) (xs := [.tmp 23]) Tryd.underlying37 zr37 bld37 rfl rfl rfl rfl) ?_)
    refine TL.cons (TL.alloc (cs := [.slice none 0 0, .int .i64 0, .int .i64 0, .int .i64 0, .int .i64 0]) rfl rfl zr37 rfl (fun b1985 => ?_))
    refine TL.cons (TL.store 0 (ds := [.slice none 0 0, .int .i64 y1972.f1.f0, .int .i64 y1972.f1.f1, .int .i64 y1972.f1.f2, .int .i64 y1972.f1.f3]) (cs' := [.slice none 0 0, .int .i64 y1972.f1.f0, .int .i64 y1972.f1.f1, .int .i64 y1972.f1.f2, .int .i64 y1972.f1.f3]) (L' := (Blk b1985 [.slice none 0 0, .int .i64 y1972.f1.f0, .int .i64 y1972.f1.f1, .int .i64 y1972.f1.f2, .int .i64 y1972.f1.f3] 37 :: Blk b5 [.int .i64 a0.f0, .slice A1 a0.f1.length c2] 27 :: Blk b6 [.int .i64 0, .slice none 0 0] 27 :: Blk b7 [.int .i64 a0.f0, .slice A818 l817.length c819] 27 :: Row k37 37 (.slice A818 l817.length c819) l817 :: L)) rfl fsz37 rfl rfl rfl rfl rfl (Nat.le_of_ble_eq_true rfl) rfl rfl ?_)
    refine TL.nil ?_
    refine TQ.then_ ?_
    refine TC.seq ?_
    refine TC.seq ?_
    refine TC.region ?_
    refine TL.cons (TO.val rfl rfl rfl (Val.assign rfl) ?_)
    refine TL.nil ?_
    refine TQ.then_ ?_
    obtain ⟨o2235, ho2235, ko2235⟩ := bind_no h
    clear h
    refine TC.tail (fun a W => ∃ (l2231 : (List S40)) (A2232 : Option Addr) (c2233 : Nat), l2231 = o2235 ∧ Fr 63 a [(1, .pointer (some ⟨b5, 0, none⟩)), (2, .pointer (some ⟨b6, 0, none⟩)), (3, .pointer (some ⟨b7, 0, none⟩)), (4, .int .i64 x816), (5, .pointer (some ⟨b1985, 0, none⟩))] ∧ Own G (Blk b1985 [.slice A2232 l2231.length c2233, .int .i64 y1972.f1.f0, .int .i64 y1972.f1.f1, .int .i64 y1972.f1.f2, .int .i64 y1972.f1.f3] 37 :: Blk b5 [.int .i64 a0.f0, .slice A1 a0.f1.length c2] 27 :: Blk b6 [.int .i64 0, .slice none 0 0] 27 :: Blk b7 [.int .i64 a0.f0, .slice A818 l817.length c819] 27 :: Row k40 40 (.slice A2232 l2231.length c2233) l2231 :: Row k37 37 (.slice A818 l817.length c819) l817 :: L) W) ?_ ?_
    ·
     rintro a W ⟨l2231, A2232, c2233, rfl, hF, hO⟩
     have h := ko2235
     clear ko2235 ho2235
     refine TQ.use ?_ hF hO
     clear hF hO
     refine TQ.then_ ?_
     refine TC.region ?_
     refine TL.cons (TO.val rfl rfl rfl (Val.fieldAddrB Tryd.underlying27 rfl fsz25 rfl rfl rfl) ?_)
     refine TL.cons (TO.val rfl rfl rfl (Val.loadB 3 agg25 rfl rfl rfl) ?_)
     refine TL.cons (TO.val rfl rfl rfl (Val.loadsB 0 (cs := [.slice A2232 l2231.length c2233, .int .i64 y1972.f1.f0, .int .i64 y1972.f1.f1, .int .i64 y1972.f1.f2, .int .i64 y1972.f1.f3]) agg37 fsz37 rfl rfl rfl rfl) ?_)
     refine TL.cons (TL.buildSlice (xs := [.tmp 58]) (vs := [.agg #[.slice A2232 l2231.length c2233, .int .i64 y1972.f1.f0, .int .i64 y1972.f1.f1, .int .i64 y1972.f1.f2, .int .i64 y1972.f1.f3]]) (cs := [.slice A2232 l2231.length c2233, .int .i64 y1972.f1.f0, .int .i64 y1972.f1.f1, .int .i64 y1972.f1.f2, .int .i64 y1972.f1.f3]) rfl rfl Tryd.underlying25 zs37 rfl rfl rfl rfl rfl rfl rfl rfl (fun b2298 => ?_))
     refine TK.sel (Ls := [Row k40 40 (.slice A2232 l2231.length c2233) l2231, Blk b2298 [.slice A2232 l2231.length c2233, .int .i64 y1972.f1.f0, .int .i64 y1972.f1.f1, .int .i64 y1972.f1.f2, .int .i64 y1972.f1.f3] 37, Blk b1985 [.slice A2232 l2231.length c2233, .int .i64 y1972.f1.f0, .int .i64 y1972.f1.f1, .int .i64 y1972.f1.f2, .int .i64 y1972.f1.f3] 37, Blk b5 [.int .i64 a0.f0, .slice A1 a0.f1.length c2] 27, Blk b6 [.int .i64 0, .slice none 0 0] 27, Blk b7 [.int .i64 a0.f0, .slice A818 l817.length c819] 27, Row k37 37 (.slice A818 l817.length c819) l817]) [5, 0, 1, 2, 3, 4, 6] 7 rfl rfl rfl ?_
     refine TK.conv (ch' := El k37 (⟨l2231, y1972.f1⟩ : S37) [.slice A2232 l2231.length c2233, .int .i64 y1972.f1.f0, .int .i64 y1972.f1.f1, .int .i64 y1972.f1.f2, .int .i64 y1972.f1.f3]) (fun B W F hh => k37_mkM W B F (⟨l2231, y1972.f1⟩ : S37) hh) ?_
     refine TK.sel (Ls := [Row k37 37 (.slice A818 l817.length c819) l817, El k37 (⟨l2231, y1972.f1⟩ : S37) [.slice A2232 l2231.length c2233, .int .i64 y1972.f1.f0, .int .i64 y1972.f1.f1, .int .i64 y1972.f1.f2, .int .i64 y1972.f1.f3], Blk b2298 [.slice A2232 l2231.length c2233, .int .i64 y1972.f1.f0, .int .i64 y1972.f1.f1, .int .i64 y1972.f1.f2, .int .i64 y1972.f1.f3] 37, Blk b1985 [.slice A2232 l2231.length c2233, .int .i64 y1972.f1.f0, .int .i64 y1972.f1.f1, .int .i64 y1972.f1.f2, .int .i64 y1972.f1.f3] 37, Blk b5 [.int .i64 a0.f0, .slice A1 a0.f1.length c2] 27, Blk b6 [.int .i64 0, .slice none 0 0] 27, Blk b7 [.int .i64 a0.f0, .slice A818 l817.length c819] 27]) [6, 0, 1, 2, 3, 4, 5] 7 rfl rfl rfl ?_
     obtain ⟨ha2299, h⟩ := ite_no h
     refine TL.cons (TL.append (xs := l817) k37 rfl rfl Tryd.underlying25 inf37 rfl (Nat.le_of_ble_eq_true rfl) (Nat.le_of_ble_eq_true rfl) rfl rfl (by omega) (fun A2300 c2301 => ?_))
     refine TL.cons (TO.val rfl rfl rfl (Val.fieldAddrB Tryd.underlying27 rfl fsz25 rfl rfl rfl) ?_)
     refine TL.cons (TL.store 4 (ds := [.slice A2300 (l817 ++ [(⟨l2231, y1972.f1⟩ : S37)]).length c2301]) (cs' := [.int .i64 a0.f0, .slice A2300 (l817 ++ [(⟨l2231, y1972.f1⟩ : S37)]).length c2301]) (L' := (Row k37 37 (.slice A2300 (l817 ++ [(⟨l2231, y1972.f1⟩ : S37)]).length c2301) (l817 ++ [(⟨l2231, y1972.f1⟩ : S37)]) :: Blk b1985 [.slice A2232 l2231.length c2233, .int .i64 y1972.f1.f0, .int .i64 y1972.f1.f1, .int .i64 y1972.f1.f2, .int .i64 y1972.f1.f3] 37 :: Blk b5 [.int .i64 a0.f0, .slice A1 a0.f1.length c2] 27 :: Blk b6 [.int .i64 0, .slice none 0 0] 27 :: Blk b7 [.int .i64 a0.f0, .slice A2300 (l817 ++ [(⟨l2231, y1972.f1⟩ : S37)]).length c2301] 27 :: L)) rfl fsz25 rfl rfl rfl rfl rfl (Nat.le_of_ble_eq_true rfl) rfl rfl ?_)
     refine TL.nil ?_
     refine TQ.inB ?_
     refine TQ.then_ ?_
     refine TC.region ?_
     refine TL.cons (TO.val rfl rfl rfl (Val.move rfl) ?_)
     refine TL.cons (TO.val rfl rfl rfl (Val.cmp rfl rfl run_add) ?_)
     refine TL.cons (TO.val rfl rfl rfl (Val.assign rfl) ?_)
     refine TL.nil ?_
     exact fun a W hF hO => ⟨IntKind.i64.wrap (x816 + 1), (l817 ++ [(⟨l2231, y1972.f1⟩ : S37)]), A2300, c2301, h, hF.sub ⟨rfl, rfl, rfl, rfl, trivial⟩, hO.selT (Ls := [Blk b5 [.int .i64 a0.f0, .slice A1 a0.f1.length c2] 27, Blk b6 [.int .i64 0, .slice none 0 0] 27, Blk b7 [.int .i64 a0.f0, .slice A2300 (l817 ++ [(⟨l2231, y1972.f1⟩ : S37)]).length c2301] 27, Row k37 37 (.slice A2300 (l817 ++ [(⟨l2231, y1972.f1⟩ : S37)]).length c2301) (l817 ++ [(⟨l2231, y1972.f1⟩ : S37)])]) [2, 3, 4, 0] 5 rfl rfl rfl⟩
    ·
     refine TC.block ?_
     intro a W hF hO
     have hS : ∃ (x2165 : Int) (l2166 : (List S40)) (A2167 : Option Addr) (c2168 : Nat), swageref14_Copy.l1 a0 x816 ((at? a0.f1 x816).elim 0 (fun vy2237 => vy2237.f0.length) + 1) x2165 l2166 = some o2235 ∧ Fr 63 a [(1, .pointer (some ⟨b5, 0, none⟩)), (2, .pointer (some ⟨b6, 0, none⟩)), (3, .pointer (some ⟨b7, 0, none⟩)), (4, .int .i64 x816), (5, .pointer (some ⟨b1985, 0, none⟩)), (6, .int .i64 x2165)] ∧ Own G (Blk b1985 [.slice A2167 l2166.length c2168, .int .i64 y1972.f1.f0, .int .i64 y1972.f1.f1, .int .i64 y1972.f1.f2, .int .i64 y1972.f1.f3] 37 :: Blk b5 [.int .i64 a0.f0, .slice A1 a0.f1.length c2] 27 :: Blk b6 [.int .i64 0, .slice none 0 0] 27 :: Blk b7 [.int .i64 a0.f0, .slice A818 l817.length c819] 27 :: Row k40 40 (.slice A2167 l2166.length c2168) l2166 :: Row k37 37 (.slice A818 l817.length c819) l817 :: L) W := by
      exact ⟨0, [], none, 0, ho2235, hF.sub ⟨rfl, rfl, rfl, rfl, rfl, rfl, trivial⟩, (Own.nilRow k40 40 hO).selT (Ls := [Blk b1985 [.slice none ([] : List S40).length 0, .int .i64 y1972.f1.f0, .int .i64 y1972.f1.f1, .int .i64 y1972.f1.f2, .int .i64 y1972.f1.f3] 37, Blk b5 [.int .i64 a0.f0, .slice A1 a0.f1.length c2] 27, Blk b6 [.int .i64 0, .slice none 0 0] 27, Blk b7 [.int .i64 a0.f0, .slice A818 l817.length c819] 27, Row k40 40 (.slice none ([] : List S40).length 0) ([] : List S40), Row k37 37 (.slice A818 l817.length c819) l817]) [1, 2, 3, 4, 0, 5] 6 rfl rfl rfl⟩
     clear hF hO ho2235 ko2235
     refine TC.loop (fun n2236 a W => ∃ (x2165 : Int) (l2166 : (List S40)) (A2167 : Option Addr) (c2168 : Nat), swageref14_Copy.l1 a0 x816 n2236 x2165 l2166 = some o2235 ∧ Fr 63 a [(1, .pointer (some ⟨b5, 0, none⟩)), (2, .pointer (some ⟨b6, 0, none⟩)), (3, .pointer (some ⟨b7, 0, none⟩)), (4, .int .i64 x816), (5, .pointer (some ⟨b1985, 0, none⟩)), (6, .int .i64 x2165)] ∧ Own G (Blk b1985 [.slice A2167 l2166.length c2168, .int .i64 y1972.f1.f0, .int .i64 y1972.f1.f1, .int .i64 y1972.f1.f2, .int .i64 y1972.f1.f3] 37 :: Blk b5 [.int .i64 a0.f0, .slice A1 a0.f1.length c2] 27 :: Blk b6 [.int .i64 0, .slice none 0 0] 27 :: Blk b7 [.int .i64 a0.f0, .slice A818 l817.length c819] 27 :: Row k40 40 (.slice A2167 l2166.length c2168) l2166 :: Row k37 37 (.slice A818 l817.length c819) l817 :: L) W) ?_ ?_ hS
     ·
      rintro a W ⟨x2165, l2166, A2167, c2168, h, hF, hO⟩
      exact none_no h
     ·
      clear hS
      rintro n2236 a W ⟨x2165, l2166, A2167, c2168, h, hF, hO⟩
      rw [swageref14_Copy.l1] at h
      refine TC.use ?_ hF hO
      clear hF hO
      refine TC.seq ?_
      refine TC.seq ?_
      refine TC.region ?_
      refine TL.cons (TO.val rfl rfl rfl (Val.move rfl) ?_)
      refine TL.cons (TO.val rfl rfl rfl (Val.fieldAddrB Tryd.underlying27 rfl fsz25 rfl rfl rfl) ?_)
      refine TL.cons (TO.val rfl rfl rfl (Val.loadB 1 agg25 rfl rfl rfl) ?_)
      refine TL.cons (TO.val rfl rfl rfl (Val.move rfl) ?_)
      obtain ⟨y2302, hx2303, h⟩ := bind_no h
      obtain ⟨ad2304, cs2310, hA2305, hi2306, hj2307, hcl2308, hK2309⟩ := Rd.at hr3 hx2303
      obtain ⟨A2311, c2312, rfl, hr2313, hl2314⟩ := k37_openR hK2309
      refine TL.cons (TO.val rfl rfl rfl (Val.indexAddr Tryd.underlying25 fsz37 rfl hA2305 rfl hi2306 hj2307) ?_)
      refine TL.cons (TO.val rfl rfl rfl (Val.fieldAddrE Tryd.underlying37 rfl fsz33 rfl rfl) ?_)
      refine TL.cons (TO.val rfl rfl rfl (Val.loadS agg33 rfl (hcl2308 0 _ rfl)) ?_)
      refine TL.cons (TO.val rfl rfl rfl (Val.len Tryd.underlying33 rfl) ?_)
      refine TL.cons (TO.val rfl rfl rfl (Val.cmp rfl rfl run_lss) ?_)
      refine TL.nil ?_
      refine TQ.then_ ?_
      refine TC.cond_p rfl h (fun hc2316 h => ?_) (fun hc2316 h => ?_)
      ·
       refine TC.skip ?_
       refine TQ.then_ ?_
       refine TC.seq ?_
       refine TC.block ?_
       refine TC.seq ?_
       refine TC.region ?_
       refine TL.cons (TO.val rfl rfl rfl (Val.fieldAddrB Tryd.underlying27 rfl fsz25 rfl rfl rfl) ?_)
       refine TL.cons (TO.val rfl rfl rfl (Val.loadB 1 agg25 rfl rfl rfl) ?_)
       refine TL.cons (TO.val rfl rfl rfl (Val.move rfl) ?_)
       refine TL.cons (TO.val rfl rfl rfl (Val.indexAddr Tryd.underlying25 fsz37 rfl hA2305 rfl hi2306 hj2307) ?_)
       refine TL.cons (TO.val rfl rfl rfl (Val.fieldAddrE Tryd.underlying37 rfl fsz33 rfl rfl) ?_)
       refine TL.cons (TO.val rfl rfl rfl (Val.loadS agg33 rfl (hcl2308 0 _ rfl)) ?_)
       refine TL.cons (TO.val rfl rfl rfl (Val.move rfl) ?_)
       obtain ⟨y2340, hx2341, h⟩ := bind_no h
       obtain ⟨ad2342, cs2348, hA2343, hi2344, hj2345, hcl2346, hK2347⟩ := Rd.at hr2313 hx2341
       obtain ⟨A2349, c2350, rfl, hr2351, hl2352⟩ := k40_openR hK2347
       refine TL.cons (TO.val rfl rfl rfl (Val.indexAddr Tryd.underlying33 fsz40 rfl hA2343 rfl hi2344 hj2345) ?_)
       refine TL.cons (TO.val rfl rfl rfl (Val.loadsS (cs := [.int .i64 y2340.f0, .int .i64 y2340.f1, .int .i64 y2340.f2, .int .i64 y2340.f3, .int .i64 y2340.f4, .slice A2349 y2340.f5.length c2350]) agg40 fsz40 rfl rfl (Cl.sub (off := 0) (n := 6) hcl2346 rfl)) ?_)
       refine TL.cons (TL.alloc (cs := [.int .i64 0, .int .i64 0, .int .i64 0, .int .i64 0, .int .i64 0, .slice none 0 0]) rfl rfl zr40 rfl (fun b2353 => ?_))
       refine TL.cons (TL.store 0 (ds := [.int .i64 y2340.f0, .int .i64 y2340.f1, .int .i64 y2340.f2, .int .i64 y2340.f3, .int .i64 y2340.f4, .slice A2349 y2340.f5.length c2350]) (cs' := [.int .i64 y2340.f0, .int .i64 y2340.f1, .int .i64 y2340.f2, .int .i64 y2340.f3, .int .i64 y2340.f4, .slice A2349 y2340.f5.length c2350]) (L' := (Blk b2353 [.int .i64 y2340.f0, .int .i64 y2340.f1, .int .i64 y2340.f2, .int .i64 y2340.f3, .int .i64 y2340.f4, .slice A2349 y2340.f5.length c2350] 40 :: Blk b1985 [.slice A2167 l2166.length c2168, .int .i64 y1972.f1.f0, .int .i64 y1972.f1.f1, .int .i64 y1972.f1.f2, .int .i64 y1972.f1.f3] 37 :: Blk b5 [.int .i64 a0.f0, .slice A1 a0.f1.length c2] 27 :: Blk b6 [.int .i64 0, .slice none 0 0] 27 :: Blk b7 [.int .i64 a0.f0, .slice A818 l817.length c819] 27 :: Row k40 40 (.slice A2167 l2166.length c2168) l2166 :: Row k37 37 (.slice A818 l817.length c819) l817 :: L)) rfl fsz40 rfl rfl rfl rfl rfl (Nat.le_of_ble_eq_true rfl) rfl rfl ?_)
       refine TL.nil ?_
       refine TQ.then_ ?_
       refine TC.seq ?_
       refine TC.region ?_
       refine TL.cons (TL.buildSlice0 (Kd.int .i64) rfl rfl Tryd.underlying38 zs3 (fun b2354 => ?_))
       refine TL.cons (TO.val rfl rfl rfl (Val.fieldAddrB Tryd.underlying40 rfl fsz38 rfl rfl rfl) ?_)
       refine TL.cons (TO.val rfl rfl rfl (Val.loadB 1 agg38 rfl rfl rfl) ?_)
       obtain ⟨ha2356, h⟩ := ite_no h
       refine TL.cons (TL.appendR (xs := ([] : List Int)) (ys := y2340.f5) (Kd.int .i64) (Kd.int .i64) rfl rfl Tryd.underlying38 inf3 rfl (Nat.le_of_ble_eq_true rfl) (Nat.le_of_ble_eq_true rfl) rfl rfl (by omega) hr2351 rfl (fun _ _ _ _ _ h => h) (fun A2357 c2358 => ?_))
       refine TL.cons (TO.val rfl rfl rfl (Val.fieldAddrB Tryd.underlying40 rfl fsz38 rfl rfl rfl) ?_)
       refine TL.cons (TL.store 1 (ds := [.slice A2357 (([] : List Int) ++ y2340.f5).length c2358]) (cs' := [.int .i64 y2340.f0, .int .i64 y2340.f1, .int .i64 y2340.f2, .int .i64 y2340.f3, .int .i64 y2340.f4, .slice A2357 (([] : List Int) ++ y2340.f5).length c2358]) (L' := (Row (Kd.int .i64) 3 (.slice A2357 (([] : List Int) ++ y2340.f5).length c2358) (([] : List Int) ++ y2340.f5) :: Blk b2353 [.int .i64 y2340.f0, .int .i64 y2340.f1, .int .i64 y2340.f2, .int .i64 y2340.f3, .int .i64 y2340.f4, .slice A2357 (([] : List Int) ++ y2340.f5).length c2358] 40 :: Blk b1985 [.slice A2167 l2166.length c2168, .int .i64 y1972.f1.f0, .int .i64 y1972.f1.f1, .int .i64 y1972.f1.f2, .int .i64 y1972.f1.f3] 37 :: Blk b5 [.int .i64 a0.f0, .slice A1 a0.f1.length c2] 27 :: Blk b6 [.int .i64 0, .slice none 0 0] 27 :: Blk b7 [.int .i64 a0.f0, .slice A818 l817.length c819] 27 :: Row k40 40 (.slice A2167 l2166.length c2168) l2166 :: Row k37 37 (.slice A818 l817.length c819) l817 :: L)) rfl fsz38 rfl rfl rfl rfl rfl (Nat.le_of_ble_eq_true rfl) rfl rfl ?_)
       refine TL.nil ?_
       refine TQ.then_ ?_
       refine TC.region ?_
       refine TL.cons (TO.val rfl rfl rfl (Val.fieldAddrB Tryd.underlying37 rfl fsz33 rfl rfl rfl) ?_)
       refine TL.cons (TO.val rfl rfl rfl (Val.loadB 2 agg33 rfl rfl rfl) ?_)
       refine TL.cons (TO.val rfl rfl rfl (Val.loadsB 1 (cs := [.int .i64 y2340.f0, .int .i64 y2340.f1, .int .i64 y2340.f2, .int .i64 y2340.f3, .int .i64 y2340.f4, .slice A2357 (([] : List Int) ++ y2340.f5).length c2358]) agg40 fsz40 rfl rfl rfl rfl) ?_)
       refine TL.cons (TL.buildSlice (xs := [.tmp 52]) (vs := [.agg #[.int .i64 y2340.f0, .int .i64 y2340.f1, .int .i64 y2340.f2, .int .i64 y2340.f3, .int .i64 y2340.f4, .slice A2357 (([] : List Int) ++ y2340.f5).length c2358]]) (cs := [.int .i64 y2340.f0, .int .i64 y2340.f1, .int .i64 y2340.f2, .int .i64 y2340.f3, .int .i64 y2340.f4, .slice A2357 (([] : List Int) ++ y2340.f5).length c2358]) rfl rfl Tryd.underlying33 zs40 rfl rfl rfl rfl rfl rfl rfl rfl (fun b2359 => ?_))
       refine TK.sel (Ls := [Row (Kd.int .i64) 3 (.slice A2357 (([] : List Int) ++ y2340.f5).length c2358) (([] : List Int) ++ y2340.f5), Blk b2359 [.int .i64 y2340.f0, .int .i64 y2340.f1, .int .i64 y2340.f2, .int .i64 y2340.f3, .int .i64 y2340.f4, .slice A2357 (([] : List Int) ++ y2340.f5).length c2358] 40, Blk b2353 [.int .i64 y2340.f0, .int .i64 y2340.f1, .int .i64 y2340.f2, .int .i64 y2340.f3, .int .i64 y2340.f4, .slice A2357 (([] : List Int) ++ y2340.f5).length c2358] 40, Blk b1985 [.slice A2167 l2166.length c2168, .int .i64 y1972.f1.f0, .int .i64 y1972.f1.f1, .int .i64 y1972.f1.f2, .int .i64 y1972.f1.f3] 37, Blk b5 [.int .i64 a0.f0, .slice A1 a0.f1.length c2] 27, Blk b6 [.int .i64 0, .slice none 0 0] 27, Blk b7 [.int .i64 a0.f0, .slice A818 l817.length c819] 27, Row k40 40 (.slice A2167 l2166.length c2168) l2166, Row k37 37 (.slice A818 l817.length c819) l817]) [1, 0, 2, 3, 4, 5, 6, 7, 8] 9 rfl rfl rfl ?_
       refine TK.conv (ch' := El k40 (⟨y2340.f0, y2340.f1, y2340.f2, y2340.f3, y2340.f4, (([] : List Int) ++ y2340.f5)⟩ : S40) [.int .i64 y2340.f0, .int .i64 y2340.f1, .int .i64 y2340.f2, .int .i64 y2340.f3, .int .i64 y2340.f4, .slice A2357 (([] : List Int) ++ y2340.f5).length c2358]) (fun B W F hh => k40_mkM W B F (⟨y2340.f0, y2340.f1, y2340.f2, y2340.f3, y2340.f4, (([] : List Int) ++ y2340.f5)⟩ : S40) hh) ?_
       refine TK.sel (Ls := [Row k40 40 (.slice A2167 l2166.length c2168) l2166, El k40 (⟨y2340.f0, y2340.f1, y2340.f2, y2340.f3, y2340.f4, (([] : List Int) ++ y2340.f5)⟩ : S40) [.int .i64 y2340.f0, .int .i64 y2340.f1, .int .i64 y2340.f2, .int .i64 y2340.f3, .int .i64 y2340.f4, .slice A2357 (([] : List Int) ++ y2340.f5).length c2358], Blk b2359 [.int .i64 y2340.f0, .int .i64 y2340.f1, .int .i64 y2340.f2, .int .i64 y2340.f3, .int .i64 y2340.f4, .slice A2357 (([] : List Int) ++ y2340.f5).length c2358] 40, Blk b2353 [.int .i64 y2340.f0, .int .i64 y2340.f1, .int .i64 y2340.f2, .int .i64 y2340.f3, .int .i64 y2340.f4, .slice A2357 (([] : List Int) ++ y2340.f5).length c2358] 40, Blk b1985 [.slice A2167 l2166.length c2168, .int .i64 y1972.f1.f0, .int .i64 y1972.f1.f1, .int .i64 y1972.f1.f2, .int .i64 y1972.f1.f3] 37, Blk b5 [.int .i64 a0.f0, .slice A1 a0.f1.length c2] 27, Blk b6 [.int .i64 0, .slice none 0 0] 27, Blk b7 [.int .i64 a0.f0, .slice A818 l817.length c819] 27, Row k37 37 (.slice A818 l817.length c819) l817]) [7, 0, 1, 2, 3, 4, 5, 6, 8] 9 rfl rfl rfl ?_
       obtain ⟨ha2360, h⟩ := ite_no h
       refine TL.cons (TL.append (xs := l2166) k40 rfl rfl Tryd.underlying33 inf40 rfl (Nat.le_of_ble_eq_true rfl) (Nat.le_of_ble_eq_true rfl) rfl rfl (by omega) (fun A2361 c2362 => ?_))
       refine TL.cons (TO.val rfl rfl rfl (Val.fieldAddrB Tryd.underlying37 rfl fsz33 rfl rfl rfl) ?_)
       refine TL.cons (TL.store 2 (ds := [.slice A2361 (l2166 ++ [(⟨y2340.f0, y2340.f1, y2340.f2, y2340.f3, y2340.f4, (([] : List Int) ++ y2340.f5)⟩ : S40)]).length c2362]) (cs' := [.slice A2361 (l2166 ++ [(⟨y2340.f0, y2340.f1, y2340.f2, y2340.f3, y2340.f4, (([] : List Int) ++ y2340.f5)⟩ : S40)]).length c2362, .int .i64 y1972.f1.f0, .int .i64 y1972.f1.f1, .int .i64 y1972.f1.f2, .int .i64 y1972.f1.f3]) (L' := (Row k40 40 (.slice A2361 (l2166 ++ [(⟨y2340.f0, y2340.f1, y2340.f2, y2340.f3, y2340.f4, (([] : List Int) ++ y2340.f5)⟩ : S40)]).length c2362) (l2166 ++ [(⟨y2340.f0, y2340.f1, y2340.f2, y2340.f3, y2340.f4, (([] : List Int) ++ y2340.f5)⟩ : S40)]) :: Blk b2353 [.int .i64 y2340.f0, .int .i64 y2340.f1, .int .i64 y2340.f2, .int .i64 y2340.f3, .int .i64 y2340.f4, .slice A2357 (([] : List Int) ++ y2340.f5).length c2358] 40 :: Blk b1985 [.slice A2361 (l2166 ++ [(⟨y2340.f0, y2340.f1, y2340.f2, y2340.f3, y2340.f4, (([] : List Int) ++ y2340.f5)⟩ : S40)]).length c2362, .int .i64 y1972.f1.f0, .int .i64 y1972.f1.f1, .int .i64 y1972.f1.f2, .int .i64 y1972.f1.f3] 37 :: Blk b5 [.int .i64 a0.f0, .slice A1 a0.f1.length c2] 27 :: Blk b6 [.int .i64 0, .slice none 0 0] 27 :: Blk b7 [.int .i64 a0.f0, .slice A818 l817.length c819] 27 :: Row k37 37 (.slice A818 l817.length c819) l817 :: L)) rfl fsz33 rfl rfl rfl rfl rfl (Nat.le_of_ble_eq_true rfl) rfl rfl ?_)
       refine TL.nil ?_
       refine TQ.inB ?_
       refine TQ.then_ ?_
       refine TC.region ?_
       refine TL.cons (TO.val rfl rfl rfl (Val.move rfl) ?_)
       refine TL.cons (TO.val rfl rfl rfl (Val.cmp rfl rfl run_add) ?_)
       refine TL.cons (TO.val rfl rfl rfl (Val.assign rfl) ?_)
       refine TL.nil ?_
       exact fun a W hF hO => ⟨IntKind.i64.wrap (x2165 + 1), (l2166 ++ [(⟨y2340.f0, y2340.f1, y2340.f2, y2340.f3, y2340.f4, (([] : List Int) ++ y2340.f5)⟩ : S40)]), A2361, c2362, h, hF.sub ⟨rfl, rfl, rfl, rfl, rfl, rfl, trivial⟩, hO.selT (Ls := [Blk b1985 [.slice A2361 (l2166 ++ [(⟨y2340.f0, y2340.f1, y2340.f2, y2340.f3, y2340.f4, (([] : List Int) ++ y2340.f5)⟩ : S40)]).length c2362, .int .i64 y1972.f1.f0, .int .i64 y1972.f1.f1, .int .i64 y1972.f1.f2, .int .i64 y1972.f1.f3] 37, Blk b5 [.int .i64 a0.f0, .slice A1 a0.f1.length c2] 27, Blk b6 [.int .i64 0, .slice none 0 0] 27, Blk b7 [.int .i64 a0.f0, .slice A818 l817.length c819] 27, Row k40 40 (.slice A2361 (l2166 ++ [(⟨y2340.f0, y2340.f1, y2340.f2, y2340.f3, y2340.f4, (([] : List Int) ++ y2340.f5)⟩ : S40)]).length c2362) (l2166 ++ [(⟨y2340.f0, y2340.f1, y2340.f2, y2340.f3, y2340.f4, (([] : List Int) ++ y2340.f5)⟩ : S40)]), Row k37 37 (.slice A818 l817.length c819) l817]) [2, 3, 4, 5, 0, 6] 7 rfl rfl rfl⟩
      ·
       refine TC.exit ?_
       refine TQ.thenX ?_
       refine TQ.thenX ?_
       refine TQ.inBX ?_
       exact fun a W hF hO => ⟨l2166, A2167, c2168, Option.some.inj h, hF.sub ⟨rfl, rfl, rfl, rfl, rfl, trivial⟩, hO.selT (Ls := [Blk b1985 [.slice A2167 l2166.length c2168, .int .i64 y1972.f1.f0, .int .i64 y1972.f1.f1, .int .i64 y1972.f1.f2, .int .i64 y1972.f1.f3] 37, Blk b5 [.int .i64 a0.f0, .slice A1 a0.f1.length c2] 27, Blk b6 [.int .i64 0, .slice none 0 0] 27, Blk b7 [.int .i64 a0.f0, .slice A818 l817.length c819] 27, Row k40 40 (.slice A2167 l2166.length c2168) l2166, Row k37 37 (.slice A818 l817.length c819) l817]) [0, 1, 2, 3, 4, 5] 6 rfl rfl rfl⟩
   ·
    refine TC.exit ?_
    refine TQ.thenX ?_
    refine TQ.thenX ?_
    refine TQ.inBX ?_
    exact fun a W hF hO => ⟨l817, A818, c819, Option.some.inj h, hF.sub ⟨rfl, rfl, trivial⟩, hO.selT (Ls := [Blk b6 [.int .i64 0, .slice none 0 0] 27, Blk b7 [.int .i64 a0.f0, .slice A818 l817.length c819] 27, Row k37 37 (.slice A818 l817.length c819) l817]) [1, 2, 3] 4 rfl rfl rfl⟩
end Go.Proofs.YtmacdhkfgoahcaaDoor.Sy
set_option linter.unusedVariables false
set_option linter.unusedSimpArgs false
set_option maxRecDepth 100000
set_option maxHeartbeats 4000000
namespace Go.Proofs.YtmacdhkfgoahcaaDoor.Sy
open Go Go.RowKit Go.Proofs.YtmacdhkfgoahcaaDoorW.PrintWords 
def slices_Clone_api_Block_api_Block.f (a0 : (List S37)) : Option (List S37) := (if ([] : List S37).length + a0.length ≤ 2513169434916 then some (([] : List S37) ++ a0) else none)
def slices_Clone_api_Block_api_Block.post (G : Gd)  (r : (List S37)) (v : Value) (G' : Gd) (Lr : List Ch) : Prop := G = G' ∧ ∃ (A_1 : Option Addr) (c_1 : Nat), v = .slice A_1 r.length c_1 ∧ Lr = [Row (Sh G k37) 37 (.slice A_1 r.length c_1) r]
theorem slices_Clone_api_Block_api_Block.calls {G : Gd} {r : (List S37)} {a0 : (List S37)} {A1 : Option Addr} {c2 : Nat} (hr3 : Rd G k37 A1 a0) (hl4 : a0.length ≤ c2) (h : slices_Clone_api_Block_api_Block.f a0 = some r) : Fn Tryd.prog 37 G [] [.slice A1 a0.length c2] (slices_Clone_api_Block_api_Block.post G  r) := by
 refine Fn.intro (e := [(0, .slice A1 a0.length c2)]) 8 Tryd.func37 rfl Tryd.ntmps37 rfl rfl (Nat.le_of_ble_eq_true rfl) (fun L => ?_)
 unfold slices_Clone_api_Block_api_Block.f at h
 refine TC.seq ?_
 refine TC.region ?_
 refine TL.cons (TO.val rfl rfl rfl (Val.assign rfl) ?_)
 refine TL.nil ?_
 refine TQ.then_ ?_
 refine TC.seq ?_
 refine TC.seq ?_
 refine TC.region ?_
 refine TL.cons (TO.val rfl rfl rfl (Val.move rfl) ?_)
 refine TL.cons (TO.val rfl rfl rfl (Val.eqNil Tryd.underlying25 rfl) ?_)
 refine TL.nil ?_
 refine TQ.then_ ?_
 refine TC.cond rfl (fun hc6 => ?_) (fun hc6 => ?_)
 ·
  have hn := Rd.nilEq hr3 hc6
  have h : some ([] : List S37) = some r := by first | (simpa [hn] using h) | (simp [hn] at h; simp [h, hn])
  refine TC.seq ?_
  refine TC.region ?_
  refine TL.cons (TO.val rfl rfl rfl (Val.assign rfl) ?_)
  refine TL.nil ?_
  refine TQ.then_ ?_
  refine TC.ret ?_
  refine TQ.thenR ?_
  refine TQ.nilRow (Sh G k37) 37 ?_
  obtain rfl := Option.some.inj h
  exact TQ.fin (.inl rfl) rfl Tryd.results37 (.tmp rfl .nil) rfl (FRel.mk (Ls := [Row (Sh G k37) 37 (.slice none 0 0) ([] : List S37)]) [0] 1 (Gd.le.refl _) rfl rfl rfl ⟨rfl, none, 0, rfl, rfl⟩)
 ·
  refine TC.skip ?_
  refine TQ.then_ ?_
  refine TC.seq ?_
  refine TC.region ?_
  refine TL.cons (TL.buildSlice0 k37 rfl rfl Tryd.underlying25 zs37 (fun b8 => ?_))
  refine TL.cons (TO.val rfl rfl rfl (Val.move rfl) ?_)
  refine TK.conv (ch' := Row (Sh G k37) 37 (.slice (some ⟨b8, 0, none⟩) 0 0) ([] : List S37)) (fun B W F hh => Row.empty k37 (Sh G k37) rfl B W F hh) ?_
  obtain ⟨ha10, h⟩ := ite_no h
  refine TL.cons (TL.appendR (xs := ([] : List S37)) (ys := a0) (Sh G k37) (Sh G k37) rfl rfl Tryd.underlying25 inf37 rfl (Nat.le_of_ble_eq_true rfl) (Nat.le_of_ble_eq_true rfl) rfl rfl (by omega) (Rd.sh hr3) rfl (fun _ _ _ _ _ h => h) (fun A11 c12 => ?_))
  refine TL.cons (TO.val rfl rfl rfl (Val.assign rfl) ?_)
  refine TL.nil ?_
  refine TQ.then_ ?_
  refine TC.ret ?_
  obtain rfl := Option.some.inj h
  exact TQ.fin (.inl rfl) rfl Tryd.results37 (.tmp rfl .nil) rfl (FRel.mk (Ls := [Row (Sh G k37) 37 (.slice A11 (([] : List S37) ++ a0).length c12) (([] : List S37) ++ a0)]) [0] 1 (Gd.le.refl _) rfl rfl rfl ⟨rfl, A11, c12, rfl, rfl⟩)
end Go.Proofs.YtmacdhkfgoahcaaDoor.Sy
set_option linter.unusedVariables false
set_option linter.unusedSimpArgs false
set_option maxRecDepth 100000
set_option maxHeartbeats 4000000
namespace Go.Proofs.YtmacdhkfgoahcaaDoor.Sy
open Go Go.RowKit Go.Proofs.YtmacdhkfgoahcaaDoorW.PrintWords 
def slices_Clone_api_Op_api_Op.f (a0 : (List S40)) : Option (List S40) := (if ([] : List S40).length + a0.length ≤ 2199023255552 then some (([] : List S40) ++ a0) else none)
def slices_Clone_api_Op_api_Op.post (G : Gd)  (r : (List S40)) (v : Value) (G' : Gd) (Lr : List Ch) : Prop := G = G' ∧ ∃ (A_1 : Option Addr) (c_1 : Nat), v = .slice A_1 r.length c_1 ∧ Lr = [Row (Sh G k40) 40 (.slice A_1 r.length c_1) r]
theorem slices_Clone_api_Op_api_Op.calls {G : Gd} {r : (List S40)} {a0 : (List S40)} {A1 : Option Addr} {c2 : Nat} (hr3 : Rd G k40 A1 a0) (hl4 : a0.length ≤ c2) (h : slices_Clone_api_Op_api_Op.f a0 = some r) : Fn Tryd.prog 38 G [] [.slice A1 a0.length c2] (slices_Clone_api_Op_api_Op.post G  r) := by
 refine Fn.intro (e := [(0, .slice A1 a0.length c2)]) 8 Tryd.func38 rfl Tryd.ntmps38 rfl rfl (Nat.le_of_ble_eq_true rfl) (fun L => ?_)
 unfold slices_Clone_api_Op_api_Op.f at h
 refine TC.seq ?_
 refine TC.region ?_
 refine TL.cons (TO.val rfl rfl rfl (Val.assign rfl) ?_)
 refine TL.nil ?_
 refine TQ.then_ ?_
 refine TC.seq ?_
 refine TC.seq ?_
 refine TC.region ?_
 refine TL.cons (TO.val rfl rfl rfl (Val.move rfl) ?_)
 refine TL.cons (TO.val rfl rfl rfl (Val.eqNil Tryd.underlying33 rfl) ?_)
 refine TL.nil ?_
 refine TQ.then_ ?_
 refine TC.cond rfl (fun hc6 => ?_) (fun hc6 => ?_)
 ·
  have hn := Rd.nilEq hr3 hc6
  have h : some ([] : List S40) = some r := by first | (simpa [hn] using h) | (simp [hn] at h; simp [h, hn])
  refine TC.seq ?_
  refine TC.region ?_
  refine TL.cons (TO.val rfl rfl rfl (Val.assign rfl) ?_)
  refine TL.nil ?_
  refine TQ.then_ ?_
  refine TC.ret ?_
  refine TQ.thenR ?_
  refine TQ.nilRow (Sh G k40) 40 ?_
  obtain rfl := Option.some.inj h
  exact TQ.fin (.inl rfl) rfl Tryd.results38 (.tmp rfl .nil) rfl (FRel.mk (Ls := [Row (Sh G k40) 40 (.slice none 0 0) ([] : List S40)]) [0] 1 (Gd.le.refl _) rfl rfl rfl ⟨rfl, none, 0, rfl, rfl⟩)
 ·
  refine TC.skip ?_
  refine TQ.then_ ?_
  refine TC.seq ?_
  refine TC.region ?_
  refine TL.cons (TL.buildSlice0 k40 rfl rfl Tryd.underlying33 zs40 (fun b8 => ?_))
  refine TL.cons (TO.val rfl rfl rfl (Val.move rfl) ?_)
  refine TK.conv (ch' := Row (Sh G k40) 40 (.slice (some ⟨b8, 0, none⟩) 0 0) ([] : List S40)) (fun B W F hh => Row.empty k40 (Sh G k40) rfl B W F hh) ?_
  obtain ⟨ha10, h⟩ := ite_no h
  refine TL.cons (TL.appendR (xs := ([] : List S40)) (ys := a0) (Sh G k40) (Sh G k40) rfl rfl Tryd.underlying33 inf40 rfl (Nat.le_of_ble_eq_true rfl) (Nat.le_of_ble_eq_true rfl) rfl rfl (by omega) (Rd.sh hr3) rfl (fun _ _ _ _ _ h => h) (fun A11 c12 => ?_))
  refine TL.cons (TO.val rfl rfl rfl (Val.assign rfl) ?_)
  refine TL.nil ?_
  refine TQ.then_ ?_
  refine TC.ret ?_
  obtain rfl := Option.some.inj h
  exact TQ.fin (.inl rfl) rfl Tryd.results38 (.tmp rfl .nil) rfl (FRel.mk (Ls := [Row (Sh G k40) 40 (.slice A11 (([] : List S40) ++ a0).length c12) (([] : List S40) ++ a0)]) [0] 1 (Gd.le.refl _) rfl rfl rfl ⟨rfl, A11, c12, rfl, rfl⟩)
end Go.Proofs.YtmacdhkfgoahcaaDoor.Sy
set_option linter.unusedVariables false
set_option linter.unusedSimpArgs false
set_option maxRecDepth 100000
set_option maxHeartbeats 4000000
namespace Go.Proofs.YtmacdhkfgoahcaaDoor.Sy
open Go Go.RowKit Go.Proofs.YtmacdhkfgoahcaaDoorW.PrintWords 
def slices_Clone_int_int.f (a0 : (List Int)) : Option (List Int) := (if ([] : List Int).length + a0.length ≤ 17592186044416 then some (([] : List Int) ++ a0) else none)
def slices_Clone_int_int.post (G : Gd)  (r : (List Int)) (v : Value) (G' : Gd) (Lr : List Ch) : Prop := G = G' ∧ ∃ (A_1 : Option Addr) (c_1 : Nat), v = .slice A_1 r.length c_1 ∧ Lr = [Row (Kd.int .i64) 3 (.slice A_1 r.length c_1) r]
theorem slices_Clone_int_int.calls {G : Gd} {r : (List Int)} {a0 : (List Int)} {A1 : Option Addr} {c2 : Nat} (hr3 : Rd G (Kd.int .i64) A1 a0) (hl4 : a0.length ≤ c2) (h : slices_Clone_int_int.f a0 = some r) : Fn Tryd.prog 39 G [] [.slice A1 a0.length c2] (slices_Clone_int_int.post G  r) := by
 refine Fn.intro (e := [(0, .slice A1 a0.length c2)]) 8 Tryd.func39 rfl Tryd.ntmps39 rfl rfl (Nat.le_of_ble_eq_true rfl) (fun L => ?_)
 unfold slices_Clone_int_int.f at h
 refine TC.seq ?_
 refine TC.region ?_
 refine TL.cons (TO.val rfl rfl rfl (Val.assign rfl) ?_)
 refine TL.nil ?_
 refine TQ.then_ ?_
 refine TC.seq ?_
 refine TC.seq ?_
 refine TC.region ?_
 refine TL.cons (TO.val rfl rfl rfl (Val.move rfl) ?_)
 refine TL.cons (TO.val rfl rfl rfl (Val.eqNil Tryd.underlying38 rfl) ?_)
 refine TL.nil ?_
 refine TQ.then_ ?_
 refine TC.cond rfl (fun hc6 => ?_) (fun hc6 => ?_)
 ·
  have hn := Rd.nilEq hr3 hc6
  have h : some ([] : List Int) = some r := by first | (simpa [hn] using h) | (simp [hn] at h; simp [h, hn])
  refine TC.seq ?_
  refine TC.region ?_
  refine TL.cons (TO.val rfl rfl rfl (Val.assign rfl) ?_)
  refine TL.nil ?_
  refine TQ.then_ ?_
  refine TC.ret ?_
  refine TQ.thenR ?_
  refine TQ.nilRow (Kd.int .i64) 3 ?_
  obtain rfl := Option.some.inj h
  exact TQ.fin (.inl rfl) rfl Tryd.results39 (.tmp rfl .nil) rfl (FRel.mk (Ls := [Row (Kd.int .i64) 3 (.slice none 0 0) ([] : List Int)]) [0] 1 (Gd.le.refl _) rfl rfl rfl ⟨rfl, none, 0, rfl, rfl⟩)
 ·
  refine TC.skip ?_
  refine TQ.then_ ?_
  refine TC.seq ?_
  refine TC.region ?_
  refine TL.cons (TL.buildSlice0 (Kd.int .i64) rfl rfl Tryd.underlying38 zs3 (fun b8 => ?_))
  refine TL.cons (TO.val rfl rfl rfl (Val.move rfl) ?_)
  obtain ⟨ha10, h⟩ := ite_no h
  refine TL.cons (TL.appendR (xs := ([] : List Int)) (ys := a0) (Kd.int .i64) (Kd.int .i64) rfl rfl Tryd.underlying38 inf3 rfl (Nat.le_of_ble_eq_true rfl) (Nat.le_of_ble_eq_true rfl) rfl rfl (by omega) hr3 rfl (fun _ _ _ _ _ h => h) (fun A11 c12 => ?_))
  refine TL.cons (TO.val rfl rfl rfl (Val.assign rfl) ?_)
  refine TL.nil ?_
  refine TQ.then_ ?_
  refine TC.ret ?_
  obtain rfl := Option.some.inj h
  exact TQ.fin (.inl rfl) rfl Tryd.results39 (.tmp rfl .nil) rfl (FRel.mk (Ls := [Row (Kd.int .i64) 3 (.slice A11 (([] : List Int) ++ a0).length c12) (([] : List Int) ++ a0)]) [0] 1 (Gd.le.refl _) rfl rfl rfl ⟨rfl, A11, c12, rfl, rfl⟩)
end Go.Proofs.YtmacdhkfgoahcaaDoor.Sy
set_option linter.unusedVariables false
set_option linter.unusedSimpArgs false
set_option maxRecDepth 100000
set_option maxHeartbeats 4000000
namespace Go.Proofs.YtmacdhkfgoahcaaDoor.Sy
open Go Go.RowKit Go.Proofs.YtmacdhkfgoahcaaDoorW.PrintWords 
def code_Copy.l1 (y4885 : (List S40)) : Nat → (List S40) → Int → Option ((List S40))
 | 0, _, _ => none
 | n5285 + 1, l5206, x5211 => (if x5211 < (y4885.length : Int) then (at? l5206 x5211).bind fun y5403 => (slices_Clone_int_int.f y5403.f5).bind fun (y5417 : (List Int)) => (at? l5206 x5211).bind fun y5422 => code_Copy.l1 y4885 n5285 (l5206.set x5211.toNat (⟨y5422.f0, y5422.f1, y5422.f2, y5422.f3, y5422.f4, y5417⟩ : S40)) (IntKind.i64.wrap (x5211 + 1)) else some l5206)
def code_Copy.l0 (y7 : (List S37)) : Nat → (List S37) → Int → Option ((List S37))
 | 0, _, _ => none
 | n3749 + 1, l3053, x3058 => (if x3058 < (y7.length : Int) then (at? l3053 x3058).bind fun y4871 => (slices_Clone_api_Op_api_Op.f y4871.f0).bind fun (y4885 : (List S40)) => (code_Copy.l1 y4885 (y4885.length + 1) y4885 0).bind fun (l5280 : (List S40)) => (at? l3053 x3058).bind fun y5354 => code_Copy.l0 y7 n3749 (l3053.set x3058.toNat (⟨l5280, y5354.f1⟩ : S37)) (IntKind.i64.wrap (x3058 + 1)) else some l3053)
def code_Copy.f (a0 : S27) : Option S27 := (slices_Clone_api_Block_api_Block.f a0.f1).bind fun (y7 : (List S37)) => (code_Copy.l0 y7 (y7.length + 1) y7 0).bind fun (l3744 : (List S37)) => some (⟨a0.f0, l3744⟩ : S27)
def code_Copy.post (G : Gd)  (r : S27) (v : Value) (G' : Gd) (Lr : List Ch) : Prop := G = G' ∧ ∃ (A_1 : Option Addr) (c_1 : Nat), v = .agg #[.int .i64 r.f0, .slice A_1 r.f1.length c_1] ∧ Lr = [Row k37 37 (.slice A_1 r.f1.length c_1) r.f1]
theorem code_Copy.calls {G : Gd} {r : S27} {a0 : S27} {A1 : Option Addr} {c2 : Nat} (hr3 : Rd G k37 A1 a0.f1) (hl4 : a0.f1.length ≤ c2) (h : code_Copy.f a0 = some r) : Fn Tryd.prog 10 G [] [.agg #[.int .i64 a0.f0, .slice A1 a0.f1.length c2]] (code_Copy.post G  r) := by
 refine Fn.intro (e := [(0, .agg #[.int .i64 a0.f0, .slice A1 a0.f1.length c2])]) 46 Tryd.func10 rfl Tryd.ntmps10 rfl rfl (Nat.le_of_ble_eq_true rfl) (fun L => ?_)
 unfold code_Copy.f at h
 refine TC.seq ?_
 refine TC.region ?_
 refine TL.cons (TL.box (cs := [.int .i64 a0.f0, .slice A1 a0.f1.length c2]) rfl rfl rfl rfl (fun b5 => ?_))
 refine TL.cons (TL.alloc (cs := [.int .i64 0, .slice none 0 0]) rfl rfl zr27 rfl (fun b6 => ?_))
 refine TL.nil ?_
 refine TQ.then_ ?_
 refine TC.seq ?_
 refine TC.region ?_
 refine TL.cons (TO.val rfl rfl rfl (Val.fieldAddrB Tryd.underlying27 rfl fsz25 rfl rfl rfl) ?_)
 refine TL.cons (TO.val rfl rfl rfl (Val.loadB 1 agg25 rfl rfl rfl) ?_)
 obtain ⟨y7, hy8, h⟩ := bind_no h
 refine TL.cons (TL.callV (Lin := []) (args := [.slice A1 a0.f1.length c2]) rfl rfl rfl hbd37 rfl rfl (slices_Clone_api_Block_api_Block.calls (a0 := a0.f1) hr3 hl4 hy8) rfl ?_)
 rintro _ _ _ _ ⟨rfl, A9, c10, rfl, rfl⟩
 refine TL.cons (TO.val rfl rfl rfl (Val.fieldAddrB Tryd.underlying27 rfl fsz25 rfl rfl rfl) ?_)
 refine TL.cons (TL.store 2 (ds := [.slice A9 y7.length c10]) (cs' := [.int .i64 a0.f0, .slice A9 y7.length c10]) (L' := (Row (Sh G k37) 37 (.slice A9 y7.length c10) y7 :: Blk b6 [.int .i64 0, .slice none 0 0] 27 :: Blk b5 [.int .i64 a0.f0, .slice A9 y7.length c10] 27 :: L)) rfl fsz25 rfl rfl rfl rfl rfl (Nat.le_of_ble_eq_true rfl) rfl rfl ?_)
 refine TL.nil ?_
 refine TQ.then_ ?_
 refine TC.seq ?_
 refine TC.seq ?_
 refine TC.region ?_
 refine TL.cons (TO.val rfl rfl rfl (Val.fieldAddrB Tryd.underlying27 rfl fsz25 rfl rfl rfl) ?_)
 refine TL.cons (TO.val rfl rfl rfl (Val.loadB 2 agg25 rfl rfl rfl) ?_)
 refine TL.cons (TO.val rfl rfl rfl (Val.len Tryd.underlying25 rfl) ?_)
 refine TL.cons (TO.val rfl rfl rfl (Val.move rfl) ?_)
 refine TL.nil ?_
 refine TQ.then_ ?_
 refine TC.conv (ch' := Row (Tg G k37) 37 (.slice A9 y7.length c10) (mixl 0 y7)) (fun B W F hh => Row.mix0 B W F hh) ?_
 obtain ⟨o3748, ho3748, ko3748⟩ := bind_no h
 clear h
 refine TC.tail (fun a W => ∃ (l3744 : (List S37)) (A3745 : Option Addr) (c3746 : Nat), l3744 = o3748 ∧ Fr 46 a [(1, .pointer (some ⟨b5, 0, none⟩)), (2, .pointer (some ⟨b6, 0, none⟩))] ∧ Own G (Blk b5 [.int .i64 a0.f0, .slice A3745 l3744.length c3746] 27 :: Blk b6 [.int .i64 0, .slice none 0 0] 27 :: Row k37 37 (.slice A3745 l3744.length c3746) l3744 :: L) W) ?_ ?_
 ·
  rintro a W ⟨l3744, A3745, c3746, rfl, hF, hO⟩
  have h := ko3748
  clear ko3748 ho3748
  refine TQ.use ?_ hF hO
  clear hF hO
  refine TQ.then_ ?_
  refine TC.seq ?_
  refine TC.region ?_
  refine TL.cons (TO.val rfl rfl rfl (Val.loadsB 0 (cs := [.int .i64 a0.f0, .slice A3745 l3744.length c3746]) agg27 fsz27 rfl rfl rfl rfl) ?_)
  refine TL.cons (TL.store 1 (ds := [.int .i64 a0.f0, .slice A3745 l3744.length c3746]) (cs' := [.int .i64 a0.f0, .slice A3745 l3744.length c3746]) (L' := (Blk b5 [.int .i64 a0.f0, .slice A3745 l3744.length c3746] 27 :: Blk b6 [.int .i64 a0.f0, .slice A3745 l3744.length c3746] 27 :: Row k37 37 (.slice A3745 l3744.length c3746) l3744 :: L)) rfl fsz27 rfl rfl rfl rfl rfl (Nat.le_of_ble_eq_true rfl) rfl rfl ?_)
  refine TL.nil ?_
  refine TQ.then_ ?_
  refine TC.ret ?_
  obtain rfl := Option.some.inj h
  exact TQ.fin (.inl rfl) rfl Tryd.results10 (.cells 1 rfl rfl agg27 fsz27 .nil) rfl (FRel.mk (Ls := [Row k37 37 (.slice A3745 l3744.length c3746) l3744]) [2] 3 (Gd.le.refl _) rfl rfl rfl ⟨rfl, A3745, c3746, rfl, rfl⟩)
 ·
  refine TC.block ?_
  intro a W hF hO
  have hS : ∃ (l3053 : (List S37)) (x3058 : Int) (A3054 : Option Addr) (c3055 : Nat), code_Copy.l0 y7 (y7.length + 1) l3053 x3058 = some o3748 ∧ l3053.length = y7.length ∧ Fr 46 a [(1, .pointer (some ⟨b5, 0, none⟩)), (2, .pointer (some ⟨b6, 0, none⟩)), (13, .slice A3054 l3053.length c3055), (14, .int .i64 (y7.length : Int)), (15, .int .i64 x3058)] ∧ Own G (Blk b5 [.int .i64 a0.f0, .slice A3054 l3053.length c3055] 27 :: Blk b6 [.int .i64 0, .slice none 0 0] 27 :: Row (Tg G k37) 37 (.slice A3054 l3053.length c3055) (mixl x3058 l3053) :: L) W := by
   exact ⟨y7, 0, A9, c10, ho3748, (by first | rfl | assumption | (simp only [List.length_set]; first | rfl | assumption)), hF.sub ⟨rfl, rfl, rfl, rfl, rfl, trivial⟩, hO.selT (Ls := [Blk b5 [.int .i64 a0.f0, .slice A9 y7.length c10] 27, Blk b6 [.int .i64 0, .slice none 0 0] 27, Row (Tg G k37) 37 (.slice A9 y7.length c10) (mixl 0 y7)]) [2, 1, 0] 3 rfl rfl rfl⟩
  clear hF hO ho3748 ko3748
  refine TC.loop (fun n3749 a W => ∃ (l3053 : (List S37)) (x3058 : Int) (A3054 : Option Addr) (c3055 : Nat), code_Copy.l0 y7 n3749 l3053 x3058 = some o3748 ∧ l3053.length = y7.length ∧ Fr 46 a [(1, .pointer (some ⟨b5, 0, none⟩)), (2, .pointer (some ⟨b6, 0, none⟩)), (13, .slice A3054 l3053.length c3055), (14, .int .i64 (y7.length : Int)), (15, .int .i64 x3058)] ∧ Own G (Blk b5 [.int .i64 a0.f0, .slice A3054 l3053.length c3055] 27 :: Blk b6 [.int .i64 0, .slice none 0 0] 27 :: Row (Tg G k37) 37 (.slice A3054 l3053.length c3055) (mixl x3058 l3053) :: L) W) ?_ ?_ hS
  ·
   rintro a W ⟨l3053, x3058, A3054, c3055, h, hl3057, hF, hO⟩
   exact none_no h
  ·
   clear hS
   rintro n3749 a W ⟨l3053, x3058, A3054, c3055, h, hl3057, hF, hO⟩
   rw [code_Copy.l0] at h
   refine TC.use ?_ hF hO
   clear hF hO
   refine TC.seq ?_
   refine TC.region ?_
   refine TL.cons (TO.val rfl rfl rfl (Val.cmp rfl rfl run_lss) ?_)
   refine TL.nil ?_
   refine TQ.then_ ?_
   refine TC.seq ?_
   refine TC.cond_p rfl h (fun hc4436 h => ?_) (fun hc4436 h => ?_)
   ·
    refine TC.skip ?_
    refine TQ.then_ ?_
    refine TC.seq ?_
    refine TC.block ?_
    refine TC.seq ?_
    refine TC.region ?_
    refine TL.cons (TO.val rfl rfl rfl (Val.move rfl) ?_)
    refine TK.sel (Ls := [Row (Tg G k37) 37 (.slice A3054 l3053.length c3055) (mixl x3058 l3053), Blk b5 [.int .i64 a0.f0, .slice A3054 l3053.length c3055] 27, Blk b6 [.int .i64 0, .slice none 0 0] 27]) [2, 0, 1] 3 rfl rfl rfl ?_
    refine TK.share (fun G4864 e4865 hs4866 hb4867 => ?_)
    have rd4868 : Rd G4864 k37 A3054 l3053 := Rd.mixed (Rd.row hs4866) e4865
    have le4869 : l3053.length ≤ c3055 := (by have h_ := Row.le hs4866; rwa [mixl_length] at h_)
    have rd4870 := Rd.row hs4866
    obtain ⟨y4871, hx4872, h⟩ := bind_no h
    obtain ⟨ad4873, cs4879, hA4874, hi4875, hj4876, hcl4877, hK4878⟩ := Rd.at rd4870 (at_mixl hx4872)
    have hK4878 := Tg.shK (hK4878 _ (Gd.self _))
    rw [mixl_length] at hj4876
    obtain ⟨A4880, c4881, rfl, hr4882, hl4883⟩ := k37_openR hK4878
    refine TL.cons (TO.val rfl rfl rfl (Val.indexAddr Tryd.underlying25 fsz37 rfl hA4874 rfl hi4875 hj4876) ?_)
    refine TL.cons (TO.val rfl rfl rfl (Val.loadsS (cs := [.slice A4880 y4871.f0.length c4881, .int .i64 y4871.f1.f0, .int .i64 y4871.f1.f1, .int .i64 y4871.f1.f2, .int .i64 y4871.f1.f3]) agg37 fsz37 rfl rfl (Cl.sub (off := 0) (n := 5) hcl4877 rfl)) ?_)
    refine TL.cons (TL.alloc (cs := [.slice none 0 0, .int .i64 0, .int .i64 0, .int .i64 0, .int .i64 0]) rfl rfl zr37 rfl (fun b4884 => ?_))
    refine TL.cons (TO.val rfl rfl rfl (Val.assign rfl) ?_)
    refine TL.cons (TL.store 0 (ds := [.slice A4880 y4871.f0.length c4881, .int .i64 y4871.f1.f0, .int .i64 y4871.f1.f1, .int .i64 y4871.f1.f2, .int .i64 y4871.f1.f3]) (cs' := [.slice A4880 y4871.f0.length c4881, .int .i64 y4871.f1.f0, .int .i64 y4871.f1.f1, .int .i64 y4871.f1.f2, .int .i64 y4871.f1.f3]) (L' := (Blk b4884 [.slice A4880 y4871.f0.length c4881, .int .i64 y4871.f1.f0, .int .i64 y4871.f1.f1, .int .i64 y4871.f1.f2, .int .i64 y4871.f1.f3] 37 :: Blk b5 [.int .i64 a0.f0, .slice A3054 l3053.length c3055] 27 :: Blk b6 [.int .i64 0, .slice none 0 0] 27 :: L)) rfl fsz37 rfl rfl rfl rfl rfl (Nat.le_of_ble_eq_true rfl) rfl rfl ?_)
    refine TL.nil ?_
    refine TQ.then_ ?_
    refine TC.seq ?_
    refine TC.region ?_
    refine TL.cons (TO.val rfl rfl rfl (Val.fieldAddrB Tryd.underlying37 rfl fsz33 rfl rfl rfl) ?_)
    refine TL.cons (TO.val rfl rfl rfl (Val.loadB 0 agg33 rfl rfl rfl) ?_)
    refine TK.back hb4867 ?_
    obtain ⟨y4885, hy4886, h⟩ := bind_no h
    refine TL.cons (TL.callV (Lin := []) (args := [.slice A4880 y4871.f0.length c4881]) rfl rfl rfl hbd38 rfl rfl (slices_Clone_api_Op_api_Op.calls (a0 := y4871.f0) hr4882 hl4883 hy4886) rfl ?_)
    rintro _ _ _ _ ⟨rfl, A4887, c4888, rfl, rfl⟩
    refine TL.cons (TO.val rfl rfl rfl (Val.assign rfl) ?_)
    refine TL.nil ?_
    refine TQ.then_ ?_
    refine TC.seq ?_
    refine TC.seq ?_
    refine TC.region ?_
    refine TL.cons (TO.val rfl rfl rfl (Val.move rfl) ?_)
    refine TL.cons (TO.val rfl rfl rfl (Val.len Tryd.underlying33 rfl) ?_)
    refine TL.cons (TO.val rfl rfl rfl (Val.move rfl) ?_)
    refine TL.nil ?_
    refine TQ.then_ ?_
    refine TC.conv (ch' := Row (Tg G k40) 40 (.slice A4887 y4885.length c4888) (mixl 0 y4885)) (fun B W F hh => Row.mix0 B W F hh) ?_
    obtain ⟨o5284, ho5284, ko5284⟩ := bind_no h
    clear h
    refine TC.tail (fun a W => ∃ (l5280 : (List S40)) (A5281 : Option Addr) (c5282 : Nat), l5280 = o5284 ∧ Fr 46 a [(1, .pointer (some ⟨b5, 0, none⟩)), (2, .pointer (some ⟨b6, 0, none⟩)), (3, .int .i64 x3058), (5, .slice A5281 l5280.length c5282), (13, .slice A3054 l3053.length c3055), (14, .int .i64 (y7.length : Int)), (15, .int .i64 x3058)] ∧ Own G (Blk b5 [.int .i64 a0.f0, .slice A3054 l3053.length c3055] 27 :: Blk b6 [.int .i64 0, .slice none 0 0] 27 :: Row k40 40 (.slice A5281 l5280.length c5282) l5280 :: Row (Tg G k37) 37 (.slice A3054 l3053.length c3055) (mixl x3058 l3053) :: L) W) ?_ ?_
    ·
     rintro a W ⟨l5280, A5281, c5282, rfl, hF, hO⟩
     have h := ko5284
     clear ko5284 ho5284
     refine TQ.use ?_ hF hO
     clear hF hO
     refine TQ.then_ ?_
     refine TC.region ?_
     refine TL.cons (TO.val rfl rfl rfl (Val.fieldAddrB Tryd.underlying27 rfl fsz25 rfl rfl rfl) ?_)
     refine TL.cons (TO.val rfl rfl rfl (Val.loadB 0 agg25 rfl rfl rfl) ?_)
     refine TL.cons (TO.val rfl rfl rfl (Val.move rfl) ?_)
     refine TL.cons (TO.val rfl rfl rfl (Val.move rfl) ?_)
     obtain ⟨y5354, hy5355, h⟩ := bind_no h
     refine TK.opened 3 rfl (at_mixl hy5355) (fun b5356 hA5357 hi5358 hj5359 => ?_)
     refine TL.cons (TO.val rfl rfl rfl (Val.indexAddrW Tryd.underlying25 fsz37 rfl hA5357 rfl hi5358 hj5359) ?_)
     refine TL.cons (TO.val rfl rfl rfl (Val.fieldAddrB Tryd.underlying37 rfl fsz33 rfl rfl rfl) ?_)
     refine TK.sel (Ls := [Row k40 40 (.slice A5281 l5280.length c5282) l5280, Blk b5 [.int .i64 a0.f0, .slice A3054 l3053.length c3055] 27, Blk b6 [.int .i64 0, .slice none 0 0] 27, Row (Tg G k37) 37 (.slice A3054 l3053.length c3055) (mixl x3058 l3053)]) [2, 0, 1, 3] 4 rfl rfl rfl ?_
     refine TK.sel (Ls := [Row (Tg G k37) 37 (.slice A3054 l3053.length c3055) (mixl x3058 l3053), Row k40 40 (.slice A5281 l5280.length c5282) l5280, Blk b5 [.int .i64 a0.f0, .slice A3054 l3053.length c3055] 27, Blk b6 [.int .i64 0, .slice none 0 0] 27]) [3, 0, 1, 2] 4 rfl rfl rfl ?_
     refine TL.cons (TL.storeE (Tg G k37) (xs := (mixl x3058 l3053)) (xv := ((⟨l5280, y5354.f1⟩ : S37), true)) (ds := [.slice A5281 l5280.length c5282]) rfl fsz33 hA5357 (at_mixl hy5355) rfl rfl rfl rfl (Nat.le_of_ble_eq_true rfl) (fun B W F1 F2 cs hd h1 h2 => by obtain ⟨A_, c_, rfl, _, _⟩ := k37_openR (Tg.sh h1); exact Tg.own (k37_mkM W B _ _ (Kd.R_mono h2 (fun _ => .inr)))) ?_)
     refine TK.conv (ch' := Row (Tg G k37) 37 (.slice A3054 l3053.length c3055) (mixl (IntKind.i64.wrap (x3058 + 1)) (l3053.set x3058.toNat (⟨l5280, y5354.f1⟩ : S37)))) (fun B W F hh => Row.mixset hy5355 hh) ?_
     rw [show (l3053.length : Nat) = (l3053.set x3058.toNat (⟨l5280, y5354.f1⟩ : S37)).length from by simp only [List.length_set]]
     refine TL.nil ?_
     refine TQ.inB ?_
     refine TQ.then_ ?_
     refine TC.region ?_
     refine TL.cons (TO.val rfl rfl rfl (Val.cmp rfl rfl run_add) ?_)
     refine TL.cons (TO.val rfl rfl rfl (Val.move rfl) ?_)
     refine TL.nil ?_
     exact fun a W hF hO => ⟨(l3053.set x3058.toNat (⟨l5280, y5354.f1⟩ : S37)), IntKind.i64.wrap (x3058 + 1), A3054, c3055, h, (by first | rfl | assumption | (simp only [List.length_set]; first | rfl | assumption)), hF.sub ⟨rfl, rfl, rfl, rfl, rfl, trivial⟩, hO.selT (Ls := [Blk b5 [.int .i64 a0.f0, .slice A3054 (l3053.set x3058.toNat (⟨l5280, y5354.f1⟩ : S37)).length c3055] 27, Blk b6 [.int .i64 0, .slice none 0 0] 27, Row (Tg G k37) 37 (.slice A3054 (l3053.set x3058.toNat (⟨l5280, y5354.f1⟩ : S37)).length c3055) (mixl (IntKind.i64.wrap (x3058 + 1)) (l3053.set x3058.toNat (⟨l5280, y5354.f1⟩ : S37)))]) [1, 2, 0] 3 rfl rfl rfl⟩
    ·
     refine TC.block ?_
     intro a W hF hO
     have hS : ∃ (l5206 : (List S40)) (x5211 : Int) (A5207 : Option Addr) (c5208 : Nat), code_Copy.l1 y4885 (y4885.length + 1) l5206 x5211 = some o5284 ∧ l5206.length = y4885.length ∧ Fr 46 a [(1, .pointer (some ⟨b5, 0, none⟩)), (2, .pointer (some ⟨b6, 0, none⟩)), (3, .int .i64 x3058), (5, .slice A5207 l5206.length c5208), (13, .slice A3054 l3053.length c3055), (14, .int .i64 (y7.length : Int)), (15, .int .i64 x3058), (23, .slice A5207 l5206.length c5208), (24, .int .i64 (y4885.length : Int)), (25, .int .i64 x5211)] ∧ Own G (Blk b5 [.int .i64 a0.f0, .slice A3054 l3053.length c3055] 27 :: Blk b6 [.int .i64 0, .slice none 0 0] 27 :: Row (Tg G k40) 40 (.slice A5207 l5206.length c5208) (mixl x5211 l5206) :: Row (Tg G k37) 37 (.slice A3054 l3053.length c3055) (mixl x3058 l3053) :: L) W := by
      exact ⟨y4885, 0, A4887, c4888, ho5284, (by first | rfl | assumption | (simp only [List.length_set]; first | rfl | assumption)), hF.sub ⟨rfl, rfl, rfl, rfl, rfl, rfl, rfl, rfl, rfl, rfl, trivial⟩, hO.selT (Ls := [Blk b5 [.int .i64 a0.f0, .slice A3054 l3053.length c3055] 27, Blk b6 [.int .i64 0, .slice none 0 0] 27, Row (Tg G k40) 40 (.slice A4887 y4885.length c4888) (mixl 0 y4885), Row (Tg G k37) 37 (.slice A3054 l3053.length c3055) (mixl x3058 l3053)]) [3, 4, 0, 1] 5 rfl rfl rfl⟩
     clear hF hO ho5284 ko5284
     refine TC.loop (fun n5285 a W => ∃ (l5206 : (List S40)) (x5211 : Int) (A5207 : Option Addr) (c5208 : Nat), code_Copy.l1 y4885 n5285 l5206 x5211 = some o5284 ∧ l5206.length = y4885.length ∧ Fr 46 a [(1, .pointer (some ⟨b5, 0, none⟩)), (2, .pointer (some ⟨b6, 0, none⟩)), (3, .int .i64 x3058), (5, .slice A5207 l5206.length c5208), (13, .slice A3054 l3053.length c3055), (14, .int .i64 (y7.length : Int)), (15, .int .i64 x3058), (23, .slice A5207 l5206.length c5208), (24, .int .i64 (y4885.length : Int)), (25, .int .i64 x5211)] ∧ Own G (Blk b5 [.int .i64 a0.f0, .slice A3054 l3053.length c3055] 27 :: Blk b6 [.int .i64 0, .slice none 0 0] 27 :: Row (Tg G k40) 40 (.slice A5207 l5206.length c5208) (mixl x5211 l5206) :: Row (Tg G k37) 37 (.slice A3054 l3053.length c3055) (mixl x3058 l3053) :: L) W) ?_ ?_ hS
     ·
      rintro a W ⟨l5206, x5211, A5207, c5208, h, hl5210, hF, hO⟩
      exact none_no h
     ·
      clear hS
      rintro n5285 a W ⟨l5206, x5211, A5207, c5208, h, hl5210, hF, hO⟩
      rw [code_Copy.l1] at h
      refine TC.use ?_ hF hO
      clear hF hO
      refine TC.seq ?_
      refine TC.region ?_
      refine TL.cons (TO.val rfl rfl rfl (Val.cmp rfl rfl run_lss) ?_)
      refine TL.nil ?_
      refine TQ.then_ ?_
      refine TC.seq ?_
      refine TC.cond_p rfl h (fun hc5362 h => ?_) (fun hc5362 h => ?_)
      ·
       refine TC.skip ?_
       refine TQ.then_ ?_
       refine TC.seq ?_
       refine TC.block ?_
       refine TC.seq ?_
       refine TC.region ?_
       refine TL.cons (TO.val rfl rfl rfl (Val.move rfl) ?_)
       refine TK.sel (Ls := [Row (Tg G k40) 40 (.slice A5207 l5206.length c5208) (mixl x5211 l5206), Blk b5 [.int .i64 a0.f0, .slice A3054 l3053.length c3055] 27, Blk b6 [.int .i64 0, .slice none 0 0] 27, Row (Tg G k37) 37 (.slice A3054 l3053.length c3055) (mixl x3058 l3053)]) [2, 0, 1, 3] 4 rfl rfl rfl ?_
       refine TK.share (fun G5396 e5397 hs5398 hb5399 => ?_)
       have rd5400 : Rd G5396 k40 A5207 l5206 := Rd.mixed (Rd.row hs5398) e5397
       have le5401 : l5206.length ≤ c5208 := (by have h_ := Row.le hs5398; rwa [mixl_length] at h_)
       have rd5402 := Rd.row hs5398
       obtain ⟨y5403, hx5404, h⟩ := bind_no h
       obtain ⟨ad5405, cs5411, hA5406, hi5407, hj5408, hcl5409, hK5410⟩ := Rd.at rd5402 (at_mixl hx5404)
       have hK5410 := Tg.shK (hK5410 _ (Gd.self _))
       rw [mixl_length] at hj5408
       obtain ⟨A5412, c5413, rfl, hr5414, hl5415⟩ := k40_openR hK5410
       refine TL.cons (TO.val rfl rfl rfl (Val.indexAddr Tryd.underlying33 fsz40 rfl hA5406 rfl hi5407 hj5408) ?_)
       refine TL.cons (TO.val rfl rfl rfl (Val.loadsS (cs := [.int .i64 y5403.f0, .int .i64 y5403.f1, .int .i64 y5403.f2, .int .i64 y5403.f3, .int .i64 y5403.f4, .slice A5412 y5403.f5.length c5413]) agg40 fsz40 rfl rfl (Cl.sub (off := 0) (n := 6) hcl5409 rfl)) ?_)
       refine TL.cons (TL.alloc (cs := [.int .i64 0, .int .i64 0, .int .i64 0, .int .i64 0, .int .i64 0, .slice none 0 0]) rfl rfl zr40 rfl (fun b5416 => ?_))
       refine TL.cons (TO.val rfl rfl rfl (Val.assign rfl) ?_)
       refine TL.cons (TL.store 0 (ds := [.int .i64 y5403.f0, .int .i64 y5403.f1, .int .i64 y5403.f2, .int .i64 y5403.f3, .int .i64 y5403.f4, .slice A5412 y5403.f5.length c5413]) (cs' := [.int .i64 y5403.f0, .int .i64 y5403.f1, .int .i64 y5403.f2, .int .i64 y5403.f3, .int .i64 y5403.f4, .slice A5412 y5403.f5.length c5413]) (L' := (Blk b5416 [.int .i64 y5403.f0, .int .i64 y5403.f1, .int .i64 y5403.f2, .int .i64 y5403.f3, .int .i64 y5403.f4, .slice A5412 y5403.f5.length c5413] 40 :: Blk b5 [.int .i64 a0.f0, .slice A3054 l3053.length c3055] 27 :: Blk b6 [.int .i64 0, .slice none 0 0] 27 :: Row (Tg G k37) 37 (.slice A3054 l3053.length c3055) (mixl x3058 l3053) :: L)) rfl fsz40 rfl rfl rfl rfl rfl (Nat.le_of_ble_eq_true rfl) rfl rfl ?_)
       refine TL.nil ?_
       refine TQ.then_ ?_
       refine TC.region ?_
       refine TL.cons (TO.val rfl rfl rfl (Val.move rfl) ?_)
       refine TL.cons (TO.val rfl rfl rfl (Val.move rfl) ?_)
       refine TL.cons (TO.val rfl rfl rfl (Val.fieldAddrB Tryd.underlying40 rfl fsz38 rfl rfl rfl) ?_)
       refine TL.cons (TO.val rfl rfl rfl (Val.loadB 0 agg38 rfl rfl rfl) ?_)
       obtain ⟨y5417, hy5418, h⟩ := bind_no h
       refine TL.cons (TL.callV (Lin := []) (args := [.slice A5412 y5403.f5.length c5413]) rfl rfl rfl hbd39 rfl rfl (slices_Clone_int_int.calls (a0 := y5403.f5) (hr5414.up e5397) hl5415 hy5418) rfl ?_)
       rintro _ _ _ _ ⟨rfl, A5419, c5420, rfl, rfl⟩
       refine TK.back hb5399 ?_
       obtain ⟨y5422, hy5423, h⟩ := bind_no h
       refine TK.opened 0 rfl (at_mixl hy5423) (fun b5424 hA5425 hi5426 hj5427 => ?_)
       refine TL.cons (TO.val rfl rfl rfl (Val.indexAddrW Tryd.underlying33 fsz40 rfl hA5425 rfl hi5426 hj5427) ?_)
       refine TL.cons (TO.val rfl rfl rfl (Val.fieldAddrB Tryd.underlying40 rfl fsz38 rfl rfl rfl) ?_)
       refine TK.sel (Ls := [Row (Kd.int .i64) 3 (.slice A5419 y5417.length c5420) y5417, Row (Tg G k40) 40 (.slice A5207 l5206.length c5208) (mixl x5211 l5206), Blk b5416 [.int .i64 y5403.f0, .int .i64 y5403.f1, .int .i64 y5403.f2, .int .i64 y5403.f3, .int .i64 y5403.f4, .slice A5412 y5403.f5.length c5413] 40, Blk b5 [.int .i64 a0.f0, .slice A3054 l3053.length c3055] 27, Blk b6 [.int .i64 0, .slice none 0 0] 27, Row (Tg G k37) 37 (.slice A3054 l3053.length c3055) (mixl x3058 l3053)]) [1, 0, 2, 3, 4, 5] 6 rfl rfl rfl ?_
       refine TK.sel (Ls := [Row (Tg G k40) 40 (.slice A5207 l5206.length c5208) (mixl x5211 l5206), Row (Kd.int .i64) 3 (.slice A5419 y5417.length c5420) y5417, Blk b5416 [.int .i64 y5403.f0, .int .i64 y5403.f1, .int .i64 y5403.f2, .int .i64 y5403.f3, .int .i64 y5403.f4, .slice A5412 y5403.f5.length c5413] 40, Blk b5 [.int .i64 a0.f0, .slice A3054 l3053.length c3055] 27, Blk b6 [.int .i64 0, .slice none 0 0] 27, Row (Tg G k37) 37 (.slice A3054 l3053.length c3055) (mixl x3058 l3053)]) [1, 0, 2, 3, 4, 5] 6 rfl rfl rfl ?_
       refine TL.cons (TL.storeE (Tg G k40) (xs := (mixl x5211 l5206)) (xv := ((⟨y5422.f0, y5422.f1, y5422.f2, y5422.f3, y5422.f4, y5417⟩ : S40), true)) (ds := [.slice A5419 y5417.length c5420]) rfl fsz38 hA5425 (at_mixl hy5423) rfl rfl rfl rfl (Nat.le_of_ble_eq_true rfl) (fun B W F1 F2 cs hd h1 h2 => by obtain ⟨A_, c_, rfl, _, _⟩ := k40_openR (Tg.sh h1); exact Tg.own (k40_mkM W B _ _ (Kd.R_mono h2 (fun _ => .inr)))) ?_)
       refine TK.conv (ch' := Row (Tg G k40) 40 (.slice A5207 l5206.length c5208) (mixl (IntKind.i64.wrap (x5211 + 1)) (l5206.set x5211.toNat (⟨y5422.f0, y5422.f1, y5422.f2, y5422.f3, y5422.f4, y5417⟩ : S40)))) (fun B W F hh => Row.mixset hy5423 hh) ?_
       rw [show (l5206.length : Nat) = (l5206.set x5211.toNat (⟨y5422.f0, y5422.f1, y5422.f2, y5422.f3, y5422.f4, y5417⟩ : S40)).length from by simp only [List.length_set]]
       refine TL.nil ?_
       refine TQ.inB ?_
       refine TQ.then_ ?_
       refine TC.region ?_
       refine TL.cons (TO.val rfl rfl rfl (Val.cmp rfl rfl run_add) ?_)
       refine TL.cons (TO.val rfl rfl rfl (Val.move rfl) ?_)
       refine TL.nil ?_
       exact fun a W hF hO => ⟨(l5206.set x5211.toNat (⟨y5422.f0, y5422.f1, y5422.f2, y5422.f3, y5422.f4, y5417⟩ : S40)), IntKind.i64.wrap (x5211 + 1), A5207, c5208, h, (by first | rfl | assumption | (simp only [List.length_set]; first | rfl | assumption)), hF.sub ⟨rfl, rfl, rfl, rfl, rfl, rfl, rfl, rfl, rfl, rfl, trivial⟩, hO.selT (Ls := [Blk b5 [.int .i64 a0.f0, .slice A3054 l3053.length c3055] 27, Blk b6 [.int .i64 0, .slice none 0 0] 27, Row (Tg G k40) 40 (.slice A5207 (l5206.set x5211.toNat (⟨y5422.f0, y5422.f1, y5422.f2, y5422.f3, y5422.f4, y5417⟩ : S40)).length c5208) (mixl (IntKind.i64.wrap (x5211 + 1)) (l5206.set x5211.toNat (⟨y5422.f0, y5422.f1, y5422.f2, y5422.f3, y5422.f4, y5417⟩ : S40))), Row (Tg G k37) 37 (.slice A3054 l3053.length c3055) (mixl x3058 l3053)]) [2, 3, 0, 4] 5 rfl rfl rfl⟩
      ·
       refine TC.sel (Ls := [Row (Tg G k40) 40 (.slice A5207 l5206.length c5208) (mixl x5211 l5206), Blk b5 [.int .i64 a0.f0, .slice A3054 l3053.length c3055] 27, Blk b6 [.int .i64 0, .slice none 0 0] 27, Row (Tg G k37) 37 (.slice A3054 l3053.length c3055) (mixl x3058 l3053)]) [2, 0, 1, 3] 4 rfl rfl rfl ?_
       refine TC.conv (ch' := Row k40 40 (.slice A5207 l5206.length c5208) l5206) (fun B W F hh => Row.mix1 (by omega) B W F hh) ?_
       refine TC.exit ?_
       refine TQ.thenX ?_
       refine TQ.thenX ?_
       refine TQ.inBX ?_
       exact fun a W hF hO => ⟨l5206, A5207, c5208, Option.some.inj h, hF.sub ⟨rfl, rfl, rfl, rfl, rfl, rfl, rfl, trivial⟩, hO.selT (Ls := [Blk b5 [.int .i64 a0.f0, .slice A3054 l3053.length c3055] 27, Blk b6 [.int .i64 0, .slice none 0 0] 27, Row k40 40 (.slice A5207 l5206.length c5208) l5206, Row (Tg G k37) 37 (.slice A3054 l3053.length c3055) (mixl x3058 l3053)]) [1, 2, 0, 3] 4 rfl rfl rfl⟩
   ·
    refine TC.sel (Ls := [Row (Tg G k37) 37 (.slice A3054 l3053.length c3055) (mixl x3058 l3053), Blk b5 [.int .i64 a0.f0, .slice A3054 l3053.length c3055] 27, Blk b6 [.int .i64 0, .slice none 0 0] 27]) [2, 0, 1] 3 rfl rfl rfl ?_
    refine TC.conv (ch' := Row k37 37 (.slice A3054 l3053.length c3055) l3053) (fun B W F hh => Row.mix1 (by omega) B W F hh) ?_
    refine TC.exit ?_
    refine TQ.thenX ?_
    refine TQ.thenX ?_
    refine TQ.inBX ?_
    exact fun a W hF hO => ⟨l3053, A3054, c3055, Option.some.inj h, hF.sub ⟨rfl, rfl, trivial⟩, hO.selT (Ls := [Blk b5 [.int .i64 a0.f0, .slice A3054 l3053.length c3055] 27, Blk b6 [.int .i64 0, .slice none 0 0] 27, Row k37 37 (.slice A3054 l3053.length c3055) l3053]) [1, 2, 0] 3 rfl rfl rfl⟩
end Go.Proofs.YtmacdhkfgoahcaaDoor.Sy
set_option linter.unusedVariables false
set_option linter.unusedSimpArgs false
set_option maxRecDepth 100000
set_option maxHeartbeats 4000000
namespace Go.Proofs.YtmacdhkfgoahcaaDoor.Sy
open Go Go.RowKit Go.Proofs.YtmacdhkfgoahcaaDoorW.PrintWords 
def swageref02_Ints.l0 (a0 : (List Int)) (a1 : (List Int)) : Nat → Int → Option (Sum Bool (Unit))
 | 0, _ => none
 | n248 + 1, x168 => (if x168 < (a0.length : Int) then (at? a0 x168).bind fun y385 => (at? a1 x168).bind fun y394 => (if (!decide (y385 = y394)) = true then some (.inl false) else swageref02_Ints.l0 a0 a1 n248 (IntKind.i64.wrap (x168 + 1))) else some (.inr ()))
def swageref02_Ints.f (a0 : (List Int)) (a1 : (List Int)) : Option Bool := (if (!decide ((a0.length : Int) = (a1.length : Int))) = true then some false else (swageref02_Ints.l0 a0 a1 (a0.length + 1) 0).bind fun | .inl q_ => some q_ | .inr _ => (some true))
def swageref02_Ints.post (G : Gd)  (r : Bool) (v : Value) (G' : Gd) (Lr : List Ch) : Prop := G = G' ∧ v = .bool r ∧ Lr = []
theorem swageref02_Ints.calls {G : Gd} {r : Bool} {a0 : (List Int)} {a1 : (List Int)} {A1 : Option Addr} {c2 : Nat} {A5 : Option Addr} {c6 : Nat} (hr3 : Rd G (Kd.int .i64) A1 a0) (hl4 : a0.length ≤ c2) (hr7 : Rd G (Kd.int .i64) A5 a1) (hl8 : a1.length ≤ c6) (h : swageref02_Ints.f a0 a1 = some r) : Fn Tryd.prog 21 G [] [.slice A1 a0.length c2, .slice A5 a1.length c6] (swageref02_Ints.post G  r) := by
 refine Fn.intro (e := [(0, .slice A1 a0.length c2), (1, .slice A5 a1.length c6)]) 26 Tryd.func21 rfl Tryd.ntmps21 rfl rfl (Nat.le_of_ble_eq_true rfl) (fun L => ?_)
 unfold swageref02_Ints.f at h
 refine TC.seq ?_
 refine TC.region ?_
 refine TL.cons (TO.val rfl rfl rfl (Val.assign rfl) ?_)
 refine TL.nil ?_
 refine TQ.then_ ?_
 refine TC.seq ?_
 refine TC.seq ?_
 refine TC.region ?_
 refine TL.cons (TO.val rfl rfl rfl (Val.move rfl) ?_)
 refine TL.cons (TO.val rfl rfl rfl (Val.len Tryd.underlying38 rfl) ?_)
 refine TL.cons (TO.val rfl rfl rfl (Val.move rfl) ?_)
 refine TL.cons (TO.val rfl rfl rfl (Val.len Tryd.underlying38 rfl) ?_)
 refine TL.cons (TO.val rfl rfl rfl (Val.cmp rfl rfl run_neq) ?_)
 refine TL.nil ?_
 refine TQ.then_ ?_
 refine TC.cond_b rfl h (fun hc10 h => ?_) (fun hc10 h => ?_)
 ·
  refine TC.seq ?_
  refine TC.region ?_
  refine TL.cons (TO.val rfl rfl rfl (Val.assign rfl) ?_)
  refine TL.nil ?_
  refine TQ.then_ ?_
  refine TC.ret ?_
  refine TQ.thenR ?_
  obtain rfl := Option.some.inj h
  exact TQ.fin (.inl rfl) rfl Tryd.results21 (.tmp rfl .nil) rfl (FRel.mk (Ls := []) [] 0 (Gd.le.refl _) rfl rfl rfl ⟨rfl, rfl, rfl⟩)
 ·
  refine TC.skip ?_
  refine TQ.then_ ?_
  refine TC.seq ?_
  refine TC.seq ?_
  refine TC.region ?_
  refine TL.cons (TO.val rfl rfl rfl (Val.assign rfl) ?_)
  refine TL.nil ?_
  refine TQ.then_ ?_
  obtain ⟨o247, ho247, ko247⟩ := bind_no h
  clear h
  refine TC.tail (fun a W => (.inr ()) = o247 ∧ Fr 26 a [] ∧ Own G (L) W) ?_ ?_
  ·
   rintro a W ⟨rfl, hF, hO⟩
   have h := ko247
   clear ko247 ho247
   refine TQ.use ?_ hF hO
   clear hF hO
   refine TQ.then_ ?_
   refine TC.seq ?_
   refine TC.region ?_
   refine TL.cons (TO.val rfl rfl rfl (Val.assign rfl) ?_)
   refine TL.nil ?_
   refine TQ.then_ ?_
   refine TC.ret ?_
   obtain rfl := Option.some.inj h
   exact TQ.fin (.inl rfl) rfl Tryd.results21 (.tmp rfl .nil) rfl (FRel.mk (Ls := []) [] 0 (Gd.le.refl _) rfl rfl rfl ⟨rfl, rfl, rfl⟩)
  ·
   refine TC.block ?_
   intro a W hF hO
   have hS : ∃ (x168 : Int), swageref02_Ints.l0 a0 a1 (a0.length + 1) x168 = some o247 ∧ Fr 26 a [(0, .slice A1 a0.length c2), (1, .slice A5 a1.length c6), (5, .int .i64 x168)] ∧ Own G (L) W := by
    exact ⟨0, ho247, hF.sub ⟨rfl, rfl, rfl, trivial⟩, hO.selT (Ls := []) [] 0 rfl rfl rfl⟩
   clear hF hO ho247
   refine TC.loop (fun n248 a W => ∃ (x168 : Int), swageref02_Ints.l0 a0 a1 n248 x168 = some o247 ∧ Fr 26 a [(0, .slice A1 a0.length c2), (1, .slice A5 a1.length c6), (5, .int .i64 x168)] ∧ Own G (L) W) ?_ ?_ hS
   ·
    rintro a W ⟨x168, h, hF, hO⟩
    exact none_no h
   ·
    clear hS
    rintro n248 a W ⟨x168, h, hF, hO⟩
    rw [swageref02_Ints.l0] at h
    refine TC.use ?_ hF hO
    clear hF hO
    refine TC.seq ?_
    refine TC.seq ?_
    refine TC.region ?_
    refine TL.cons (TO.val rfl rfl rfl (Val.move rfl) ?_)
    refine TL.cons (TO.val rfl rfl rfl (Val.move rfl) ?_)
    refine TL.cons (TO.val rfl rfl rfl (Val.len Tryd.underlying38 rfl) ?_)
    refine TL.cons (TO.val rfl rfl rfl (Val.cmp rfl rfl run_lss) ?_)
    refine TL.nil ?_
    refine TQ.then_ ?_
    refine TC.cond_p rfl h (fun hc328 h => ?_) (fun hc328 h => ?_)
    ·
     refine TC.skip ?_
     refine TQ.then_ ?_
     refine TC.seq ?_
     refine TC.block ?_
     refine TC.seq ?_
     refine TC.regionAny [] [0, 1, 2, 3, 4, 5, 6, 7, 8] mixed (by kernel_rfl) ?_
     refine TA.take 0 rfl (by kernel_rfl) rfl (PQ.then_ (PQ.inB (PQ.then_ (PQ.then_ (PQ.inB (PQ.then_ (PQ.then_ PQ.body))))))) rfl (Val.move rfl) (fun W hO => hO) ?_
     refine TA.take 1 rfl (by kernel_rfl) rfl (PQ.then_ (PQ.inB (PQ.then_ (PQ.then_ (PQ.inB (PQ.then_ (PQ.then_ PQ.body))))))) rfl (Val.move rfl) (fun W hO => hO) ?_
     obtain ⟨y385, hx386, h⟩ := bind_no h
     obtain ⟨ad387, cs393, hA388, hi389, hj390, hcl391, hK392⟩ := Rd.at hr3 hx386
     obtain rfl := RdK.int hK392
     refine TA.take 2 rfl (by kernel_rfl) rfl (PQ.then_ (PQ.inB (PQ.then_ (PQ.then_ (PQ.inB (PQ.then_ (PQ.then_ PQ.body))))))) rfl (Val.indexAddr Tryd.underlying38 fsz3 rfl hA388 rfl hi389 hj390) (fun W hO => hO) ?_
     refine TA.take 3 rfl (by kernel_rfl) rfl (PQ.then_ (PQ.inB (PQ.then_ (PQ.then_ (PQ.inB (PQ.then_ (PQ.then_ PQ.body))))))) rfl (Val.loadS agg3 rfl (hcl391 0 _ rfl)) (fun W hO => hO) ?_
     refine TA.take 4 rfl (by kernel_rfl) rfl (PQ.then_ (PQ.inB (PQ.then_ (PQ.then_ (PQ.inB (PQ.then_ (PQ.then_ PQ.body))))))) rfl (Val.move rfl) (fun W hO => hO) ?_
     refine TA.take 5 rfl (by kernel_rfl) rfl (PQ.then_ (PQ.inB (PQ.then_ (PQ.then_ (PQ.inB (PQ.then_ (PQ.then_ PQ.body))))))) rfl (Val.move rfl) (fun W hO => hO) ?_
     obtain ⟨y394, hx395, h⟩ := bind_no h
     obtain ⟨ad396, cs402, hA397, hi398, hj399, hcl400, hK401⟩ := Rd.at hr7 hx395
     obtain rfl := RdK.int hK401
     refine TA.take 6 rfl (by kernel_rfl) rfl (PQ.then_ (PQ.inB (PQ.then_ (PQ.then_ (PQ.inB (PQ.then_ (PQ.then_ PQ.body))))))) rfl (Val.indexAddr Tryd.underlying38 fsz3 rfl hA397 rfl hi398 hj399) (fun W hO => hO) ?_
     refine TA.take 7 rfl (by kernel_rfl) rfl (PQ.then_ (PQ.inB (PQ.then_ (PQ.then_ (PQ.inB (PQ.then_ (PQ.then_ PQ.body))))))) rfl (Val.loadS agg3 rfl (hcl400 0 _ rfl)) (fun W hO => hO) ?_
     refine TA.take 8 rfl (by kernel_rfl) rfl (PQ.then_ (PQ.inB (PQ.then_ (PQ.then_ (PQ.inB (PQ.then_ (PQ.then_ PQ.body))))))) rfl (Val.cmp rfl rfl run_neq) (fun W hO => hO) ?_
     refine TA.done (by kernel_rfl) ?_
     refine TQ.then_ ?_
     refine TC.cond_b rfl h (fun hc404 h => ?_) (fun hc404 h => ?_)
     ·
      refine TC.seq ?_
      refine TC.region ?_
      refine TL.cons (TO.val rfl rfl rfl (Val.assign rfl) ?_)
      refine TL.nil ?_
      refine TQ.then_ ?_
      refine TC.ret ?_
      refine TQ.inBR ?_
      refine TQ.thenR ?_
      refine TQ.thenR ?_
      refine TQ.inBR ?_
      refine TQ.thenR ?_
      refine TQ.thenR ?_
      obtain rfl := Option.some.inj h
      have h := ko247
      obtain rfl := Option.some.inj h
      exact TQ.fin (.inl rfl) rfl Tryd.results21 (.tmp rfl .nil) rfl (FRel.mk (Ls := []) [] 0 (Gd.le.refl _) rfl rfl rfl ⟨rfl, rfl, rfl⟩)
     ·
      refine TC.skip ?_
      refine TQ.inB ?_
      refine TQ.then_ ?_
      refine TC.region ?_
      refine TL.cons (TO.val rfl rfl rfl (Val.move rfl) ?_)
      refine TL.cons (TO.val rfl rfl rfl (Val.cmp rfl rfl run_add) ?_)
      refine TL.cons (TO.val rfl rfl rfl (Val.assign rfl) ?_)
      refine TL.nil ?_
      exact fun a W hF hO => ⟨IntKind.i64.wrap (x168 + 1), h, hF.sub ⟨rfl, rfl, rfl, trivial⟩, hO.selT (Ls := []) [] 0 rfl rfl rfl⟩
    ·
     refine TC.exit ?_
     refine TQ.thenX ?_
     refine TQ.thenX ?_
     refine TQ.inBX ?_
     exact fun a W hF hO => ⟨Option.some.inj h, hF.sub trivial, hO.selT (Ls := []) [] 0 rfl rfl rfl⟩
end Go.Proofs.YtmacdhkfgoahcaaDoor.Sy
set_option linter.unusedVariables false
set_option linter.unusedSimpArgs false
set_option maxRecDepth 100000
set_option maxHeartbeats 4000000
namespace Go.Proofs.YtmacdhkfgoahcaaDoor.Sy
open Go Go.RowKit Go.Proofs.YtmacdhkfgoahcaaDoorW.PrintWords 
def swageref14_SameOp.f (a0 : S40) (a1 : S40) : Option Bool := (swageref02_Ints.f a0.f5 a1.f5).bind fun (y11 : Bool) => (if y11 = true then (if a0.f0 = a1.f0 then (if a0.f1 = a1.f1 then (if a0.f2 = a1.f2 then (if a0.f3 = a1.f3 then some (decide (a0.f4 = a1.f4)) else some false) else some false) else some false) else some false) else some false)
def swageref14_SameOp.post (G : Gd)  (r : Bool) (v : Value) (G' : Gd) (Lr : List Ch) : Prop := G = G' ∧ v = .bool r ∧ Lr = []
theorem swageref14_SameOp.calls {G : Gd} {r : Bool} {a0 : S40} {a1 : S40} {A1 : Option Addr} {c2 : Nat} {A5 : Option Addr} {c6 : Nat} (hr3 : Rd G (Kd.int .i64) A1 a0.f5) (hl4 : a0.f5.length ≤ c2) (hr7 : Rd G (Kd.int .i64) A5 a1.f5) (hl8 : a1.f5.length ≤ c6) (h : swageref14_SameOp.f a0 a1 = some r) : Fn Tryd.prog 40 G [] [.agg #[.int .i64 a0.f0, .int .i64 a0.f1, .int .i64 a0.f2, .int .i64 a0.f3, .int .i64 a0.f4, .slice A1 a0.f5.length c2], .agg #[.int .i64 a1.f0, .int .i64 a1.f1, .int .i64 a1.f2, .int .i64 a1.f3, .int .i64 a1.f4, .slice A5 a1.f5.length c6]] (swageref14_SameOp.post G  r) := by
 refine Fn.intro (e := [(0, .agg #[.int .i64 a0.f0, .int .i64 a0.f1, .int .i64 a0.f2, .int .i64 a0.f3, .int .i64 a0.f4, .slice A1 a0.f5.length c2]), (1, .agg #[.int .i64 a1.f0, .int .i64 a1.f1, .int .i64 a1.f2, .int .i64 a1.f3, .int .i64 a1.f4, .slice A5 a1.f5.length c6])]) 47 Tryd.func40 rfl Tryd.ntmps40 rfl rfl (Nat.le_of_ble_eq_true rfl) (fun L => ?_)
 unfold swageref14_SameOp.f at h
 refine TC.seq ?_
 refine TC.region ?_
 refine TL.cons (TL.box (cs := [.int .i64 a0.f0, .int .i64 a0.f1, .int .i64 a0.f2, .int .i64 a0.f3, .int .i64 a0.f4, .slice A1 a0.f5.length c2]) rfl rfl rfl rfl (fun b9 => ?_))
 refine TL.cons (TL.box (cs := [.int .i64 a1.f0, .int .i64 a1.f1, .int .i64 a1.f2, .int .i64 a1.f3, .int .i64 a1.f4, .slice A5 a1.f5.length c6]) rfl rfl rfl rfl (fun b10 => ?_))
 refine TL.cons (TO.val rfl rfl rfl (Val.assign rfl) ?_)
 refine TL.nil ?_
 refine TQ.then_ ?_
 refine TC.seq ?_
 refine TC.region ?_
 refine TL.cons (TO.val rfl rfl rfl (Val.fieldAddrB Tryd.underlying40 rfl fsz38 rfl rfl rfl) ?_)
 refine TL.cons (TO.val rfl rfl rfl (Val.loadB 1 agg38 rfl rfl rfl) ?_)
 refine TL.cons (TO.val rfl rfl rfl (Val.fieldAddrB Tryd.underlying40 rfl fsz38 rfl rfl rfl) ?_)
 refine TL.cons (TO.val rfl rfl rfl (Val.loadB 0 agg38 rfl rfl rfl) ?_)
 obtain ⟨y11, hy12, h⟩ := bind_no h
 refine TL.cons (TL.callV (Lin := []) (args := [.slice A1 a0.f5.length c2, .slice A5 a1.f5.length c6]) rfl rfl rfl hbd21 rfl rfl (swageref02_Ints.calls (a0 := a0.f5) (a1 := a1.f5) hr3 hl4 hr7 hl8 hy12) rfl ?_)
 rintro _ _ _ _ ⟨rfl, rfl, rfl⟩
 refine TL.cons (TO.val rfl rfl rfl (Val.assign rfl) ?_)
 refine TL.nil ?_
 refine TQ.then_ ?_
 refine TC.seq ?_
 refine TC.region ?_
 refine TL.cons (TO.val rfl rfl rfl (Val.move rfl) ?_)
 refine TL.cons (TO.val rfl rfl rfl (Val.move rfl) ?_)
 refine TK.split (p := y11 = true) h (fun hg28 h => ?_) (fun hg28 h => ?_)
 ·
  have hk29 : y11 = true := hg28
  refine TL.cons (TO.val (Wt.yes rfl rfl rfl hk29) rfl rfl (Val.fieldAddrB Tryd.underlying40 rfl fsz3 rfl rfl rfl) ?_)
  refine TL.cons (TO.val (Wt.yes rfl rfl rfl hk29) rfl rfl (Val.loadB 1 agg3 rfl rfl rfl) ?_)
  refine TL.cons (TO.val (Wt.yes rfl rfl rfl hk29) rfl rfl (Val.fieldAddrB Tryd.underlying40 rfl fsz3 rfl rfl rfl) ?_)
  refine TL.cons (TO.val (Wt.yes rfl rfl rfl hk29) rfl rfl (Val.loadB 0 agg3 rfl rfl rfl) ?_)
  refine TL.cons (TO.val (Wt.yes rfl rfl rfl hk29) rfl rfl (Val.cmp rfl rfl run_eql) ?_)
  refine TL.cons (TO.val rfl rfl rfl (Val.pickY rfl hk29 rfl) ?_)
  refine TL.cons (TO.val rfl rfl rfl (Val.move rfl) ?_)
  refine TK.split (p := a0.f0 = a1.f0) h (fun hg30 h => ?_) (fun hg30 h => ?_)
  ·
   have hk31 : decide (a0.f0 = a1.f0) = true := decide_eq_true hg30
   refine TL.cons (TO.val (Wt.yes rfl rfl rfl hk31) rfl rfl (Val.fieldAddrB Tryd.underlying40 rfl fsz3 rfl rfl rfl) ?_)
   refine TL.cons (TO.val (Wt.yes rfl rfl rfl hk31) rfl rfl (Val.loadB 1 agg3 rfl rfl rfl) ?_)
   refine TL.cons (TO.val (Wt.yes rfl rfl rfl hk31) rfl rfl (Val.fieldAddrB Tryd.underlying40 rfl fsz3 rfl rfl rfl) ?_)
   refine TL.cons (TO.val (Wt.yes rfl rfl rfl hk31) rfl rfl (Val.loadB 0 agg3 rfl rfl rfl) ?_)
   refine TL.cons (TO.val (Wt.yes rfl rfl rfl hk31) rfl rfl (Val.cmp rfl rfl run_eql) ?_)
   refine TL.cons (TO.val rfl rfl rfl (Val.pickY rfl hk31 rfl) ?_)
   refine TL.cons (TO.val rfl rfl rfl (Val.move rfl) ?_)
   refine TK.split (p := a0.f1 = a1.f1) h (fun hg32 h => ?_) (fun hg32 h => ?_)
   ·
    have hk33 : decide (a0.f1 = a1.f1) = true := decide_eq_true hg32
    refine TL.cons (TO.val (Wt.yes rfl rfl rfl hk33) rfl rfl (Val.fieldAddrB Tryd.underlying40 rfl fsz3 rfl rfl rfl) ?_)
    refine TL.cons (TO.val (Wt.yes rfl rfl rfl hk33) rfl rfl (Val.loadB 1 agg3 rfl rfl rfl) ?_)
    refine TL.cons (TO.val (Wt.yes rfl rfl rfl hk33) rfl rfl (Val.fieldAddrB Tryd.underlying40 rfl fsz3 rfl rfl rfl) ?_)
    refine TL.cons (TO.val (Wt.yes rfl rfl rfl hk33) rfl rfl (Val.loadB 0 agg3 rfl rfl rfl) ?_)
    refine TL.cons (TO.val (Wt.yes rfl rfl rfl hk33) rfl rfl (Val.cmp rfl rfl run_eql) ?_)
    refine TL.cons (TO.val rfl rfl rfl (Val.pickY rfl hk33 rfl) ?_)
    refine TL.cons (TO.val rfl rfl rfl (Val.move rfl) ?_)
    refine TK.split (p := a0.f2 = a1.f2) h (fun hg34 h => ?_) (fun hg34 h => ?_)
    ·
     have hk35 : decide (a0.f2 = a1.f2) = true := decide_eq_true hg34
     refine TL.cons (TO.val (Wt.yes rfl rfl rfl hk35) rfl rfl (Val.fieldAddrB Tryd.underlying40 rfl fsz3 rfl rfl rfl) ?_)
     refine TL.cons (TO.val (Wt.yes rfl rfl rfl hk35) rfl rfl (Val.loadB 1 agg3 rfl rfl rfl) ?_)
     refine TL.cons (TO.val (Wt.yes rfl rfl rfl hk35) rfl rfl (Val.fieldAddrB Tryd.underlying40 rfl fsz3 rfl rfl rfl) ?_)
     refine TL.cons (TO.val (Wt.yes rfl rfl rfl hk35) rfl rfl (Val.loadB 0 agg3 rfl rfl rfl) ?_)
     refine TL.cons (TO.val (Wt.yes rfl rfl rfl hk35) rfl rfl (Val.cmp rfl rfl run_eql) ?_)
     refine TL.cons (TO.val rfl rfl rfl (Val.pickY rfl hk35 rfl) ?_)
     refine TL.cons (TO.val rfl rfl rfl (Val.move rfl) ?_)
     refine TK.split (p := a0.f3 = a1.f3) h (fun hg36 h => ?_) (fun hg36 h => ?_)
     ·
      have hk37 : decide (a0.f3 = a1.f3) = true := decide_eq_true hg36
      refine TL.cons (TO.val (Wt.yes rfl rfl rfl hk37) rfl rfl (Val.fieldAddrB Tryd.underlying40 rfl fsz3 rfl rfl rfl) ?_)
      refine TL.cons (TO.val (Wt.yes rfl rfl rfl hk37) rfl rfl (Val.loadB 1 agg3 rfl rfl rfl) ?_)
      refine TL.cons (TO.val (Wt.yes rfl rfl rfl hk37) rfl rfl (Val.fieldAddrB Tryd.underlying40 rfl fsz3 rfl rfl rfl) ?_)
      refine TL.cons (TO.val (Wt.yes rfl rfl rfl hk37) rfl rfl (Val.loadB 0 agg3 rfl rfl rfl) ?_)
      refine TL.cons (TO.val (Wt.yes rfl rfl rfl hk37) rfl rfl (Val.cmp rfl rfl run_eql) ?_)
      refine TL.cons (TO.val rfl rfl rfl (Val.pickY rfl hk37 rfl) ?_)
      refine TL.cons (TO.val rfl rfl rfl (Val.assign rfl) ?_)
      refine TL.nil ?_
      refine TQ.then_ ?_
      refine TC.ret ?_
      obtain rfl := Option.some.inj h
      exact TQ.fin (.inl rfl) rfl Tryd.results40 (.tmp rfl .nil) rfl (FRel.mk (Ls := []) [] 2 (Gd.le.refl _) rfl rfl rfl ⟨rfl, rfl, rfl⟩)
     ·
      have hk38 : decide (a0.f3 = a1.f3) = false := decide_eq_false hg36
      refine TL.cons (TL.not (Wt.no rfl rfl rfl hk38) rfl ?_)
      refine TL.cons (TL.not (Wt.no rfl rfl rfl hk38) rfl ?_)
      refine TL.cons (TL.not (Wt.no rfl rfl rfl hk38) rfl ?_)
      refine TL.cons (TL.not (Wt.no rfl rfl rfl hk38) rfl ?_)
      refine TL.cons (TL.not (Wt.no rfl rfl rfl hk38) rfl ?_)
      refine TL.cons (TO.val rfl rfl rfl (Val.pickN rfl hk38 rfl) ?_)
      refine TL.cons (TO.val rfl rfl rfl (Val.assign rfl) ?_)
      refine TL.nil ?_
      refine TQ.then_ ?_
      refine TC.ret ?_
      obtain rfl := Option.some.inj h
      exact TQ.fin (.inl rfl) rfl Tryd.results40 (.tmp rfl .nil) rfl (FRel.mk (Ls := []) [] 2 (Gd.le.refl _) rfl rfl rfl ⟨rfl, rfl, rfl⟩)
    ·
     have hk39 : decide (a0.f2 = a1.f2) = false := decide_eq_false hg34
     refine TL.cons (TL.not (Wt.no rfl rfl rfl hk39) rfl ?_)
     refine TL.cons (TL.not (Wt.no rfl rfl rfl hk39) rfl ?_)
     refine TL.cons (TL.not (Wt.no rfl rfl rfl hk39) rfl ?_)
     refine TL.cons (TL.not (Wt.no rfl rfl rfl hk39) rfl ?_)
     refine TL.cons (TL.not (Wt.no rfl rfl rfl hk39) rfl ?_)
     refine TL.cons (TO.val rfl rfl rfl (Val.pickN rfl hk39 rfl) ?_)
     refine TL.cons (TO.val rfl rfl rfl (Val.move rfl) ?_)
     refine TL.cons (TL.not (Wt.no rfl rfl rfl rfl) rfl ?_)
     refine TL.cons (TL.not (Wt.no rfl rfl rfl rfl) rfl ?_)
     refine TL.cons (TL.not (Wt.no rfl rfl rfl rfl) rfl ?_)
     refine TL.cons (TL.not (Wt.no rfl rfl rfl rfl) rfl ?_)
     refine TL.cons (TL.not (Wt.no rfl rfl rfl rfl) rfl ?_)
     refine TL.cons (TO.val rfl rfl rfl (Val.pickN rfl rfl rfl) ?_)
     refine TL.cons (TO.val rfl rfl rfl (Val.assign rfl) ?_)
     refine TL.nil ?_
     refine TQ.then_ ?_
     refine TC.ret ?_
     obtain rfl := Option.some.inj h
     exact TQ.fin (.inl rfl) rfl Tryd.results40 (.tmp rfl .nil) rfl (FRel.mk (Ls := []) [] 2 (Gd.le.refl _) rfl rfl rfl ⟨rfl, rfl, rfl⟩)
   ·
    have hk40 : decide (a0.f1 = a1.f1) = false := decide_eq_false hg32
    refine TL.cons (TL.not (Wt.no rfl rfl rfl hk40) rfl ?_)
    refine TL.cons (TL.not (Wt.no rfl rfl rfl hk40) rfl ?_)
    refine TL.cons (TL.not (Wt.no rfl rfl rfl hk40) rfl ?_)
    refine TL.cons (TL.not (Wt.no rfl rfl rfl hk40) rfl ?_)
    refine TL.cons (TL.not (Wt.no rfl rfl rfl hk40) rfl ?_)
    refine TL.cons (TO.val rfl rfl rfl (Val.pickN rfl hk40 rfl) ?_)
    refine TL.cons (TO.val rfl rfl rfl (Val.move rfl) ?_)
    refine TL.cons (TL.not (Wt.no rfl rfl rfl rfl) rfl ?_)
    refine TL.cons (TL.not (Wt.no rfl rfl rfl rfl) rfl ?_)
    refine TL.cons (TL.not (Wt.no rfl rfl rfl rfl) rfl ?_)
    refine TL.cons (TL.not (Wt.no rfl rfl rfl rfl) rfl ?_)
    refine TL.cons (TL.not (Wt.no rfl rfl rfl rfl) rfl ?_)
    refine TL.cons (TO.val rfl rfl rfl (Val.pickN rfl rfl rfl) ?_)
    refine TL.cons (TO.val rfl rfl rfl (Val.move rfl) ?_)
    refine TL.cons (TL.not (Wt.no rfl rfl rfl rfl) rfl ?_)
    refine TL.cons (TL.not (Wt.no rfl rfl rfl rfl) rfl ?_)
    refine TL.cons (TL.not (Wt.no rfl rfl rfl rfl) rfl ?_)
    refine TL.cons (TL.not (Wt.no rfl rfl rfl rfl) rfl ?_)
    refine TL.cons (TL.not (Wt.no rfl rfl rfl rfl) rfl ?_)
    refine TL.cons (TO.val rfl rfl rfl (Val.pickN rfl rfl rfl) ?_)
    refine TL.cons (TO.val rfl rfl rfl (Val.assign rfl) ?_)
    refine TL.nil ?_
    refine TQ.then_ ?_
    refine TC.ret ?_
    obtain rfl := Option.some.inj h
    exact TQ.fin (.inl rfl) rfl Tryd.results40 (.tmp rfl .nil) rfl (FRel.mk (Ls := []) [] 2 (Gd.le.refl _) rfl rfl rfl ⟨rfl, rfl, rfl⟩)
  ·
   have hk41 : decide (a0.f0 = a1.f0) = false := decide_eq_false hg30
   refine TL.cons (TL.not (Wt.no rfl rfl rfl hk41) rfl ?_)
   refine TL.cons (TL.not (Wt.no rfl rfl rfl hk41) rfl ?_)
   refine TL.cons (TL.not (Wt.no rfl rfl rfl hk41) rfl ?_)
   refine TL.cons (TL.not (Wt.no rfl rfl rfl hk41) rfl ?_)
   refine TL.cons (TL.not (Wt.no rfl rfl rfl hk41) rfl ?_)
   refine TL.cons (TO.val rfl rfl rfl (Val.pickN rfl hk41 rfl) ?_)
   refine TL.cons (TO.val rfl rfl rfl (Val.move rfl) ?_)
   refine TL.cons (TL.not (Wt.no rfl rfl rfl rfl) rfl ?_)
   refine TL.cons (TL.not (Wt.no rfl rfl rfl rfl) rfl ?_)
   refine TL.cons (TL.not (Wt.no rfl rfl rfl rfl) rfl ?_)
   refine TL.cons (TL.not (Wt.no rfl rfl rfl rfl) rfl ?_)
   refine TL.cons (TL.not (Wt.no rfl rfl rfl rfl) rfl ?_)
   refine TL.cons (TO.val rfl rfl rfl (Val.pickN rfl rfl rfl) ?_)
   refine TL.cons (TO.val rfl rfl rfl (Val.move rfl) ?_)
   refine TL.cons (TL.not (Wt.no rfl rfl rfl rfl) rfl ?_)
   refine TL.cons (TL.not (Wt.no rfl rfl rfl rfl) rfl ?_)
   refine TL.cons (TL.not (Wt.no rfl rfl rfl rfl) rfl ?_)
   refine TL.cons (TL.not (Wt.no rfl rfl rfl rfl) rfl ?_)
   refine TL.cons (TL.not (Wt.no rfl rfl rfl rfl) rfl ?_)
   refine TL.cons (TO.val rfl rfl rfl (Val.pickN rfl rfl rfl) ?_)
   refine TL.cons (TO.val rfl rfl rfl (Val.move rfl) ?_)
   refine TL.cons (TL.not (Wt.no rfl rfl rfl rfl) rfl ?_)
   refine TL.cons (TL.not (Wt.no rfl rfl rfl rfl) rfl ?_)
   refine TL.cons (TL.not (Wt.no rfl rfl rfl rfl) rfl ?_)
   refine TL.cons (TL.not (Wt.no rfl rfl rfl rfl) rfl ?_)
   refine TL.cons (TL.not (Wt.no rfl rfl rfl rfl) rfl ?_)
   refine TL.cons (TO.val rfl rfl rfl (Val.pickN rfl rfl rfl) ?_)
   refine TL.cons (TO.val rfl rfl rfl (Val.assign rfl) ?_)
   refine TL.nil ?_
   refine TQ.then_ ?_
   refine TC.ret ?_
   obtain rfl := Option.some.inj h
   exact TQ.fin (.inl rfl) rfl Tryd.results40 (.tmp rfl .nil) rfl (FRel.mk (Ls := []) [] 2 (Gd.le.refl _) rfl rfl rfl ⟨rfl, rfl, rfl⟩)
 ·
  have hk42 : y11 = false := (by simpa using hg28)
  refine TL.cons (TL.not (Wt.no rfl rfl rfl hk42) rfl ?_)
  refine TL.cons (TL.not (Wt.no rfl rfl rfl hk42) rfl ?_)
  refine TL.cons (TL.not (Wt.no rfl rfl rfl hk42) rfl ?_)
  refine TL.cons (TL.not (Wt.no rfl rfl rfl hk42) rfl ?_)
  refine TL.cons (TL.not (Wt.no rfl rfl rfl hk42) rfl ?_)
  refine TL.cons (TO.val rfl rfl rfl (Val.pickN rfl hk42 rfl) ?_)
  refine TL.cons (TO.val rfl rfl rfl (Val.move rfl) ?_)
  refine TL.cons (TL.not (Wt.no rfl rfl rfl rfl) rfl ?_)
  refine TL.cons (TL.not (Wt.no rfl rfl rfl rfl) rfl ?_)
  refine TL.cons (TL.not (Wt.no rfl rfl rfl rfl) rfl ?_)
  refine TL.cons (TL.not (Wt.no rfl rfl rfl rfl) rfl ?_)
  refine TL.cons (TL.not (Wt.no rfl rfl rfl rfl) rfl ?_)
  refine TL.cons (TO.val rfl rfl rfl (Val.pickN rfl rfl rfl) ?_)
  refine TL.cons (TO.val rfl rfl rfl (Val.move rfl) ?_)
  refine TL.cons (TL.not (Wt.no rfl rfl rfl rfl) rfl ?_)
  refine TL.cons (TL.not (Wt.no rfl rfl rfl rfl) rfl ?_)
  refine TL.cons (TL.not (Wt.no rfl rfl rfl rfl) rfl ?_)
  refine TL.cons (TL.not (Wt.no rfl rfl rfl rfl) rfl ?_)
  refine TL.cons (TL.not (Wt.no rfl rfl rfl rfl) rfl ?_)
  refine TL.cons (TO.val rfl rfl rfl (Val.pickN rfl rfl rfl) ?_)
  refine TL.cons (TO.val rfl rfl rfl (Val.move rfl) ?_)
  refine TL.cons (TL.not (Wt.no rfl rfl rfl rfl) rfl ?_)
  refine TL.cons (TL.not (Wt.no rfl rfl rfl rfl) rfl ?_)
  refine TL.cons (TL.not (Wt.no rfl rfl rfl rfl) rfl ?_)
  refine TL.cons (TL.not (Wt.no rfl rfl rfl rfl) rfl ?_)
  refine TL.cons (TL.not (Wt.no rfl rfl rfl rfl) rfl ?_)
  refine TL.cons (TO.val rfl rfl rfl (Val.pickN rfl rfl rfl) ?_)
  refine TL.cons (TO.val rfl rfl rfl (Val.move rfl) ?_)
  refine TL.cons (TL.not (Wt.no rfl rfl rfl rfl) rfl ?_)
  refine TL.cons (TL.not (Wt.no rfl rfl rfl rfl) rfl ?_)
  refine TL.cons (TL.not (Wt.no rfl rfl rfl rfl) rfl ?_)
  refine TL.cons (TL.not (Wt.no rfl rfl rfl rfl) rfl ?_)
  refine TL.cons (TL.not (Wt.no rfl rfl rfl rfl) rfl ?_)
  refine TL.cons (TO.val rfl rfl rfl (Val.pickN rfl rfl rfl) ?_)
  refine TL.cons (TO.val rfl rfl rfl (Val.assign rfl) ?_)
  refine TL.nil ?_
  refine TQ.then_ ?_
  refine TC.ret ?_
  obtain rfl := Option.some.inj h
  exact TQ.fin (.inl rfl) rfl Tryd.results40 (.tmp rfl .nil) rfl (FRel.mk (Ls := []) [] 2 (Gd.le.refl _) rfl rfl rfl ⟨rfl, rfl, rfl⟩)
end Go.Proofs.YtmacdhkfgoahcaaDoor.Sy
set_option linter.unusedVariables false
set_option linter.unusedSimpArgs false
set_option maxRecDepth 100000
set_option maxHeartbeats 4000000
namespace Go.Proofs.YtmacdhkfgoahcaaDoor.Sy
open Go Go.RowKit Go.Proofs.YtmacdhkfgoahcaaDoorW.PrintWords 
def swageref14_Same.l1 (a0 : S27) (a1 : S27) (x2185 : Int) : Nat → Int → Option (Sum (Sum Bool (Unit)) (Unit))
 | 0, _ => none
 | n5638 + 1, x5453 => (at? a0.f1 x2185).bind fun y5822 => (if x5453 < (y5822.f0.length : Int) then (at? y5822.f0 x5453).bind fun y5962 => (at? a1.f1 x2185).bind fun y5975 => (at? y5975.f0 x5453).bind fun y5988 => (swageref14_SameOp.f y5962 y5988).bind fun (y6001 : Bool) => (if (!y6001) = true then some (.inl (.inl false)) else swageref14_Same.l1 a0 a1 x2185 n5638 (IntKind.i64.wrap (x5453 + 1))) else some (.inr ()))
def swageref14_Same.l0 (a0 : S27) (a1 : S27) : Nat → Int → Option (Sum Bool (Unit))
 | 0, _ => none
 | n3270 + 1, x2185 => (if x2185 < (a0.f1.length : Int) then jn (γ := (Sum Bool (Unit))) (fun (x5082 : Bool) => (if x5082 = true then some (.inl false) else (swageref14_Same.l1 a0 a1 x2185 ((at? a0.f1 x2185).elim 0 (fun vy5639 => vy5639.f0.length) + 1) 0).bind fun | .inl q_ => some q_ | .inr _ => (swageref14_Same.l0 a0 a1 n3270 (IntKind.i64.wrap (x2185 + 1))))) (fun (j5083 : (Bool → Option (Sum Bool (Unit)))) => (at? a0.f1 x2185).bind fun y6034 => (at? a1.f1 x2185).bind fun y6047 => (if (!((y6034.f1.f0 == y6047.f1.f0) && ((y6034.f1.f1 == y6047.f1.f1) && ((y6034.f1.f2 == y6047.f1.f2) && (y6034.f1.f3 == y6047.f1.f3))))) = true then j5083 true else j5083 (!decide ((y6034.f0.length : Int) = (y6047.f0.length : Int))))) else some (.inr ()))
def swageref14_Same.f (a0 : S27) (a1 : S27) : Option Bool := jn (γ := Bool) (fun (x14 : Bool) => (if x14 = true then some false else (swageref14_Same.l0 a0 a1 (a0.f1.length + 1) 0).bind fun | .inl q_ => some q_ | .inr _ => (some true))) (fun (j15 : (Bool → Option Bool)) => (if (!decide (a0.f0 = a1.f0)) = true then j15 true else j15 (!decide ((a0.f1.length : Int) = (a1.f1.length : Int)))))
def swageref14_Same.post (G : Gd)  (r : Bool) (v : Value) (G' : Gd) (Lr : List Ch) : Prop := G = G' ∧ v = .bool r ∧ Lr = []
theorem swageref14_Same.calls {G : Gd} {r : Bool} {a0 : S27} {a1 : S27} {A1 : Option Addr} {c2 : Nat} {A5 : Option Addr} {c6 : Nat} (hr3 : Rd G k37 A1 a0.f1) (hl4 : a0.f1.length ≤ c2) (hr7 : Rd G k37 A5 a1.f1) (hl8 : a1.f1.length ≤ c6) (h : swageref14_Same.f a0 a1 = some r) : Fn Tryd.prog 11 G [] [.agg #[.int .i64 a0.f0, .slice A1 a0.f1.length c2], .agg #[.int .i64 a1.f0, .slice A5 a1.f1.length c6]] (swageref14_Same.post G  r) := by
 refine Fn.intro (e := [(0, .agg #[.int .i64 a0.f0, .slice A1 a0.f1.length c2]), (1, .agg #[.int .i64 a1.f0, .slice A5 a1.f1.length c6])]) 91 Tryd.func11 rfl Tryd.ntmps11 rfl rfl (Nat.le_of_ble_eq_true rfl) (fun L => ?_)
 unfold swageref14_Same.f at h
 refine TC.seq ?_
 refine TC.region ?_
 refine TL.cons (TL.box (cs := [.int .i64 a0.f0, .slice A1 a0.f1.length c2]) rfl rfl rfl rfl (fun b9 => ?_))
 refine TL.cons (TL.box (cs := [.int .i64 a1.f0, .slice A5 a1.f1.length c6]) rfl rfl rfl rfl (fun b10 => ?_))
 refine TL.cons (TO.val rfl rfl rfl (Val.assign rfl) ?_)
 refine TL.nil ?_
 refine TQ.then_ ?_
 refine TC.seq ?_
 refine TC.seq ?_
 obtain ⟨j15, hj15, h⟩ := jn_no h
 refine TC.tail (fun a W => ∃ (x14 : Bool), j15 x14 = some r ∧ Fr 91 a [(2, .pointer (some ⟨b9, 0, none⟩)), (3, .pointer (some ⟨b10, 0, none⟩)), (21, .bool x14)] ∧ Own G (Blk b10 [.int .i64 a1.f0, .slice A5 a1.f1.length c6] 27 :: Blk b9 [.int .i64 a0.f0, .slice A1 a0.f1.length c2] 27 :: L) W) ?_ ?_
 ·
  rintro a W ⟨x14, h, hF, hO⟩
  rw [hj15] at h
  refine TQ.use ?_ hF hO
  clear hF hO
  refine TQ.then_ ?_
  refine TC.cond_b rfl h (fun hc17 h => ?_) (fun hc17 h => ?_)
  ·
   refine TC.seq ?_
   refine TC.region ?_
   refine TL.cons (TO.val rfl rfl rfl (Val.assign rfl) ?_)
   refine TL.nil ?_
   refine TQ.then_ ?_
   refine TC.ret ?_
   refine TQ.thenR ?_
   obtain rfl := Option.some.inj h
   exact TQ.fin (.inl rfl) rfl Tryd.results11 (.tmp rfl .nil) rfl (FRel.mk (Ls := []) [] 2 (Gd.le.refl _) rfl rfl rfl ⟨rfl, rfl, rfl⟩)
  ·
   refine TC.skip ?_
   refine TQ.then_ ?_
   refine TC.seq ?_
   refine TC.seq ?_
   refine TC.region ?_
   refine TL.cons (TO.val rfl rfl rfl (Val.assign rfl) ?_)
   refine TL.nil ?_
   refine TQ.then_ ?_
   obtain ⟨o3269, ho3269, ko3269⟩ := bind_no h
   clear h
   refine TC.tail (fun a W => (.inr ()) = o3269 ∧ Fr 91 a [] ∧ Own G (L) W) ?_ ?_
   ·
    rintro a W ⟨rfl, hF, hO⟩
    have h := ko3269
    clear ko3269 ho3269
    refine TQ.use ?_ hF hO
    clear hF hO
    refine TQ.then_ ?_
    refine TC.seq ?_
    refine TC.region ?_
    refine TL.cons (TO.val rfl rfl rfl (Val.assign rfl) ?_)
    refine TL.nil ?_
    refine TQ.then_ ?_
    refine TC.ret ?_
    obtain rfl := Option.some.inj h
    exact TQ.fin (.inl rfl) rfl Tryd.results11 (.tmp rfl .nil) rfl (FRel.mk (Ls := []) [] 0 (Gd.le.refl _) rfl rfl rfl ⟨rfl, rfl, rfl⟩)
   ·
    refine TC.block ?_
    intro a W hF hO
    have hS : ∃ (x2185 : Int), swageref14_Same.l0 a0 a1 (a0.f1.length + 1) x2185 = some o3269 ∧ Fr 91 a [(2, .pointer (some ⟨b9, 0, none⟩)), (3, .pointer (some ⟨b10, 0, none⟩)), (5, .int .i64 x2185)] ∧ Own G (Blk b10 [.int .i64 a1.f0, .slice A5 a1.f1.length c6] 27 :: Blk b9 [.int .i64 a0.f0, .slice A1 a0.f1.length c2] 27 :: L) W := by
     exact ⟨0, ho3269, hF.sub ⟨rfl, rfl, rfl, trivial⟩, hO.selT (Ls := [Blk b10 [.int .i64 a1.f0, .slice A5 a1.f1.length c6] 27, Blk b9 [.int .i64 a0.f0, .slice A1 a0.f1.length c2] 27]) [0, 1] 2 rfl rfl rfl⟩
    clear hF hO ho3269
    refine TC.loop (fun n3270 a W => ∃ (x2185 : Int), swageref14_Same.l0 a0 a1 n3270 x2185 = some o3269 ∧ Fr 91 a [(2, .pointer (some ⟨b9, 0, none⟩)), (3, .pointer (some ⟨b10, 0, none⟩)), (5, .int .i64 x2185)] ∧ Own G (Blk b10 [.int .i64 a1.f0, .slice A5 a1.f1.length c6] 27 :: Blk b9 [.int .i64 a0.f0, .slice A1 a0.f1.length c2] 27 :: L) W) ?_ ?_ hS
    ·
     rintro a W ⟨x2185, h, hF, hO⟩
     exact none_no h
    ·
     clear hS
     rintro n3270 a W ⟨x2185, h, hF, hO⟩
     rw [swageref14_Same.l0] at h
     refine TC.use ?_ hF hO
     clear hF hO
     refine TC.seq ?_
     refine TC.seq ?_
     refine TC.region ?_
     refine TL.cons (TO.val rfl rfl rfl (Val.move rfl) ?_)
     refine TL.cons (TO.val rfl rfl rfl (Val.fieldAddrB Tryd.underlying27 rfl fsz25 rfl rfl rfl) ?_)
     refine TL.cons (TO.val rfl rfl rfl (Val.loadB 1 agg25 rfl rfl rfl) ?_)
     refine TL.cons (TO.val rfl rfl rfl (Val.len Tryd.underlying25 rfl) ?_)
     refine TL.cons (TO.val rfl rfl rfl (Val.cmp rfl rfl run_lss) ?_)
     refine TL.nil ?_
     refine TQ.then_ ?_
     refine TC.cond_p rfl h (fun hc4355 h => ?_) (fun hc4355 h => ?_)
     ·
      refine TC.skip ?_
      refine TQ.then_ ?_
      refine TC.seq ?_
      refine TC.block ?_
      refine TC.seq ?_
      refine TC.seq ?_
      obtain ⟨j5083, hj5083, h⟩ := jn_no h
      refine TC.tail (fun a W => ∃ (x5082 : Bool), j5083 x5082 = some o3269 ∧ Fr 91 a [(2, .pointer (some ⟨b9, 0, none⟩)), (3, .pointer (some ⟨b10, 0, none⟩)), (5, .int .i64 x2185), (58, .bool x5082)] ∧ Own G (Blk b10 [.int .i64 a1.f0, .slice A5 a1.f1.length c6] 27 :: Blk b9 [.int .i64 a0.f0, .slice A1 a0.f1.length c2] 27 :: L) W) ?_ ?_
      ·
       rintro a W ⟨x5082, h, hF, hO⟩
       rw [hj5083] at h
       refine TQ.use ?_ hF hO
       clear hF hO
       refine TQ.then_ ?_
       refine TC.cond_b rfl h (fun hc5085 h => ?_) (fun hc5085 h => ?_)
       ·
        refine TC.seq ?_
        refine TC.region ?_
        refine TL.cons (TO.val rfl rfl rfl (Val.assign rfl) ?_)
        refine TL.nil ?_
        refine TQ.then_ ?_
        refine TC.ret ?_
        refine TQ.thenR ?_
        refine TQ.inBR ?_
        refine TQ.thenR ?_
        refine TQ.thenR ?_
        refine TQ.inBR ?_
        refine TQ.thenR ?_
        refine TQ.thenR ?_
        obtain rfl := Option.some.inj h
        have h := ko3269
        obtain rfl := Option.some.inj h
        exact TQ.fin (.inl rfl) rfl Tryd.results11 (.tmp rfl .nil) rfl (FRel.mk (Ls := []) [] 2 (Gd.le.refl _) rfl rfl rfl ⟨rfl, rfl, rfl⟩)
       ·
        refine TC.skip ?_
        refine TQ.then_ ?_
        refine TC.seq ?_
        refine TC.region ?_
        refine TL.cons (TO.val rfl rfl rfl (Val.assign rfl) ?_)
        refine TL.nil ?_
        refine TQ.then_ ?_
        obtain ⟨o5637, ho5637, ko5637⟩ := bind_no h
        clear h
        refine TC.tail (fun a W => (.inr ()) = o5637 ∧ Fr 91 a [(2, .pointer (some ⟨b9, 0, none⟩)), (3, .pointer (some ⟨b10, 0, none⟩)), (5, .int .i64 x2185)] ∧ Own G (Blk b10 [.int .i64 a1.f0, .slice A5 a1.f1.length c6] 27 :: Blk b9 [.int .i64 a0.f0, .slice A1 a0.f1.length c2] 27 :: L) W) ?_ ?_
        ·
         rintro a W ⟨rfl, hF, hO⟩
         have h := ko5637
         clear ko5637 ho5637
         refine TQ.use ?_ hF hO
         clear hF hO
         refine TQ.inB ?_
         refine TQ.then_ ?_
         refine TC.region ?_
         refine TL.cons (TO.val rfl rfl rfl (Val.move rfl) ?_)
         refine TL.cons (TO.val rfl rfl rfl (Val.cmp rfl rfl run_add) ?_)
         refine TL.cons (TO.val rfl rfl rfl (Val.assign rfl) ?_)
         refine TL.nil ?_
         exact fun a W hF hO => ⟨IntKind.i64.wrap (x2185 + 1), h, hF.sub ⟨rfl, rfl, rfl, trivial⟩, hO.selT (Ls := [Blk b10 [.int .i64 a1.f0, .slice A5 a1.f1.length c6] 27, Blk b9 [.int .i64 a0.f0, .slice A1 a0.f1.length c2] 27]) [0, 1] 2 rfl rfl rfl⟩
        ·
         refine TC.block ?_
         intro a W hF hO
         have hS : ∃ (x5453 : Int), swageref14_Same.l1 a0 a1 x2185 ((at? a0.f1 x2185).elim 0 (fun vy5639 => vy5639.f0.length) + 1) x5453 = some o5637 ∧ Fr 91 a [(2, .pointer (some ⟨b9, 0, none⟩)), (3, .pointer (some ⟨b10, 0, none⟩)), (5, .int .i64 x2185), (6, .int .i64 x5453)] ∧ Own G (Blk b10 [.int .i64 a1.f0, .slice A5 a1.f1.length c6] 27 :: Blk b9 [.int .i64 a0.f0, .slice A1 a0.f1.length c2] 27 :: L) W := by
          exact ⟨0, ho5637, hF.sub ⟨rfl, rfl, rfl, rfl, trivial⟩, hO.selT (Ls := [Blk b10 [.int .i64 a1.f0, .slice A5 a1.f1.length c6] 27, Blk b9 [.int .i64 a0.f0, .slice A1 a0.f1.length c2] 27]) [0, 1] 2 rfl rfl rfl⟩
         clear hF hO ho5637
         refine TC.loop (fun n5638 a W => ∃ (x5453 : Int), swageref14_Same.l1 a0 a1 x2185 n5638 x5453 = some o5637 ∧ Fr 91 a [(2, .pointer (some ⟨b9, 0, none⟩)), (3, .pointer (some ⟨b10, 0, none⟩)), (5, .int .i64 x2185), (6, .int .i64 x5453)] ∧ Own G (Blk b10 [.int .i64 a1.f0, .slice A5 a1.f1.length c6] 27 :: Blk b9 [.int .i64 a0.f0, .slice A1 a0.f1.length c2] 27 :: L) W) ?_ ?_ hS
         ·
          rintro a W ⟨x5453, h, hF, hO⟩
          exact none_no h
         ·
          clear hS
          rintro n5638 a W ⟨x5453, h, hF, hO⟩
          rw [swageref14_Same.l1] at h
          refine TC.use ?_ hF hO
          clear hF hO
          refine TC.seq ?_
          refine TC.seq ?_
          refine TC.region ?_
          refine TL.cons (TO.val rfl rfl rfl (Val.move rfl) ?_)
          refine TL.cons (TO.val rfl rfl rfl (Val.fieldAddrB Tryd.underlying27 rfl fsz25 rfl rfl rfl) ?_)
          refine TL.cons (TO.val rfl rfl rfl (Val.loadB 1 agg25 rfl rfl rfl) ?_)
          refine TL.cons (TO.val rfl rfl rfl (Val.move rfl) ?_)
          obtain ⟨y5822, hx5823, h⟩ := bind_no h
          obtain ⟨ad5824, cs5830, hA5825, hi5826, hj5827, hcl5828, hK5829⟩ := Rd.at hr3 hx5823
          obtain ⟨A5831, c5832, rfl, hr5833, hl5834⟩ := k37_openR hK5829
          refine TL.cons (TO.val rfl rfl rfl (Val.indexAddr Tryd.underlying25 fsz37 rfl hA5825 rfl hi5826 hj5827) ?_)
          refine TL.cons (TO.val rfl rfl rfl (Val.fieldAddrE Tryd.underlying37 rfl fsz33 rfl rfl) ?_)
          refine TL.cons (TO.val rfl rfl rfl (Val.loadS agg33 rfl (hcl5828 0 _ rfl)) ?_)
          refine TL.cons (TO.val rfl rfl rfl (Val.len Tryd.underlying33 rfl) ?_)
          refine TL.cons (TO.val rfl rfl rfl (Val.cmp rfl rfl run_lss) ?_)
          refine TL.nil ?_
          refine TQ.then_ ?_
          refine TC.cond_p rfl h (fun hc5836 h => ?_) (fun hc5836 h => ?_)
          ·
           refine TC.skip ?_
           refine TQ.then_ ?_
           refine TC.seq ?_
           refine TC.block ?_
           refine TC.seq ?_
           refine TC.regionAny [] [0, 1, 2, 3, 4, 5, 6, 7, 8, 9, 10, 11, 12, 13, 14, 15, 16, 17, 19] mixed (by kernel_rfl) ?_
           refine TA.take 0 rfl (by kernel_rfl) rfl (PQ.then_ (PQ.inB (PQ.then_ (PQ.then_ (PQ.inB (PQ.then_ (PQ.inB (PQ.then_ (PQ.then_ (PQ.inB (PQ.then_ (PQ.then_ PQ.body)))))))))))) rfl (Val.fieldAddrB Tryd.underlying27 rfl fsz25 rfl rfl rfl) (fun W hO => hO) ?_
           refine TA.take 1 rfl (by kernel_rfl) rfl (PQ.then_ (PQ.inB (PQ.then_ (PQ.then_ (PQ.inB (PQ.then_ (PQ.inB (PQ.then_ (PQ.then_ (PQ.inB (PQ.then_ (PQ.then_ PQ.body)))))))))))) rfl (Val.loadB 1 agg25 rfl rfl rfl) (fun W hO => hO) ?_
           refine TA.take 2 rfl (by kernel_rfl) rfl (PQ.then_ (PQ.inB (PQ.then_ (PQ.then_ (PQ.inB (PQ.then_ (PQ.inB (PQ.then_ (PQ.then_ (PQ.inB (PQ.then_ (PQ.then_ PQ.body)))))))))))) rfl (Val.move rfl) (fun W hO => hO) ?_
           refine TA.take 3 rfl (by kernel_rfl) rfl (PQ.then_ (PQ.inB (PQ.then_ (PQ.then_ (PQ.inB (PQ.then_ (PQ.inB (PQ.then_ (PQ.then_ (PQ.inB (PQ.then_ (PQ.then_ PQ.body)))))))))))) rfl (Val.indexAddr Tryd.underlying25 fsz37 rfl hA5825 rfl hi5826 hj5827) (fun W hO => hO) ?_
           refine TA.take 4 rfl (by kernel_rfl) rfl (PQ.then_ (PQ.inB (PQ.then_ (PQ.then_ (PQ.inB (PQ.then_ (PQ.inB (PQ.then_ (PQ.then_ (PQ.inB (PQ.then_ (PQ.then_ PQ.body)))))))))))) rfl (Val.fieldAddrE Tryd.underlying37 rfl fsz33 rfl rfl) (fun W hO => hO) ?_
           refine TA.take 5 rfl (by kernel_rfl) rfl (PQ.then_ (PQ.inB (PQ.then_ (PQ.then_ (PQ.inB (PQ.then_ (PQ.inB (PQ.then_ (PQ.then_ (PQ.inB (PQ.then_ (PQ.then_ PQ.body)))))))))))) rfl (Val.loadS agg33 rfl (hcl5828 0 _ rfl)) (fun W hO => hO) ?_
           refine TA.take 6 rfl (by kernel_rfl) rfl (PQ.then_ (PQ.inB (PQ.then_ (PQ.then_ (PQ.inB (PQ.then_ (PQ.inB (PQ.then_ (PQ.then_ (PQ.inB (PQ.then_ (PQ.then_ PQ.body)))))))))))) rfl (Val.move rfl) (fun W hO => hO) ?_
           obtain ⟨y5962, hx5963, h⟩ := bind_no h
           obtain ⟨ad5964, cs5970, hA5965, hi5966, hj5967, hcl5968, hK5969⟩ := Rd.at hr5833 hx5963
           obtain ⟨A5971, c5972, rfl, hr5973, hl5974⟩ := k40_openR hK5969
           refine TA.take 7 rfl (by kernel_rfl) rfl (PQ.then_ (PQ.inB (PQ.then_ (PQ.then_ (PQ.inB (PQ.then_ (PQ.inB (PQ.then_ (PQ.then_ (PQ.inB (PQ.then_ (PQ.then_ PQ.body)))))))))))) rfl (Val.indexAddr Tryd.underlying33 fsz40 rfl hA5965 rfl hi5966 hj5967) (fun W hO => hO) ?_
           refine TA.take 8 rfl (by kernel_rfl) rfl (PQ.then_ (PQ.inB (PQ.then_ (PQ.then_ (PQ.inB (PQ.then_ (PQ.inB (PQ.then_ (PQ.then_ (PQ.inB (PQ.then_ (PQ.then_ PQ.body)))))))))))) rfl (Val.loadsS (cs := [.int .i64 y5962.f0, .int .i64 y5962.f1, .int .i64 y5962.f2, .int .i64 y5962.f3, .int .i64 y5962.f4, .slice A5971 y5962.f5.length c5972]) agg40 fsz40 rfl rfl (Cl.sub (off := 0) (n := 6) hcl5968 rfl)) (fun W hO => hO) ?_
           refine TA.take 9 rfl (by kernel_rfl) rfl (PQ.then_ (PQ.inB (PQ.then_ (PQ.then_ (PQ.inB (PQ.then_ (PQ.inB (PQ.then_ (PQ.then_ (PQ.inB (PQ.then_ (PQ.then_ PQ.body)))))))))))) rfl (Val.fieldAddrB Tryd.underlying27 rfl fsz25 rfl rfl rfl) (fun W hO => hO) ?_
           refine TA.take 10 rfl (by kernel_rfl) rfl (PQ.then_ (PQ.inB (PQ.then_ (PQ.then_ (PQ.inB (PQ.then_ (PQ.inB (PQ.then_ (PQ.then_ (PQ.inB (PQ.then_ (PQ.then_ PQ.body)))))))))))) rfl (Val.loadB 0 agg25 rfl rfl rfl) (fun W hO => hO) ?_
           refine TA.take 11 rfl (by kernel_rfl) rfl (PQ.then_ (PQ.inB (PQ.then_ (PQ.then_ (PQ.inB (PQ.then_ (PQ.inB (PQ.then_ (PQ.then_ (PQ.inB (PQ.then_ (PQ.then_ PQ.body)))))))))))) rfl (Val.move rfl) (fun W hO => hO) ?_
           obtain ⟨y5975, hx5976, h⟩ := bind_no h
           obtain ⟨ad5977, cs5983, hA5978, hi5979, hj5980, hcl5981, hK5982⟩ := Rd.at hr7 hx5976
           obtain ⟨A5984, c5985, rfl, hr5986, hl5987⟩ := k37_openR hK5982
           refine TA.take 12 rfl (by kernel_rfl) rfl (PQ.then_ (PQ.inB (PQ.then_ (PQ.then_ (PQ.inB (PQ.then_ (PQ.inB (PQ.then_ (PQ.then_ (PQ.inB (PQ.then_ (PQ.then_ PQ.body)))))))))))) rfl (Val.indexAddr Tryd.underlying25 fsz37 rfl hA5978 rfl hi5979 hj5980) (fun W hO => hO) ?_
           refine TA.take 13 rfl (by kernel_rfl) rfl (PQ.then_ (PQ.inB (PQ.then_ (PQ.then_ (PQ.inB (PQ.then_ (PQ.inB (PQ.then_ (PQ.then_ (PQ.inB (PQ.then_ (PQ.then_ PQ.body)))))))))))) rfl (Val.fieldAddrE Tryd.underlying37 rfl fsz33 rfl rfl) (fun W hO => hO) ?_
           refine TA.take 14 rfl (by kernel_rfl) rfl (PQ.then_ (PQ.inB (PQ.then_ (PQ.then_ (PQ.inB (PQ.then_ (PQ.inB (PQ.then_ (PQ.then_ (PQ.inB (PQ.then_ (PQ.then_ PQ.body)))))))))))) rfl (Val.loadS agg33 rfl (hcl5981 0 _ rfl)) (fun W hO => hO) ?_
           refine TA.take 15 rfl (by kernel_rfl) rfl (PQ.then_ (PQ.inB (PQ.then_ (PQ.then_ (PQ.inB (PQ.then_ (PQ.inB (PQ.then_ (PQ.then_ (PQ.inB (PQ.then_ (PQ.then_ PQ.body)))))))))))) rfl (Val.move rfl) (fun W hO => hO) ?_
           obtain ⟨y5988, hx5989, h⟩ := bind_no h
           obtain ⟨ad5990, cs5996, hA5991, hi5992, hj5993, hcl5994, hK5995⟩ := Rd.at hr5986 hx5989
           obtain ⟨A5997, c5998, rfl, hr5999, hl6000⟩ := k40_openR hK5995
           refine TA.take 16 rfl (by kernel_rfl) rfl (PQ.then_ (PQ.inB (PQ.then_ (PQ.then_ (PQ.inB (PQ.then_ (PQ.inB (PQ.then_ (PQ.then_ (PQ.inB (PQ.then_ (PQ.then_ PQ.body)))))))))))) rfl (Val.indexAddr Tryd.underlying33 fsz40 rfl hA5991 rfl hi5992 hj5993) (fun W hO => hO) ?_
           refine TA.take 17 rfl (by kernel_rfl) rfl (PQ.then_ (PQ.inB (PQ.then_ (PQ.then_ (PQ.inB (PQ.then_ (PQ.inB (PQ.then_ (PQ.then_ (PQ.inB (PQ.then_ (PQ.then_ PQ.body)))))))))))) rfl (Val.loadsS (cs := [.int .i64 y5988.f0, .int .i64 y5988.f1, .int .i64 y5988.f2, .int .i64 y5988.f3, .int .i64 y5988.f4, .slice A5997 y5988.f5.length c5998]) agg40 fsz40 rfl rfl (Cl.sub (off := 0) (n := 6) hcl5994 rfl)) (fun W hO => hO) ?_
           obtain ⟨y6001, hy6002, h⟩ := bind_no h
           refine TA.eff 18 rfl (by kernel_rfl) rfl (TL.callV (Lin := []) (args := [.agg #[.int .i64 y5962.f0, .int .i64 y5962.f1, .int .i64 y5962.f2, .int .i64 y5962.f3, .int .i64 y5962.f4, .slice A5971 y5962.f5.length c5972], .agg #[.int .i64 y5988.f0, .int .i64 y5988.f1, .int .i64 y5988.f2, .int .i64 y5988.f3, .int .i64 y5988.f4, .slice A5997 y5988.f5.length c5998]]) rfl rfl rfl hbd40 rfl rfl (swageref14_SameOp.calls (a0 := y5962) (a1 := y5988) hr5973 hl5974 hr5999 hl6000 hy6002) rfl ?_)
           rintro _ _ _ _ ⟨rfl, rfl, rfl⟩
           refine TA.next (fun W hO => hO) ?_
           refine TA.take 19 rfl (by kernel_rfl) rfl (PQ.then_ (PQ.inB (PQ.then_ (PQ.then_ (PQ.inB (PQ.then_ (PQ.inB (PQ.then_ (PQ.then_ (PQ.inB (PQ.then_ (PQ.then_ PQ.body)))))))))))) rfl (Val.assign rfl) (fun W hO => hO) ?_
           refine TA.done (by kernel_rfl) ?_
           refine TQ.then_ ?_
           refine TC.seq ?_
           refine TC.region ?_
           refine TL.cons (TO.val rfl rfl rfl (Val.move rfl) ?_)
           refine TL.cons (TO.val rfl rfl rfl (Val.not_ rfl) ?_)
           refine TL.nil ?_
           refine TQ.then_ ?_
           refine TC.cond_b rfl h (fun hc6004 h => ?_) (fun hc6004 h => ?_)
           ·
            refine TC.seq ?_
            refine TC.region ?_
            refine TL.cons (TO.val rfl rfl rfl (Val.assign rfl) ?_)
            refine TL.nil ?_
            refine TQ.then_ ?_
            refine TC.ret ?_
            refine TQ.inBR ?_
            refine TQ.thenR ?_
            refine TQ.thenR ?_
            refine TQ.inBR ?_
            refine TQ.thenR ?_
            refine TQ.inBR ?_
            refine TQ.thenR ?_
            refine TQ.thenR ?_
            refine TQ.inBR ?_
            refine TQ.thenR ?_
            refine TQ.thenR ?_
            obtain rfl := Option.some.inj h
            have h := ko5637
            obtain rfl := Option.some.inj h
            have h := ko3269
            obtain rfl := Option.some.inj h
            exact TQ.fin (.inl rfl) rfl Tryd.results11 (.tmp rfl .nil) rfl (FRel.mk (Ls := []) [] 2 (Gd.le.refl _) rfl rfl rfl ⟨rfl, rfl, rfl⟩)
           ·
            refine TC.skip ?_
            refine TQ.inB ?_
            refine TQ.then_ ?_
            refine TC.region ?_
            refine TL.cons (TO.val rfl rfl rfl (Val.move rfl) ?_)
            refine TL.cons (TO.val rfl rfl rfl (Val.cmp rfl rfl run_add) ?_)
            refine TL.cons (TO.val rfl rfl rfl (Val.assign rfl) ?_)
            refine TL.nil ?_
            exact fun a W hF hO => ⟨IntKind.i64.wrap (x5453 + 1), h, hF.sub ⟨rfl, rfl, rfl, rfl, trivial⟩, hO.selT (Ls := [Blk b10 [.int .i64 a1.f0, .slice A5 a1.f1.length c6] 27, Blk b9 [.int .i64 a0.f0, .slice A1 a0.f1.length c2] 27]) [0, 1] 2 rfl rfl rfl⟩
          ·
           refine TC.exit ?_
           refine TQ.thenX ?_
           refine TQ.thenX ?_
           refine TQ.inBX ?_
           exact fun a W hF hO => ⟨Option.some.inj h, hF.sub ⟨rfl, rfl, rfl, trivial⟩, hO.selT (Ls := [Blk b10 [.int .i64 a1.f0, .slice A5 a1.f1.length c6] 27, Blk b9 [.int .i64 a0.f0, .slice A1 a0.f1.length c2] 27]) [0, 1] 2 rfl rfl rfl⟩
      ·
       refine TC.regionAny [] [0, 1, 2, 3, 4, 5, 6, 7, 8, 9, 10, 11, 12, 13, 14, 15, 16, 17, 18, 19, 20, 21, 22, 23, 24, 25, 26, 27, 28, 29] mixed (by kernel_rfl) ?_
       refine TA.take 0 rfl (by kernel_rfl) rfl (PQ.then_ (PQ.then_ (PQ.then_ (PQ.inB (PQ.then_ (PQ.then_ (PQ.inB (PQ.then_ (PQ.then_ PQ.body))))))))) rfl (Val.fieldAddrB Tryd.underlying27 rfl fsz25 rfl rfl rfl) (fun W hO => hO) ?_
       refine TA.take 1 rfl (by kernel_rfl) rfl (PQ.then_ (PQ.then_ (PQ.then_ (PQ.inB (PQ.then_ (PQ.then_ (PQ.inB (PQ.then_ (PQ.then_ PQ.body))))))))) rfl (Val.loadB 1 agg25 rfl rfl rfl) (fun W hO => hO) ?_
       refine TA.take 2 rfl (by kernel_rfl) rfl (PQ.then_ (PQ.then_ (PQ.then_ (PQ.inB (PQ.then_ (PQ.then_ (PQ.inB (PQ.then_ (PQ.then_ PQ.body))))))))) rfl (Val.move rfl) (fun W hO => hO) ?_
       obtain ⟨y6034, hx6035, h⟩ := bind_no h
       obtain ⟨ad6036, cs6042, hA6037, hi6038, hj6039, hcl6040, hK6041⟩ := Rd.at hr3 hx6035
       obtain ⟨A6043, c6044, rfl, hr6045, hl6046⟩ := k37_openR hK6041
       refine TA.take 3 rfl (by kernel_rfl) rfl (PQ.then_ (PQ.then_ (PQ.then_ (PQ.inB (PQ.then_ (PQ.then_ (PQ.inB (PQ.then_ (PQ.then_ PQ.body))))))))) rfl (Val.indexAddr Tryd.underlying25 fsz37 rfl hA6037 rfl hi6038 hj6039) (fun W hO => hO) ?_
       refine TA.take 4 rfl (by kernel_rfl) rfl (PQ.then_ (PQ.then_ (PQ.then_ (PQ.inB (PQ.then_ (PQ.then_ (PQ.inB (PQ.then_ (PQ.then_ PQ.body))))))))) rfl (Val.fieldAddrE Tryd.underlying37 rfl fsz35 rfl rfl) (fun W hO => hO) ?_
       refine TA.take 5 rfl (by kernel_rfl) rfl (PQ.then_ (PQ.then_ (PQ.then_ (PQ.inB (PQ.then_ (PQ.then_ (PQ.inB (PQ.then_ (PQ.then_ PQ.body))))))))) rfl (Val.loadsS (cs := [.int .i64 y6034.f1.f0, .int .i64 y6034.f1.f1, .int .i64 y6034.f1.f2, .int .i64 y6034.f1.f3]) agg35 fsz35 rfl rfl (Cl.sub (off := 1) (n := 4) hcl6040 rfl)) (fun W hO => hO) ?_
       refine TA.take 6 rfl (by kernel_rfl) rfl (PQ.then_ (PQ.then_ (PQ.then_ (PQ.inB (PQ.then_ (PQ.then_ (PQ.inB (PQ.then_ (PQ.then_ PQ.body))))))))) rfl (Val.fieldAddrB Tryd.underlying27 rfl fsz25 rfl rfl rfl) (fun W hO => hO) ?_
       refine TA.take 7 rfl (by kernel_rfl) rfl (PQ.then_ (PQ.then_ (PQ.then_ (PQ.inB (PQ.then_ (PQ.then_ (PQ.inB (PQ.then_ (PQ.then_ PQ.body))))))))) rfl (Val.loadB 0 agg25 rfl rfl rfl) (fun W hO => hO) ?_
       refine TA.take 8 rfl (by kernel_rfl) rfl (PQ.then_ (PQ.then_ (PQ.then_ (PQ.inB (PQ.then_ (PQ.then_ (PQ.inB (PQ.then_ (PQ.then_ PQ.body))))))))) rfl (Val.move rfl) (fun W hO => hO) ?_
       obtain ⟨y6047, hx6048, h⟩ := bind_no h
       obtain ⟨ad6049, cs6055, hA6050, hi6051, hj6052, hcl6053, hK6054⟩ := Rd.at hr7 hx6048
       obtain ⟨A6056, c6057, rfl, hr6058, hl6059⟩ := k37_openR hK6054
       refine TA.take 9 rfl (by kernel_rfl) rfl (PQ.then_ (PQ.then_ (PQ.then_ (PQ.inB (PQ.then_ (PQ.then_ (PQ.inB (PQ.then_ (PQ.then_ PQ.body))))))))) rfl (Val.indexAddr Tryd.underlying25 fsz37 rfl hA6050 rfl hi6051 hj6052) (fun W hO => hO) ?_
       refine TA.take 10 rfl (by kernel_rfl) rfl (PQ.then_ (PQ.then_ (PQ.then_ (PQ.inB (PQ.then_ (PQ.then_ (PQ.inB (PQ.then_ (PQ.then_ PQ.body))))))))) rfl (Val.fieldAddrE Tryd.underlying37 rfl fsz35 rfl rfl) (fun W hO => hO) ?_
       refine TA.take 11 rfl (by kernel_rfl) rfl (PQ.then_ (PQ.then_ (PQ.then_ (PQ.inB (PQ.then_ (PQ.then_ (PQ.inB (PQ.then_ (PQ.then_ PQ.body))))))))) rfl (Val.loadsS (cs := [.int .i64 y6047.f1.f0, .int .i64 y6047.f1.f1, .int .i64 y6047.f1.f2, .int .i64 y6047.f1.f3]) agg35 fsz35 rfl rfl (Cl.sub (off := 1) (n := 4) hcl6053 rfl)) (fun W hO => hO) ?_
       refine TA.take 12 rfl (by kernel_rfl) rfl (PQ.then_ (PQ.then_ (PQ.then_ (PQ.inB (PQ.then_ (PQ.then_ (PQ.inB (PQ.then_ (PQ.then_ PQ.body))))))))) rfl (Val.neA eqg35 rfl rfl (fun W => eqs35 9998 W _ _ _ _ _ _ _ _)) (fun W hO => hO) ?_
       refine TA.take 13 rfl (by kernel_rfl) rfl (PQ.then_ (PQ.then_ (PQ.then_ (PQ.inB (PQ.then_ (PQ.then_ (PQ.inB (PQ.then_ (PQ.then_ PQ.body))))))))) rfl (Val.move rfl) (fun W hO => hO) ?_
       refine TK.split (p := (!((y6034.f1.f0 == y6047.f1.f0) && ((y6034.f1.f1 == y6047.f1.f1) && ((y6034.f1.f2 == y6047.f1.f2) && (y6034.f1.f3 == y6047.f1.f3))))) = true) h (fun hg6060 h => ?_) (fun hg6060 h => ?_)
       ·
        have hk6061 : (!((y6034.f1.f0 == y6047.f1.f0) && ((y6034.f1.f1 == y6047.f1.f1) && ((y6034.f1.f2 == y6047.f1.f2) && (y6034.f1.f3 == y6047.f1.f3))))) = true := hg6060
        refine TA.not 14 rfl (by kernel_rfl) rfl (PQ.then_ (PQ.then_ (PQ.then_ (PQ.inB (PQ.then_ (PQ.then_ (PQ.inB (PQ.then_ (PQ.then_ PQ.body))))))))) (Wt.no rfl rfl rfl hk6061) (fun W hO => hO) ?_
        refine TA.not 15 rfl (by kernel_rfl) rfl (PQ.then_ (PQ.then_ (PQ.then_ (PQ.inB (PQ.then_ (PQ.then_ (PQ.inB (PQ.then_ (PQ.then_ PQ.body))))))))) (Wt.no rfl rfl rfl hk6061) (fun W hO => hO) ?_
        refine TA.not 16 rfl (by kernel_rfl) rfl (PQ.then_ (PQ.then_ (PQ.then_ (PQ.inB (PQ.then_ (PQ.then_ (PQ.inB (PQ.then_ (PQ.then_ PQ.body))))))))) (Wt.no rfl rfl rfl hk6061) (fun W hO => hO) ?_
        refine TA.not 17 rfl (by kernel_rfl) rfl (PQ.then_ (PQ.then_ (PQ.then_ (PQ.inB (PQ.then_ (PQ.then_ (PQ.inB (PQ.then_ (PQ.then_ PQ.body))))))))) (Wt.no rfl rfl rfl hk6061) (fun W hO => hO) ?_
        refine TA.not 18 rfl (by kernel_rfl) rfl (PQ.then_ (PQ.then_ (PQ.then_ (PQ.inB (PQ.then_ (PQ.then_ (PQ.inB (PQ.then_ (PQ.then_ PQ.body))))))))) (Wt.no rfl rfl rfl hk6061) (fun W hO => hO) ?_
        refine TA.not 19 rfl (by kernel_rfl) rfl (PQ.then_ (PQ.then_ (PQ.then_ (PQ.inB (PQ.then_ (PQ.then_ (PQ.inB (PQ.then_ (PQ.then_ PQ.body))))))))) (Wt.no rfl rfl rfl hk6061) (fun W hO => hO) ?_
        refine TA.not 20 rfl (by kernel_rfl) rfl (PQ.then_ (PQ.then_ (PQ.then_ (PQ.inB (PQ.then_ (PQ.then_ (PQ.inB (PQ.then_ (PQ.then_ PQ.body))))))))) (Wt.no rfl rfl rfl hk6061) (fun W hO => hO) ?_
        refine TA.not 21 rfl (by kernel_rfl) rfl (PQ.then_ (PQ.then_ (PQ.then_ (PQ.inB (PQ.then_ (PQ.then_ (PQ.inB (PQ.then_ (PQ.then_ PQ.body))))))))) (Wt.no rfl rfl rfl hk6061) (fun W hO => hO) ?_
        refine TA.not 22 rfl (by kernel_rfl) rfl (PQ.then_ (PQ.then_ (PQ.then_ (PQ.inB (PQ.then_ (PQ.then_ (PQ.inB (PQ.then_ (PQ.then_ PQ.body))))))))) (Wt.no rfl rfl rfl hk6061) (fun W hO => hO) ?_
        refine TA.not 23 rfl (by kernel_rfl) rfl (PQ.then_ (PQ.then_ (PQ.then_ (PQ.inB (PQ.then_ (PQ.then_ (PQ.inB (PQ.then_ (PQ.then_ PQ.body))))))))) (Wt.no rfl rfl rfl hk6061) (fun W hO => hO) ?_
        refine TA.not 24 rfl (by kernel_rfl) rfl (PQ.then_ (PQ.then_ (PQ.then_ (PQ.inB (PQ.then_ (PQ.then_ (PQ.inB (PQ.then_ (PQ.then_ PQ.body))))))))) (Wt.no rfl rfl rfl hk6061) (fun W hO => hO) ?_
        refine TA.not 25 rfl (by kernel_rfl) rfl (PQ.then_ (PQ.then_ (PQ.then_ (PQ.inB (PQ.then_ (PQ.then_ (PQ.inB (PQ.then_ (PQ.then_ PQ.body))))))))) (Wt.no rfl rfl rfl hk6061) (fun W hO => hO) ?_
        refine TA.not 26 rfl (by kernel_rfl) rfl (PQ.then_ (PQ.then_ (PQ.then_ (PQ.inB (PQ.then_ (PQ.then_ (PQ.inB (PQ.then_ (PQ.then_ PQ.body))))))))) (Wt.no rfl rfl rfl hk6061) (fun W hO => hO) ?_
        refine TA.not 27 rfl (by kernel_rfl) rfl (PQ.then_ (PQ.then_ (PQ.then_ (PQ.inB (PQ.then_ (PQ.then_ (PQ.inB (PQ.then_ (PQ.then_ PQ.body))))))))) (Wt.no rfl rfl rfl hk6061) (fun W hO => hO) ?_
        refine TA.not 28 rfl (by kernel_rfl) rfl (PQ.then_ (PQ.then_ (PQ.then_ (PQ.inB (PQ.then_ (PQ.then_ (PQ.inB (PQ.then_ (PQ.then_ PQ.body))))))))) (Wt.no rfl rfl rfl hk6061) (fun W hO => hO) ?_
        refine TA.take 29 rfl (by kernel_rfl) rfl (PQ.then_ (PQ.then_ (PQ.then_ (PQ.inB (PQ.then_ (PQ.then_ (PQ.inB (PQ.then_ (PQ.then_ PQ.body))))))))) rfl (Val.pickY rfl hk6061 rfl) (fun W hO => hO) ?_
        refine TA.done (by kernel_rfl) ?_
        exact fun a W hF hO => ⟨true, h, hF.sub ⟨rfl, rfl, rfl, rfl, trivial⟩, hO.selT (Ls := [Blk b10 [.int .i64 a1.f0, .slice A5 a1.f1.length c6] 27, Blk b9 [.int .i64 a0.f0, .slice A1 a0.f1.length c2] 27]) [0, 1] 2 rfl rfl rfl⟩
       ·
        have hk6062 : (!((y6034.f1.f0 == y6047.f1.f0) && ((y6034.f1.f1 == y6047.f1.f1) && ((y6034.f1.f2 == y6047.f1.f2) && (y6034.f1.f3 == y6047.f1.f3))))) = false := (by simpa using hg6060)
        refine TA.take 14 rfl (by kernel_rfl) rfl (PQ.then_ (PQ.then_ (PQ.then_ (PQ.inB (PQ.then_ (PQ.then_ (PQ.inB (PQ.then_ (PQ.then_ PQ.body))))))))) (Wt.yes rfl rfl rfl hk6062) (Val.fieldAddrB Tryd.underlying27 rfl fsz25 rfl rfl rfl) (fun W hO => hO) ?_
        refine TA.take 15 rfl (by kernel_rfl) rfl (PQ.then_ (PQ.then_ (PQ.then_ (PQ.inB (PQ.then_ (PQ.then_ (PQ.inB (PQ.then_ (PQ.then_ PQ.body))))))))) (Wt.yes rfl rfl rfl hk6062) (Val.loadB 1 agg25 rfl rfl rfl) (fun W hO => hO) ?_
        refine TA.take 16 rfl (by kernel_rfl) rfl (PQ.then_ (PQ.then_ (PQ.then_ (PQ.inB (PQ.then_ (PQ.then_ (PQ.inB (PQ.then_ (PQ.then_ PQ.body))))))))) (Wt.yes rfl rfl rfl hk6062) (Val.move rfl) (fun W hO => hO) ?_
        refine TA.take 17 rfl (by kernel_rfl) rfl (PQ.then_ (PQ.then_ (PQ.then_ (PQ.inB (PQ.then_ (PQ.then_ (PQ.inB (PQ.then_ (PQ.then_ PQ.body))))))))) (Wt.yes rfl rfl rfl hk6062) (Val.indexAddr Tryd.underlying25 fsz37 rfl hA6037 rfl hi6038 hj6039) (fun W hO => hO) ?_
        refine TA.take 18 rfl (by kernel_rfl) rfl (PQ.then_ (PQ.then_ (PQ.then_ (PQ.inB (PQ.then_ (PQ.then_ (PQ.inB (PQ.then_ (PQ.then_ PQ.body))))))))) (Wt.yes rfl rfl rfl hk6062) (Val.fieldAddrE Tryd.underlying37 rfl fsz33 rfl rfl) (fun W hO => hO) ?_
        refine TA.take 19 rfl (by kernel_rfl) rfl (PQ.then_ (PQ.then_ (PQ.then_ (PQ.inB (PQ.then_ (PQ.then_ (PQ.inB (PQ.then_ (PQ.then_ PQ.body))))))))) (Wt.yes rfl rfl rfl hk6062) (Val.loadS agg33 rfl (hcl6040 0 _ rfl)) (fun W hO => hO) ?_
        refine TA.take 20 rfl (by kernel_rfl) rfl (PQ.then_ (PQ.then_ (PQ.then_ (PQ.inB (PQ.then_ (PQ.then_ (PQ.inB (PQ.then_ (PQ.then_ PQ.body))))))))) (Wt.yes rfl rfl rfl hk6062) (Val.len Tryd.underlying33 rfl) (fun W hO => hO) ?_
        refine TA.take 21 rfl (by kernel_rfl) rfl (PQ.then_ (PQ.then_ (PQ.then_ (PQ.inB (PQ.then_ (PQ.then_ (PQ.inB (PQ.then_ (PQ.then_ PQ.body))))))))) (Wt.yes rfl rfl rfl hk6062) (Val.fieldAddrB Tryd.underlying27 rfl fsz25 rfl rfl rfl) (fun W hO => hO) ?_
        refine TA.take 22 rfl (by kernel_rfl) rfl (PQ.then_ (PQ.then_ (PQ.then_ (PQ.inB (PQ.then_ (PQ.then_ (PQ.inB (PQ.then_ (PQ.then_ PQ.body))))))))) (Wt.yes rfl rfl rfl hk6062) (Val.loadB 0 agg25 rfl rfl rfl) (fun W hO => hO) ?_
        refine TA.take 23 rfl (by kernel_rfl) rfl (PQ.then_ (PQ.then_ (PQ.then_ (PQ.inB (PQ.then_ (PQ.then_ (PQ.inB (PQ.then_ (PQ.then_ PQ.body))))))))) (Wt.yes rfl rfl rfl hk6062) (Val.move rfl) (fun W hO => hO) ?_
        refine TA.take 24 rfl (by kernel_rfl) rfl (PQ.then_ (PQ.then_ (PQ.then_ (PQ.inB (PQ.then_ (PQ.then_ (PQ.inB (PQ.then_ (PQ.then_ PQ.body))))))))) (Wt.yes rfl rfl rfl hk6062) (Val.indexAddr Tryd.underlying25 fsz37 rfl hA6050 rfl hi6051 hj6052) (fun W hO => hO) ?_
        refine TA.take 25 rfl (by kernel_rfl) rfl (PQ.then_ (PQ.then_ (PQ.then_ (PQ.inB (PQ.then_ (PQ.then_ (PQ.inB (PQ.then_ (PQ.then_ PQ.body))))))))) (Wt.yes rfl rfl rfl hk6062) (Val.fieldAddrE Tryd.underlying37 rfl fsz33 rfl rfl) (fun W hO => hO) ?_
        refine TA.take 26 rfl (by kernel_rfl) rfl (PQ.then_ (PQ.then_ (PQ.then_ (PQ.inB (PQ.then_ (PQ.then_ (PQ.inB (PQ.then_ (PQ.then_ PQ.body))))))))) (Wt.yes rfl rfl rfl hk6062) (Val.loadS agg33 rfl (hcl6053 0 _ rfl)) (fun W hO => hO) ?_
        refine TA.take 27 rfl (by kernel_rfl) rfl (PQ.then_ (PQ.then_ (PQ.then_ (PQ.inB (PQ.then_ (PQ.then_ (PQ.inB (PQ.then_ (PQ.then_ PQ.body))))))))) (Wt.yes rfl rfl rfl hk6062) (Val.len Tryd.underlying33 rfl) (fun W hO => hO) ?_
        refine TA.take 28 rfl (by kernel_rfl) rfl (PQ.then_ (PQ.then_ (PQ.then_ (PQ.inB (PQ.then_ (PQ.then_ (PQ.inB (PQ.then_ (PQ.then_ PQ.body))))))))) (Wt.yes rfl rfl rfl hk6062) (Val.cmp rfl rfl run_neq) (fun W hO => hO) ?_
        refine TA.take 29 rfl (by kernel_rfl) rfl (PQ.then_ (PQ.then_ (PQ.then_ (PQ.inB (PQ.then_ (PQ.then_ (PQ.inB (PQ.then_ (PQ.then_ PQ.body))))))))) rfl (Val.pickN rfl hk6062 rfl) (fun W hO => hO) ?_
        refine TA.done (by kernel_rfl) ?_
        exact fun a W hF hO => ⟨(!decide ((y6034.f0.length : Int) = (y6047.f0.length : Int))), h, hF.sub ⟨rfl, rfl, rfl, rfl, trivial⟩, hO.selT (Ls := [Blk b10 [.int .i64 a1.f0, .slice A5 a1.f1.length c6] 27, Blk b9 [.int .i64 a0.f0, .slice A1 a0.f1.length c2] 27]) [0, 1] 2 rfl rfl rfl⟩
     ·
      refine TC.exit ?_
      refine TQ.thenX ?_
      refine TQ.thenX ?_
      refine TQ.inBX ?_
      exact fun a W hF hO => ⟨Option.some.inj h, hF.sub trivial, hO.selT (Ls := []) [] 2 rfl rfl rfl⟩
 ·
  refine TC.region ?_
  refine TL.cons (TO.val rfl rfl rfl (Val.fieldAddrB Tryd.underlying27 rfl fsz3 rfl rfl rfl) ?_)
  refine TL.cons (TO.val rfl rfl rfl (Val.loadB 1 agg3 rfl rfl rfl) ?_)
  refine TL.cons (TO.val rfl rfl rfl (Val.fieldAddrB Tryd.underlying27 rfl fsz3 rfl rfl rfl) ?_)
  refine TL.cons (TO.val rfl rfl rfl (Val.loadB 0 agg3 rfl rfl rfl) ?_)
  refine TL.cons (TO.val rfl rfl rfl (Val.cmp rfl rfl run_neq) ?_)
  refine TL.cons (TO.val rfl rfl rfl (Val.move rfl) ?_)
  refine TK.split (p := (!decide (a0.f0 = a1.f0)) = true) h (fun hg6063 h => ?_) (fun hg6063 h => ?_)
  ·
   have hk6064 : (!decide (a0.f0 = a1.f0)) = true := hg6063
   refine TL.cons (TL.not (Wt.no rfl rfl rfl hk6064) rfl ?_)
   refine TL.cons (TL.not (Wt.no rfl rfl rfl hk6064) rfl ?_)
   refine TL.cons (TL.not (Wt.no rfl rfl rfl hk6064) rfl ?_)
   refine TL.cons (TL.not (Wt.no rfl rfl rfl hk6064) rfl ?_)
   refine TL.cons (TL.not (Wt.no rfl rfl rfl hk6064) rfl ?_)
   refine TL.cons (TL.not (Wt.no rfl rfl rfl hk6064) rfl ?_)
   refine TL.cons (TL.not (Wt.no rfl rfl rfl hk6064) rfl ?_)
   refine TL.cons (TO.val rfl rfl rfl (Val.pickY rfl hk6064 rfl) ?_)
   refine TL.nil ?_
   exact fun a W hF hO => ⟨true, h, hF.sub ⟨rfl, rfl, rfl, trivial⟩, hO.selT (Ls := [Blk b10 [.int .i64 a1.f0, .slice A5 a1.f1.length c6] 27, Blk b9 [.int .i64 a0.f0, .slice A1 a0.f1.length c2] 27]) [0, 1] 2 rfl rfl rfl⟩
  ·
   have hk6065 : (!decide (a0.f0 = a1.f0)) = false := (by simpa using hg6063)
   refine TL.cons (TO.val (Wt.yes rfl rfl rfl hk6065) rfl rfl (Val.fieldAddrB Tryd.underlying27 rfl fsz25 rfl rfl rfl) ?_)
   refine TL.cons (TO.val (Wt.yes rfl rfl rfl hk6065) rfl rfl (Val.loadB 1 agg25 rfl rfl rfl) ?_)
   refine TL.cons (TO.val (Wt.yes rfl rfl rfl hk6065) rfl rfl (Val.len Tryd.underlying25 rfl) ?_)
   refine TL.cons (TO.val (Wt.yes rfl rfl rfl hk6065) rfl rfl (Val.fieldAddrB Tryd.underlying27 rfl fsz25 rfl rfl rfl) ?_)
   refine TL.cons (TO.val (Wt.yes rfl rfl rfl hk6065) rfl rfl (Val.loadB 0 agg25 rfl rfl rfl) ?_)
   refine TL.cons (TO.val (Wt.yes rfl rfl rfl hk6065) rfl rfl (Val.len Tryd.underlying25 rfl) ?_)
   refine TL.cons (TO.val (Wt.yes rfl rfl rfl hk6065) rfl rfl (Val.cmp rfl rfl run_neq) ?_)
   refine TL.cons (TO.val rfl rfl rfl (Val.pickN rfl hk6065 rfl) ?_)
   refine TL.nil ?_
   exact fun a W hF hO => ⟨(!decide ((a0.f1.length : Int) = (a1.f1.length : Int))), h, hF.sub ⟨rfl, rfl, rfl, trivial⟩, hO.selT (Ls := [Blk b10 [.int .i64 a1.f0, .slice A5 a1.f1.length c6] 27, Blk b9 [.int .i64 a0.f0, .slice A1 a0.f1.length c2] 27]) [0, 1] 2 rfl rfl rfl⟩
end Go.Proofs.YtmacdhkfgoahcaaDoor.Sy
set_option linter.unusedVariables false
set_option linter.unusedSimpArgs false
namespace Go.Proofs.YtmacdhkfgoahcaaDoor.Sy
open Go Go.RowKit Go.Proofs.YtmacdhkfgoahcaaDoorW.PrintWords Go.Proofs.YtmacdhkfgoahcaaDoor.SyO
/-- A loop over a row, told of what is left. -/
theorem loopd {α ρ : Type} {xs : List α} (hl : xs.length ≤ 140737488355328) {F : Nat → Int → ρ} {P : List α → ρ → Prop} (hend : ∀ n, P [] (F (n + 1) (xs.length : Int)))
    (hstep : ∀ n (i : Nat) y r, xs.drop i = y :: r → (i : Int) < (xs.length : Int) → at? xs (i : Int) = some y → y ∈ xs → IntKind.i64.wrap ((i : Int) + 1) = ((i + 1 : Nat) : Int) → P r (F n ((i + 1 : Nat) : Int)) → P (y :: r) (F (n + 1) (i : Int))) :
    ∀ n, xs.length < n → P xs (F n 0) := by
  have key : ∀ (ys : List α) (n i : Nat), xs.drop i = ys → ys.length < n → i ≤ xs.length → P ys (F n (i : Int)) := by
    intro ys
    induction ys with
    | nil =>
      intro n i hd hn hi
      have hlen := congrArg List.length hd
      rw [List.length_drop, List.length_nil] at hlen
      obtain rfl : i = xs.length := by omega
      obtain ⟨m, rfl⟩ : ∃ m, n = m + 1 := ⟨n - 1, by simp at hn; omega⟩
      exact hend m
    | cons y r ih =>
      intro n i hd hn hi
      obtain ⟨h1, h2, h3, h4⟩ := drop_cons hd
      obtain ⟨m, rfl⟩ : ∃ m, n = m + 1 := ⟨n - 1, by omega⟩
      exact hstep m i y r hd h1 h2 h4 (wsucc (by omega)) (ih m (i + 1) h3 (by simp at hn; omega) (by omega))
  intro n hn
  exact key xs n 0 (by simp) hn (by omega)
theorem at_nat {α : Type} {xs : List α} {i : Nat} {y : α} : at? xs (i : Int) = some y ↔ xs[i]? = some y := by
  unfold at?; rw [if_pos (by omega), Int.toNat_natCast]
theorem set_same {α : Type} {xs : List α} {i : Int} {y : α} (h : at? xs i = some y) : xs.set i.toNat y = xs := by
  unfold at? at h
  split at h
  · apply List.ext_getElem?
    intro j
    by_cases hj : i.toNat = j
    · subst hj; rw [List.getElem?_set_self (List.getElem?_eq_some_iff.1 h).1, h]
    · rw [List.getElem?_set_ne hj]
  · cases h
theorem at_zip {α β : Type} {xs : List α} {zs : List β} {i : Nat} {p : α × β} (h : at? (xs.zip zs) (i : Int) = some p) : at? xs (i : Int) = some p.1 ∧ at? zs (i : Int) = some p.2 := by
  rw [at_nat] at h
  rw [at_nat, at_nat]
  obtain ⟨h1, h2⟩ := List.getElem?_eq_some_iff.1 h
  rw [List.length_zip] at h1
  rw [List.getElem_zip] at h2
  subst h2
  exact ⟨List.getElem?_eq_getElem _, List.getElem?_eq_getElem _⟩
theorem zip_all {α : Type} : ∀ {xs zs : List α}, xs.length = zs.length → ((∀ p ∈ xs.zip zs, p.1 = p.2) ↔ xs = zs)
  | [], [], _ => by simp
  | x :: xs, z :: zs, h => by
    have ih := zip_all (xs := xs) (zs := zs) (by simpa using h)
    simp only [List.zip_cons_cons, List.mem_cons, forall_eq_or_imp, List.cons.injEq]
    rw [← ih]
/-! #### Copies -/
theorem clone_int {l : List Int} (h : l.length ≤ 1000) : slices_Clone_int_int.f l = some l := by
  unfold slices_Clone_int_int.f; rw [if_pos (by simp; omega), List.nil_append]
theorem clone_op {l : List S40} (h : l.length ≤ 1000) : slices_Clone_api_Op_api_Op.f l = some l := by
  unfold slices_Clone_api_Op_api_Op.f; rw [if_pos (by simp; omega), List.nil_append]
theorem clone_blk {l : List S37} (h : l.length ≤ 1000) : slices_Clone_api_Block_api_Block.f l = some l := by
  unfold slices_Clone_api_Block_api_Block.f; rw [if_pos (by simp; omega), List.nil_append]
theorem ccopy_l1 {l : List S40} (hl : l.length ≤ 1000) (ho : ∀ o ∈ l, o.f5.length ≤ 20) : code_Copy.l1 l (l.length + 1) l 0 = some l := by
  refine loopd (xs := l) (F := fun n i z => code_Copy.l1 l n z i) (P := fun _ f => f l = some l) (by omega) (fun n => ?_) (fun n i y r hd hlt hat hm hw ih => ?_) (l.length + 1) (by omega)
  · simp [code_Copy.l1]
  · show code_Copy.l1 l (n + 1) l i = some l
    rw [code_Copy.l1, if_pos hlt, hat, Option.bind_some, clone_int (by have := ho y hm; omega), Option.bind_some, Option.bind_some, set_same hat, hw]
    exact ih
theorem ccopy_f {t : S27} (h : Fewp t) : code_Copy.f t = some t := by
  obtain ⟨h1, h2, h3⟩ := h
  unfold code_Copy.f
  rw [clone_blk (by omega), Option.bind_some]
  have : code_Copy.l0 t.f1 (t.f1.length + 1) t.f1 0 = some t.f1 := by
    refine loopd (xs := t.f1) (F := fun n i z => code_Copy.l0 t.f1 n z i) (P := fun _ f => f t.f1 = some t.f1) (by omega) (fun n => ?_) (fun n i y r hd hlt hat hm hw ih => ?_) (t.f1.length + 1) (by omega)
    · simp [code_Copy.l0]
    · show code_Copy.l0 t.f1 (n + 1) t.f1 i = some t.f1
      rw [code_Copy.l0, if_pos hlt, hat, Option.bind_some, clone_op (by have := (h3 y hm).1; omega), Option.bind_some, ccopy_l1 (by have := (h3 y hm).1; omega) (h3 y hm).2, Option.bind_some, Option.bind_some, set_same hat, hw]
      exact ih
  rw [this, Option.bind_some]
theorem rcopy_l1 {t : S27} {j : Int} {y : S37} (hy : at? t.f1 j = some y) (hl : y.f0.length ≤ 1000) (ho : ∀ o ∈ y.f0, o.f5.length ≤ 20) : swageref14_Copy.l1 t j (y.f0.length + 1) 0 [] = some y.f0 := by
  have := loopd (xs := y.f0) (F := fun n i z => swageref14_Copy.l1 t j n i z) (P := fun ys f => ∀ acc, acc.length + ys.length ≤ 2000 → f acc = some (acc ++ ys)) (by omega) (fun n acc h => ?_) (fun n i o r hd hlt hat hm hw ih acc h => ?_) (y.f0.length + 1) (by omega)
  · have := this [] (by simp; omega); simpa using this
  · simp [swageref14_Copy.l1, hy]
  · show swageref14_Copy.l1 t j (n + 1) i acc = _
    simp only [List.length_cons] at h
    rw [swageref14_Copy.l1, hy, Option.bind_some, if_pos hlt, hat, Option.bind_some, if_pos (by have := ho o hm; simp; omega), if_pos (by omega), hw, List.nil_append]
    have := ih (acc ++ [o]) (by simp; omega)
    simpa using this
theorem rcopy_f {t : S27} (h : Fewp t) : swageref14_Copy.f t = some t := by
  obtain ⟨h1, h2, h3⟩ := h
  unfold swageref14_Copy.f
  have := loopd (xs := t.f1) (F := fun n i z => swageref14_Copy.l0 t n i z) (P := fun ys f => ∀ acc, acc.length + ys.length ≤ 2000 → f acc = some (acc ++ ys)) (by omega) (fun n acc h => ?_) (fun n i y r hd hlt hat hm hw ih acc h => ?_) (t.f1.length + 1) (by omega)
  · have h0 := this [] (by simp; omega)
    simp only [List.nil_append] at h0
    rw [h0, Option.bind_some]
  · simp [swageref14_Copy.l0]
  · show swageref14_Copy.l0 t (n + 1) i acc = _
    simp only [List.length_cons] at h
    rw [swageref14_Copy.l0, if_pos hlt, hat, Option.bind_some, Option.elim_some, rcopy_l1 hat (by have := (h3 y hm).1; omega) (h3 y hm).2, Option.bind_some, if_pos (by omega), hw]
    have := ih (acc ++ [y]) (by simp; omega)
    simpa using this
/-! #### Alike, as the document says -/
theorem ints_f {a b : List Int} (hl : a.length ≤ 1000) : swageref02_Ints.f a b = some (decide (a = b)) := by
  unfold swageref02_Ints.f
  by_cases h : a.length = b.length
  · rw [decide_eq_true (by omega : (a.length : Int) = (b.length : Int)), if_neg (by simp)]
    have hz : (a.zip b).length = a.length := by rw [List.length_zip]; omega
    have := loopd (xs := a.zip b) (F := fun n i => swageref02_Ints.l0 a b n i) (P := fun ps r => (r = some (.inr ()) ∧ ∀ p ∈ ps, p.1 = p.2) ∨ (r = some (.inl false) ∧ ¬ ∀ p ∈ ps, p.1 = p.2)) (by omega) (fun n => ?_) (fun n i p r hd hlt hat hm hw ih => ?_) (a.length + 1) (by omega)
    · rw [zip_all h] at this
      rcases this with ⟨h1, h2⟩ | ⟨h1, h2⟩
      · rw [h1, decide_eq_true h2]; rfl
      · rw [h1, decide_eq_false h2]; rfl
    · left; rw [hz]; simp [swageref02_Ints.l0]
    · obtain ⟨h1, h2⟩ := at_zip hat
      rw [swageref02_Ints.l0, if_pos (by omega), h1, Option.bind_some, h2, Option.bind_some]
      by_cases he : p.1 = p.2
      · rw [decide_eq_true he, if_neg (by simp), hw]
        rcases ih with ⟨i1, i2⟩ | ⟨i1, i2⟩
        · exact .inl ⟨i1, by simpa [he] using i2⟩
        · exact .inr ⟨i1, fun hh => i2 (fun q hq => hh q (List.mem_cons_of_mem _ hq))⟩
      · rw [decide_eq_false he, if_pos (by simp)]
        exact .inr ⟨rfl, fun hh => he (hh p List.mem_cons_self)⟩
  · rw [decide_eq_false (by omega : ¬ (a.length : Int) = (b.length : Int)), if_pos (by simp), decide_eq_false (fun e => h (by rw [e]))]
theorem rsameOp_f {a b : S40} (hl : a.f5.length ≤ 20) : ∃ r, swageref14_SameOp.f a b = some r ∧ (r = true ↔ a = b) := by
  unfold swageref14_SameOp.f
  rw [ints_f (by omega), Option.bind_some]
  have key : (a = b) ↔ (a.f5 = b.f5 ∧ a.f0 = b.f0 ∧ a.f1 = b.f1 ∧ a.f2 = b.f2 ∧ a.f3 = b.f3 ∧ a.f4 = b.f4) := by
    constructor
    · rintro rfl; simp
    · rintro ⟨h5, h0, h1, h2, h3, h4⟩; cases a; cases b; simp only at h5 h0 h1 h2 h3 h4; subst h5; subst h0; subst h1; subst h2; subst h3; subst h4; rfl
  rw [key]
  by_cases h5 : a.f5 = b.f5
  · rw [decide_eq_true h5, if_pos rfl]
    by_cases h0 : a.f0 = b.f0
    · rw [if_pos h0]
      by_cases h1 : a.f1 = b.f1
      · rw [if_pos h1]
        by_cases h2 : a.f2 = b.f2
        · rw [if_pos h2]
          by_cases h3 : a.f3 = b.f3
          · rw [if_pos h3]; exact ⟨_, rfl, by simp [h5, h0, h1, h2, h3]⟩
          · rw [if_neg h3]; exact ⟨_, rfl, by simp [h3]⟩
        · rw [if_neg h2]; exact ⟨_, rfl, by simp [h2]⟩
      · rw [if_neg h1]; exact ⟨_, rfl, by simp [h1]⟩
    · rw [if_neg h0]; exact ⟨_, rfl, by simp [h0]⟩
  · rw [decide_eq_false h5, if_neg (by simp)]; exact ⟨_, rfl, by simp [h5]⟩
theorem rsame_l1 {a b : S27} {j : Int} {y z : S37} (hy : at? a.f1 j = some y) (hz : at? b.f1 j = some z) (hl : y.f0.length ≤ 1000) (ho : ∀ o ∈ y.f0, o.f5.length ≤ 20) (h : y.f0.length = z.f0.length) :
    (swageref14_Same.l1 a b j (y.f0.length + 1) 0 = some (.inr ()) ∧ y.f0 = z.f0) ∨ (swageref14_Same.l1 a b j (y.f0.length + 1) 0 = some (.inl (.inl false)) ∧ ¬ y.f0 = z.f0) := by
  have hzl : (y.f0.zip z.f0).length = y.f0.length := by rw [List.length_zip]; omega
  have := loopd (xs := y.f0.zip z.f0) (F := fun n i => swageref14_Same.l1 a b j n i) (P := fun ps r => (r = some (.inr ()) ∧ ∀ p ∈ ps, p.1 = p.2) ∨ (r = some (.inl (.inl false)) ∧ ¬ ∀ p ∈ ps, p.1 = p.2)) (by omega) (fun n => ?_) (fun n i p r hd hlt hat hm hw ih => ?_) (y.f0.length + 1) (by omega)
  · rw [zip_all h] at this; exact this
  · left; rw [hzl]; simp [swageref14_Same.l1, hy]
  · obtain ⟨h1, h2⟩ := at_zip hat
    have hm1 : p.1 ∈ y.f0 := by rw [at_nat] at h1; exact List.mem_of_getElem? h1
    obtain ⟨w, w1, w2⟩ := rsameOp_f (a := p.1) (b := p.2) (ho _ hm1)
    rw [swageref14_Same.l1, hy, Option.bind_some, if_pos (by omega), h1, Option.bind_some, hz, Option.bind_some, h2, Option.bind_some, w1, Option.bind_some]
    by_cases he : p.1 = p.2
    · rw [w2.2 he, if_neg (by simp), hw]
      rcases ih with ⟨i1, i2⟩ | ⟨i1, i2⟩
      · exact .inl ⟨i1, by simpa [he] using i2⟩
      · exact .inr ⟨i1, fun hh => i2 (fun q hq => hh q (List.mem_cons_of_mem _ hq))⟩
    · have hw' : w = false := by cases w; rfl; exact absurd (w2.1 rfl) he
      rw [hw', if_pos (by simp)]
      exact .inr ⟨rfl, fun hh => he (hh p List.mem_cons_self)⟩
theorem rsame_f {a b : S27} (hf : Fewp a) : ∃ r, swageref14_Same.f a b = some r ∧ (r = true ↔ a = b) := by
  obtain ⟨f1, f2, f3⟩ := hf
  unfold swageref14_Same.f
  simp only [jn]
  by_cases h0 : a.f0 = b.f0
  · rw [decide_eq_true h0, if_neg (by simp)]
    by_cases h : a.f1.length = b.f1.length
    · rw [decide_eq_true (by omega : (a.f1.length : Int) = (b.f1.length : Int)), if_neg (by simp)]
      have hzl : (a.f1.zip b.f1).length = a.f1.length := by rw [List.length_zip]; omega
      have := loopd (xs := a.f1.zip b.f1) (F := fun n i => swageref14_Same.l0 a b n i) (P := fun ps r => (r = some (.inr ()) ∧ ∀ p ∈ ps, p.1 = p.2) ∨ (r = some (.inl false) ∧ ¬ ∀ p ∈ ps, p.1 = p.2)) (by omega) (fun n => ?_) (fun n i p r hd hlt hat hm hw ih => ?_) (a.f1.length + 1) (by omega)
      · rw [zip_all h] at this
        rcases this with ⟨h1, h2⟩ | ⟨h1, h2⟩
        · rw [h1]; exact ⟨_, rfl, by simp; cases a; cases b; simp only at h0 h2; rw [h0, h2]⟩
        · rw [h1]; exact ⟨_, rfl, by simp; intro e; exact h2 (by rw [e])⟩
      · left; rw [hzl]; simp [swageref14_Same.l0]
      · obtain ⟨h1, h2⟩ := at_zip hat
        have hm1 : p.1 ∈ a.f1 := by rw [at_nat] at h1; exact List.mem_of_getElem? h1
        have hneq : p.1 ≠ p.2 → ¬ ∀ q ∈ p :: r, q.1 = q.2 := fun hn hh => hn (hh p List.mem_cons_self)
        rw [swageref14_Same.l0, if_pos (by omega)]
        simp only [jn, h1, h2, Option.bind_some, Option.elim_some]
        have ht : (!((p.1.f1.f0 == p.2.f1.f0) && ((p.1.f1.f1 == p.2.f1.f1) && ((p.1.f1.f2 == p.2.f1.f2) && (p.1.f1.f3 == p.2.f1.f3))))) = true ↔ ¬ p.1.f1 = p.2.f1 := by
          have : p.1.f1 = p.2.f1 ↔ (p.1.f1.f0 = p.2.f1.f0 ∧ p.1.f1.f1 = p.2.f1.f1 ∧ p.1.f1.f2 = p.2.f1.f2 ∧ p.1.f1.f3 = p.2.f1.f3) := by
            constructor
            · intro e; rw [e]; simp
            · rintro ⟨e0, e1, e2, e3⟩
              rcases hp1 : p.1.f1 with ⟨x0, x1, x2, x3⟩
              rcases hp2 : p.2.f1 with ⟨w0, w1, w2, w3⟩
              rw [hp1, hp2] at e0 e1 e2 e3
              simp only at e0 e1 e2 e3; rw [e0, e1, e2, e3]
          rw [this]; simp only [Bool.not_eq_true', Bool.and_eq_false_iff, beq_eq_false_iff_ne, ne_eq]; constructor
          · rintro h ⟨e0, e1, e2, e3⟩; rcases h with h | h | h | h <;> contradiction
          · intro h
            by_cases e0 : p.1.f1.f0 = p.2.f1.f0
            · by_cases e1 : p.1.f1.f1 = p.2.f1.f1
              · by_cases e2 : p.1.f1.f2 = p.2.f1.f2
                · exact .inr (.inr (.inr (fun e3 => h ⟨e0, e1, e2, e3⟩)))
                · exact .inr (.inr (.inl e2))
              · exact .inr (.inl e1)
            · exact .inl e0
        by_cases he : p.1.f1 = p.2.f1
        · rw [if_neg (fun hh => ht.1 hh he)]
          by_cases hlen : p.1.f0.length = p.2.f0.length
          · rw [decide_eq_true (by omega : (p.1.f0.length : Int) = (p.2.f0.length : Int)), if_neg (by simp)]
            rcases rsame_l1 h1 h2 (by have := (f3 _ hm1).1; omega) (f3 _ hm1).2 hlen with ⟨k1, k2⟩ | ⟨k1, k2⟩
            · rw [k1, Option.bind_some]
              simp only [hw]
              have hpe : p.1 = p.2 := by
                rcases hp1 : p.1 with ⟨x0, x1⟩
                rcases hp2 : p.2 with ⟨w0, w1⟩
                rw [hp1, hp2] at he k2
                simp only at he k2; rw [he, k2]
              rcases ih with ⟨i1, i2⟩ | ⟨i1, i2⟩
              · exact .inl ⟨i1, by simpa [hpe] using i2⟩
              · exact .inr ⟨i1, fun hh => i2 (fun q hq => hh q (List.mem_cons_of_mem _ hq))⟩
            · rw [k1, Option.bind_some]; exact .inr ⟨rfl, hneq (fun e => k2 (by rw [e]))⟩
          · rw [decide_eq_false (by omega : ¬ (p.1.f0.length : Int) = (p.2.f0.length : Int)), if_pos (by simp)]
            exact .inr ⟨rfl, hneq (fun e => hlen (by rw [e]))⟩
        · rw [if_pos (ht.2 he)]; rw [if_pos trivial]; exact .inr ⟨rfl, hneq (fun e => he (by rw [e]))⟩
    · rw [decide_eq_false (by omega : ¬ (a.f1.length : Int) = (b.f1.length : Int))]
      exact ⟨false, by simp, by simp; intro e; exact h (by rw [e])⟩
  · rw [decide_eq_false h0]
    exact ⟨false, by simp, by simp; intro e; exact h0 (by rw [e])⟩
end Go.Proofs.YtmacdhkfgoahcaaDoor.Sy
set_option linter.unusedVariables false
set_option linter.unusedSimpArgs false
set_option maxRecDepth 100000
set_option maxHeartbeats 4000000
namespace Go.Proofs.YtmacdhkfgoahcaaDoor.Sy
open Go Go.RowKit Go.Proofs.YtmacdhkfgoahcaaDoorW.PrintWords 
def swageref14_shape.f (a0 : Int) : Option (Bool × Bool × Bool × Bool × Bool) := jn (γ := (Bool × Bool × Bool × Bool × Bool)) (fun (x50 : Bool) => (if x50 = true then some (true, false, false, true, true) else (if a0 = 2 then some (true, true, true, true, true) else (if a0 = 3 then some (true, true, false, false, true) else (if a0 = 4 then some (true, true, false, true, true) else (if a0 = 5 then some (false, true, true, true, true) else (if a0 = 7 then some (true, false, false, true, true) else (if a0 = 8 then some (true, false, false, false, true) else (if a0 = 9 then some (false, true, false, false, true) else some (false, false, false, false, false)))))))))) (fun (j51 : (Bool → Option (Bool × Bool × Bool × Bool × Bool))) => (if a0 = 1 then j51 (decide (a0 = 1)) else j51 (decide (a0 = 6))))
def swageref14_shape.post (G : Gd)  (r : (Bool × Bool × Bool × Bool × Bool)) (v : Value) (G' : Gd) (Lr : List Ch) : Prop := G = G' ∧ v = .tuple #[.bool r.1, .bool r.2.1, .bool r.2.2.1, .bool r.2.2.2.1, .bool r.2.2.2.2] ∧ Lr = []
theorem swageref14_shape.calls {G : Gd} {r : (Bool × Bool × Bool × Bool × Bool)} {a0 : Int} (h : swageref14_shape.f a0 = some r) : Fn Tryd.prog 57 G [] [.int .i64 a0] (swageref14_shape.post G  r) := by
 refine Fn.intro (e := [(0, .int .i64 a0)]) 25 Tryd.func57 rfl Tryd.ntmps57 rfl rfl (Nat.le_of_ble_eq_true rfl) (fun L => ?_)
 unfold swageref14_shape.f at h
 refine TC.seq ?_
 refine TC.region ?_
 refine TL.cons (TO.val rfl rfl rfl (Val.assign rfl) ?_)
 refine TL.cons (TO.val rfl rfl rfl (Val.assign rfl) ?_)
 refine TL.cons (TO.val rfl rfl rfl (Val.assign rfl) ?_)
 refine TL.cons (TO.val rfl rfl rfl (Val.assign rfl) ?_)
 refine TL.cons (TO.val rfl rfl rfl (Val.assign rfl) ?_)
 refine TL.nil ?_
 refine TQ.then_ ?_
 refine TC.seq ?_
 refine TC.seq ?_
 refine TC.region ?_
 refine TL.cons (TO.val rfl rfl rfl (Val.move rfl) ?_)
 refine TL.nil ?_
 refine TQ.then_ ?_
 refine TC.block ?_
 refine TC.seq ?_
 refine TC.seq ?_
 refine TC.region ?_
 refine TL.cons (TO.val rfl rfl rfl (Val.cmp rfl rfl run_eql) ?_)
 refine TL.cons (TO.val rfl rfl rfl (Val.assign rfl) ?_)
 refine TL.nil ?_
 refine TQ.then_ ?_
 obtain ⟨j51, hj51, h⟩ := jn_no h
 refine TC.tail (fun a W => ∃ (x50 : Bool), j51 x50 = some r ∧ Fr 25 a [(7, .int .i64 a0), (8, .bool x50)] ∧ Own G (L) W) ?_ ?_
 ·
  rintro a W ⟨x50, h, hF, hO⟩
  rw [hj51] at h
  refine TQ.use ?_ hF hO
  clear hF hO
  refine TQ.then_ ?_
  refine TC.cond_b rfl h (fun hc60 h => ?_) (fun hc60 h => ?_)
  ·
   refine TC.seq ?_
   refine TC.region ?_
   refine TL.cons (TO.val rfl rfl rfl (Val.assign rfl) ?_)
   refine TL.cons (TO.val rfl rfl rfl (Val.assign rfl) ?_)
   refine TL.cons (TO.val rfl rfl rfl (Val.assign rfl) ?_)
   refine TL.cons (TO.val rfl rfl rfl (Val.assign rfl) ?_)
   refine TL.cons (TO.val rfl rfl rfl (Val.assign rfl) ?_)
   refine TL.nil ?_
   refine TQ.then_ ?_
   refine TC.ret ?_
   refine TQ.inBR ?_
   refine TQ.thenR ?_
   obtain rfl := Option.some.inj h
   exact TQ.fin (.inl rfl) rfl Tryd.results57 (.tmp rfl (.tmp rfl (.tmp rfl (.tmp rfl (.tmp rfl .nil))))) rfl (FRel.mk (Ls := []) [] 0 (Gd.le.refl _) rfl rfl rfl ⟨rfl, rfl, rfl⟩)
  ·
   refine TC.seq ?_
   refine TC.region ?_
   refine TL.cons (TO.val rfl rfl rfl (Val.cmp rfl rfl run_eql) ?_)
   refine TL.cons (TO.val rfl rfl rfl (Val.assign rfl) ?_)
   refine TL.nil ?_
   refine TQ.then_ ?_
   refine TC.cond_p rfl h (fun hc68 h => ?_) (fun hc68 h => ?_)
   ·
    refine TC.seq ?_
    refine TC.region ?_
    refine TL.cons (TO.val rfl rfl rfl (Val.assign rfl) ?_)
    refine TL.cons (TO.val rfl rfl rfl (Val.assign rfl) ?_)
    refine TL.cons (TO.val rfl rfl rfl (Val.assign rfl) ?_)
    refine TL.cons (TO.val rfl rfl rfl (Val.assign rfl) ?_)
    refine TL.cons (TO.val rfl rfl rfl (Val.assign rfl) ?_)
    refine TL.nil ?_
    refine TQ.then_ ?_
    refine TC.ret ?_
    refine TQ.inBR ?_
    refine TQ.thenR ?_
    obtain rfl := Option.some.inj h
    exact TQ.fin (.inl rfl) rfl Tryd.results57 (.tmp rfl (.tmp rfl (.tmp rfl (.tmp rfl (.tmp rfl .nil))))) rfl (FRel.mk (Ls := []) [] 0 (Gd.le.refl _) rfl rfl rfl ⟨rfl, rfl, rfl⟩)
   ·
    refine TC.seq ?_
    refine TC.region ?_
    refine TL.cons (TO.val rfl rfl rfl (Val.cmp rfl rfl run_eql) ?_)
    refine TL.cons (TO.val rfl rfl rfl (Val.assign rfl) ?_)
    refine TL.nil ?_
    refine TQ.then_ ?_
    refine TC.cond_p rfl h (fun hc75 h => ?_) (fun hc75 h => ?_)
    ·
     refine TC.seq ?_
     refine TC.region ?_
     refine TL.cons (TO.val rfl rfl rfl (Val.assign rfl) ?_)
     refine TL.cons (TO.val rfl rfl rfl (Val.assign rfl) ?_)
     refine TL.cons (TO.val rfl rfl rfl (Val.assign rfl) ?_)
     refine TL.cons (TO.val rfl rfl rfl (Val.assign rfl) ?_)
     refine TL.cons (TO.val rfl rfl rfl (Val.assign rfl) ?_)
     refine TL.nil ?_
     refine TQ.then_ ?_
     refine TC.ret ?_
     refine TQ.inBR ?_
     refine TQ.thenR ?_
     obtain rfl := Option.some.inj h
     exact TQ.fin (.inl rfl) rfl Tryd.results57 (.tmp rfl (.tmp rfl (.tmp rfl (.tmp rfl (.tmp rfl .nil))))) rfl (FRel.mk (Ls := []) [] 0 (Gd.le.refl _) rfl rfl rfl ⟨rfl, rfl, rfl⟩)
    ·
     refine TC.seq ?_
     refine TC.region ?_
     refine TL.cons (TO.val rfl rfl rfl (Val.cmp rfl rfl run_eql) ?_)
     refine TL.cons (TO.val rfl rfl rfl (Val.assign rfl) ?_)
     refine TL.nil ?_
     refine TQ.then_ ?_
     refine TC.cond_p rfl h (fun hc81 h => ?_) (fun hc81 h => ?_)
     ·
      refine TC.seq ?_
      refine TC.region ?_
      refine TL.cons (TO.val rfl rfl rfl (Val.assign rfl) ?_)
      refine TL.cons (TO.val rfl rfl rfl (Val.assign rfl) ?_)
      refine TL.cons (TO.val rfl rfl rfl (Val.assign rfl) ?_)
      refine TL.cons (TO.val rfl rfl rfl (Val.assign rfl) ?_)
      refine TL.cons (TO.val rfl rfl rfl (Val.assign rfl) ?_)
      refine TL.nil ?_
      refine TQ.then_ ?_
      refine TC.ret ?_
      refine TQ.inBR ?_
      refine TQ.thenR ?_
      obtain rfl := Option.some.inj h
      exact TQ.fin (.inl rfl) rfl Tryd.results57 (.tmp rfl (.tmp rfl (.tmp rfl (.tmp rfl (.tmp rfl .nil))))) rfl (FRel.mk (Ls := []) [] 0 (Gd.le.refl _) rfl rfl rfl ⟨rfl, rfl, rfl⟩)
     ·
      refine TC.seq ?_
      refine TC.region ?_
      refine TL.cons (TO.val rfl rfl rfl (Val.cmp rfl rfl run_eql) ?_)
      refine TL.cons (TO.val rfl rfl rfl (Val.assign rfl) ?_)
      refine TL.nil ?_
      refine TQ.then_ ?_
      refine TC.cond_p rfl h (fun hc86 h => ?_) (fun hc86 h => ?_)
      ·
       refine TC.seq ?_
       refine TC.region ?_
       refine TL.cons (TO.val rfl rfl rfl (Val.assign rfl) ?_)
       refine TL.cons (TO.val rfl rfl rfl (Val.assign rfl) ?_)
       refine TL.cons (TO.val rfl rfl rfl (Val.assign rfl) ?_)
       refine TL.cons (TO.val rfl rfl rfl (Val.assign rfl) ?_)
       refine TL.cons (TO.val rfl rfl rfl (Val.assign rfl) ?_)
       refine TL.nil ?_
       refine TQ.then_ ?_
       refine TC.ret ?_
       refine TQ.inBR ?_
       refine TQ.thenR ?_
       obtain rfl := Option.some.inj h
       exact TQ.fin (.inl rfl) rfl Tryd.results57 (.tmp rfl (.tmp rfl (.tmp rfl (.tmp rfl (.tmp rfl .nil))))) rfl (FRel.mk (Ls := []) [] 0 (Gd.le.refl _) rfl rfl rfl ⟨rfl, rfl, rfl⟩)
      ·
       refine TC.seq ?_
       refine TC.region ?_
       refine TL.cons (TO.val rfl rfl rfl (Val.cmp rfl rfl run_eql) ?_)
       refine TL.cons (TO.val rfl rfl rfl (Val.assign rfl) ?_)
       refine TL.nil ?_
       refine TQ.then_ ?_
       refine TC.cond_p rfl h (fun hc90 h => ?_) (fun hc90 h => ?_)
       ·
        refine TC.seq ?_
        refine TC.region ?_
        refine TL.cons (TO.val rfl rfl rfl (Val.assign rfl) ?_)
        refine TL.cons (TO.val rfl rfl rfl (Val.assign rfl) ?_)
        refine TL.cons (TO.val rfl rfl rfl (Val.assign rfl) ?_)
        refine TL.cons (TO.val rfl rfl rfl (Val.assign rfl) ?_)
        refine TL.cons (TO.val rfl rfl rfl (Val.assign rfl) ?_)
        refine TL.nil ?_
        refine TQ.then_ ?_
        refine TC.ret ?_
        refine TQ.inBR ?_
        refine TQ.thenR ?_
        obtain rfl := Option.some.inj h
        exact TQ.fin (.inl rfl) rfl Tryd.results57 (.tmp rfl (.tmp rfl (.tmp rfl (.tmp rfl (.tmp rfl .nil))))) rfl (FRel.mk (Ls := []) [] 0 (Gd.le.refl _) rfl rfl rfl ⟨rfl, rfl, rfl⟩)
       ·
        refine TC.seq ?_
        refine TC.region ?_
        refine TL.cons (TO.val rfl rfl rfl (Val.cmp rfl rfl run_eql) ?_)
        refine TL.cons (TO.val rfl rfl rfl (Val.assign rfl) ?_)
        refine TL.nil ?_
        refine TQ.then_ ?_
        refine TC.cond_p rfl h (fun hc93 h => ?_) (fun hc93 h => ?_)
        ·
         refine TC.seq ?_
         refine TC.region ?_
         refine TL.cons (TO.val rfl rfl rfl (Val.assign rfl) ?_)
         refine TL.cons (TO.val rfl rfl rfl (Val.assign rfl) ?_)
         refine TL.cons (TO.val rfl rfl rfl (Val.assign rfl) ?_)
         refine TL.cons (TO.val rfl rfl rfl (Val.assign rfl) ?_)
         refine TL.cons (TO.val rfl rfl rfl (Val.assign rfl) ?_)
         refine TL.nil ?_
         refine TQ.then_ ?_
         refine TC.ret ?_
         refine TQ.inBR ?_
         refine TQ.thenR ?_
         obtain rfl := Option.some.inj h
         exact TQ.fin (.inl rfl) rfl Tryd.results57 (.tmp rfl (.tmp rfl (.tmp rfl (.tmp rfl (.tmp rfl .nil))))) rfl (FRel.mk (Ls := []) [] 0 (Gd.le.refl _) rfl rfl rfl ⟨rfl, rfl, rfl⟩)
        ·
         refine TC.seq ?_
         refine TC.region ?_
         refine TL.cons (TO.val rfl rfl rfl (Val.cmp rfl rfl run_eql) ?_)
         refine TL.cons (TO.val rfl rfl rfl (Val.assign rfl) ?_)
         refine TL.nil ?_
         refine TQ.then_ ?_
         refine TC.cond_p rfl h (fun hc95 h => ?_) (fun hc95 h => ?_)
         ·
          refine TC.seq ?_
          refine TC.region ?_
          refine TL.cons (TO.val rfl rfl rfl (Val.assign rfl) ?_)
          refine TL.cons (TO.val rfl rfl rfl (Val.assign rfl) ?_)
          refine TL.cons (TO.val rfl rfl rfl (Val.assign rfl) ?_)
          refine TL.cons (TO.val rfl rfl rfl (Val.assign rfl) ?_)
          refine TL.cons (TO.val rfl rfl rfl (Val.assign rfl) ?_)
          refine TL.nil ?_
          refine TQ.then_ ?_
          refine TC.ret ?_
          refine TQ.inBR ?_
          refine TQ.thenR ?_
          obtain rfl := Option.some.inj h
          exact TQ.fin (.inl rfl) rfl Tryd.results57 (.tmp rfl (.tmp rfl (.tmp rfl (.tmp rfl (.tmp rfl .nil))))) rfl (FRel.mk (Ls := []) [] 0 (Gd.le.refl _) rfl rfl rfl ⟨rfl, rfl, rfl⟩)
         ·
          refine TC.skip ?_
          refine TQ.inB ?_
          refine TQ.then_ ?_
          refine TC.seq ?_
          refine TC.region ?_
          refine TL.cons (TO.val rfl rfl rfl (Val.assign rfl) ?_)
          refine TL.cons (TO.val rfl rfl rfl (Val.assign rfl) ?_)
          refine TL.cons (TO.val rfl rfl rfl (Val.assign rfl) ?_)
          refine TL.cons (TO.val rfl rfl rfl (Val.assign rfl) ?_)
          refine TL.cons (TO.val rfl rfl rfl (Val.assign rfl) ?_)
          refine TL.nil ?_
          refine TQ.then_ ?_
          refine TC.ret ?_
          obtain rfl := Option.some.inj h
          exact TQ.fin (.inl rfl) rfl Tryd.results57 (.tmp rfl (.tmp rfl (.tmp rfl (.tmp rfl (.tmp rfl .nil))))) rfl (FRel.mk (Ls := []) [] 0 (Gd.le.refl _) rfl rfl rfl ⟨rfl, rfl, rfl⟩)
 ·
  refine TC.cond_p rfl h (fun hc96 h => ?_) (fun hc96 h => ?_)
  ·
   refine TC.skip ?_
   exact fun a W hF hO => ⟨decide (a0 = 1), h, hF.sub ⟨rfl, rfl, trivial⟩, hO.selT (Ls := []) [] 0 rfl rfl rfl⟩
  ·
   refine TC.region ?_
   refine TL.cons (TO.val rfl rfl rfl (Val.cmp rfl rfl run_eql) ?_)
   refine TL.cons (TO.val rfl rfl rfl (Val.assign rfl) ?_)
   refine TL.nil ?_
   exact fun a W hF hO => ⟨decide (a0 = 6), h, hF.sub ⟨rfl, rfl, trivial⟩, hO.selT (Ls := []) [] 0 rfl rfl rfl⟩
end Go.Proofs.YtmacdhkfgoahcaaDoor.Sy
set_option linter.unusedVariables false
set_option linter.unusedSimpArgs false
set_option maxRecDepth 100000
set_option maxHeartbeats 4000000
namespace Go.Proofs.YtmacdhkfgoahcaaDoor.Sy
open Go Go.RowKit Go.Proofs.YtmacdhkfgoahcaaDoorW.PrintWords 
def swageref14_reg.f (a0 : Int) : Option Bool := (if 1 ≤ a0 then some (decide (a0 ≤ 4096)) else some false)
def swageref14_reg.post (G : Gd)  (r : Bool) (v : Value) (G' : Gd) (Lr : List Ch) : Prop := G = G' ∧ v = .bool r ∧ Lr = []
theorem swageref14_reg.calls {G : Gd} {r : Bool} {a0 : Int} (h : swageref14_reg.f a0 = some r) : Fn Tryd.prog 59 G [] [.int .i64 a0] (swageref14_reg.post G  r) := by
 refine Fn.intro (e := [(0, .int .i64 a0)]) 9 Tryd.func59 rfl Tryd.ntmps59 rfl rfl (Nat.le_of_ble_eq_true rfl) (fun L => ?_)
 unfold swageref14_reg.f at h
 refine TC.seq ?_
 refine TC.region ?_
 refine TL.cons (TO.val rfl rfl rfl (Val.assign rfl) ?_)
 refine TL.nil ?_
 refine TQ.then_ ?_
 refine TC.seq ?_
 refine TC.region ?_
 refine TL.cons (TO.val rfl rfl rfl (Val.move rfl) ?_)
 refine TL.cons (TO.val rfl rfl rfl (Val.cmp rfl rfl run_geq) ?_)
 refine TL.cons (TO.val rfl rfl rfl (Val.move rfl) ?_)
 refine TK.split (p := 1 ≤ a0) h (fun hg4 h => ?_) (fun hg4 h => ?_)
 ·
  have hk5 : decide (1 ≤ a0) = true := decide_eq_true hg4
  refine TL.cons (TO.val (Wt.yes rfl rfl rfl hk5) rfl rfl (Val.move rfl) ?_)
  refine TL.cons (TO.val (Wt.yes rfl rfl rfl hk5) rfl rfl (Val.cmp rfl rfl run_leq) ?_)
  refine TL.cons (TO.val rfl rfl rfl (Val.pickY rfl hk5 rfl) ?_)
  refine TL.cons (TO.val rfl rfl rfl (Val.assign rfl) ?_)
  refine TL.nil ?_
  refine TQ.then_ ?_
  refine TC.ret ?_
  obtain rfl := Option.some.inj h
  exact TQ.fin (.inl rfl) rfl Tryd.results59 (.tmp rfl .nil) rfl (FRel.mk (Ls := []) [] 0 (Gd.le.refl _) rfl rfl rfl ⟨rfl, rfl, rfl⟩)
 ·
  have hk6 : decide (1 ≤ a0) = false := decide_eq_false hg4
  refine TL.cons (TL.not (Wt.no rfl rfl rfl hk6) rfl ?_)
  refine TL.cons (TL.not (Wt.no rfl rfl rfl hk6) rfl ?_)
  refine TL.cons (TO.val rfl rfl rfl (Val.pickN rfl hk6 rfl) ?_)
  refine TL.cons (TO.val rfl rfl rfl (Val.assign rfl) ?_)
  refine TL.nil ?_
  refine TQ.then_ ?_
  refine TC.ret ?_
  obtain rfl := Option.some.inj h
  exact TQ.fin (.inl rfl) rfl Tryd.results59 (.tmp rfl .nil) rfl (FRel.mk (Ls := []) [] 0 (Gd.le.refl _) rfl rfl rfl ⟨rfl, rfl, rfl⟩)
end Go.Proofs.YtmacdhkfgoahcaaDoor.Sy
set_option linter.unusedVariables false
set_option linter.unusedSimpArgs false
set_option maxRecDepth 100000
set_option maxHeartbeats 4000000
namespace Go.Proofs.YtmacdhkfgoahcaaDoor.Sy
open Go Go.RowKit Go.Proofs.YtmacdhkfgoahcaaDoorW.PrintWords 
def swageref14_field.f (a0 : Int) (a1 : Bool) : Option Bool := (if a1 = true then (swageref14_reg.f a0).bind fun (y17 : Bool) => (if y17 = true then some true else (if (!a1) = true then some (decide (a0 = 0)) else some false)) else (if (!a1) = true then some (decide (a0 = 0)) else some false))
def swageref14_field.post (G : Gd)  (r : Bool) (v : Value) (G' : Gd) (Lr : List Ch) : Prop := G = G' ∧ v = .bool r ∧ Lr = []
theorem swageref14_field.calls {G : Gd} {r : Bool} {a0 : Int} {a1 : Bool} (h : swageref14_field.f a0 a1 = some r) : Fn Tryd.prog 58 G [] [.int .i64 a0, .bool a1] (swageref14_field.post G  r) := by
 refine Fn.intro (e := [(0, .int .i64 a0), (1, .bool a1)]) 18 Tryd.func58 rfl Tryd.ntmps58 rfl rfl (Nat.le_of_ble_eq_true rfl) (fun L => ?_)
 unfold swageref14_field.f at h
 refine TC.seq ?_
 refine TC.region ?_
 refine TL.cons (TO.val rfl rfl rfl (Val.assign rfl) ?_)
 refine TL.nil ?_
 refine TQ.then_ ?_
 refine TC.seq ?_
 refine TC.region ?_
 refine TL.cons (TO.val rfl rfl rfl (Val.move rfl) ?_)
 refine TL.cons (TO.val rfl rfl rfl (Val.move rfl) ?_)
 refine TK.split (p := a1 = true) h (fun hg15 h => ?_) (fun hg15 h => ?_)
 ·
  have hk16 : a1 = true := hg15
  refine TL.cons (TO.val (Wt.yes rfl rfl rfl hk16) rfl rfl (Val.move rfl) ?_)
  obtain ⟨y17, hy18, h⟩ := bind_no h
  refine TL.cons (TL.callV (Lin := []) (args := [.int .i64 a0]) (Wt.yes rfl rfl rfl hk16) rfl rfl hbd59 rfl rfl (swageref14_reg.calls (a0 := a0) hy18) rfl ?_)
  rintro _ _ _ _ ⟨rfl, rfl, rfl⟩
  refine TL.cons (TO.val rfl rfl rfl (Val.pickY rfl hk16 rfl) ?_)
  refine TL.cons (TO.val rfl rfl rfl (Val.move rfl) ?_)
  refine TK.split (p := y17 = true) h (fun hg19 h => ?_) (fun hg19 h => ?_)
  ·
   have hk20 : y17 = true := hg19
   refine TL.cons (TL.not (Wt.no rfl rfl rfl hk20) rfl ?_)
   refine TL.cons (TL.not (Wt.no rfl rfl rfl hk20) rfl ?_)
   refine TL.cons (TL.not (Wt.no rfl rfl rfl hk20) rfl ?_)
   refine TL.cons (TL.not rfl rfl ?_)
   refine TL.cons (TL.not rfl rfl ?_)
   refine TL.cons (TL.not (Wt.no rfl rfl rfl hk20) rfl ?_)
   refine TL.cons (TO.val rfl rfl rfl (Val.pickY rfl hk20 rfl) ?_)
   refine TL.cons (TO.val rfl rfl rfl (Val.assign rfl) ?_)
   refine TL.nil ?_
   refine TQ.then_ ?_
   refine TC.ret ?_
   obtain rfl := Option.some.inj h
   exact TQ.fin (.inl rfl) rfl Tryd.results58 (.tmp rfl .nil) rfl (FRel.mk (Ls := []) [] 0 (Gd.le.refl _) rfl rfl rfl ⟨rfl, rfl, rfl⟩)
  ·
   have hk21 : y17 = false := (by simpa using hg19)
   refine TL.cons (TO.val (Wt.yes rfl rfl rfl hk21) rfl rfl (Val.move rfl) ?_)
   refine TL.cons (TO.val (Wt.yes rfl rfl rfl hk21) rfl rfl (Val.not_ rfl) ?_)
   refine TL.cons (TO.val (Wt.yes rfl rfl rfl hk21) rfl rfl (Val.move rfl) ?_)
   refine TK.split (p := (!a1) = true) h (fun hg22 h => ?_) (fun hg22 h => ?_)
   ·
    have hk23 : (!a1) = true := hg22
    refine TL.cons (TO.val (Wt.yes rfl rfl rfl hk23) rfl rfl (Val.move rfl) ?_)
    refine TL.cons (TO.val (Wt.yes rfl rfl rfl hk23) rfl rfl (Val.cmp rfl rfl run_eql) ?_)
    refine TL.cons (TO.val (Wt.yes rfl rfl rfl hk21) rfl rfl (Val.pickY rfl hk23 rfl) ?_)
    refine TL.cons (TO.val rfl rfl rfl (Val.pickN rfl hk21 rfl) ?_)
    refine TL.cons (TO.val rfl rfl rfl (Val.assign rfl) ?_)
    refine TL.nil ?_
    refine TQ.then_ ?_
    refine TC.ret ?_
    obtain rfl := Option.some.inj h
    exact TQ.fin (.inl rfl) rfl Tryd.results58 (.tmp rfl .nil) rfl (FRel.mk (Ls := []) [] 0 (Gd.le.refl _) rfl rfl rfl ⟨rfl, rfl, rfl⟩)
   ·
    have hk24 : (!a1) = false := (by simpa using hg22)
    refine TL.cons (TL.not (Wt.no rfl rfl rfl hk24) rfl ?_)
    refine TL.cons (TL.not (Wt.no rfl rfl rfl hk24) rfl ?_)
    refine TL.cons (TO.val (Wt.yes rfl rfl rfl hk21) rfl rfl (Val.pickN rfl hk24 rfl) ?_)
    refine TL.cons (TO.val rfl rfl rfl (Val.pickN rfl hk21 rfl) ?_)
    refine TL.cons (TO.val rfl rfl rfl (Val.assign rfl) ?_)
    refine TL.nil ?_
    refine TQ.then_ ?_
    refine TC.ret ?_
    obtain rfl := Option.some.inj h
    exact TQ.fin (.inl rfl) rfl Tryd.results58 (.tmp rfl .nil) rfl (FRel.mk (Ls := []) [] 0 (Gd.le.refl _) rfl rfl rfl ⟨rfl, rfl, rfl⟩)
 ·
  have hk25 : a1 = false := (by simpa using hg15)
  refine TL.cons (TL.not (Wt.no rfl rfl rfl hk25) rfl ?_)
  refine TL.cons (TL.not (Wt.no rfl rfl rfl hk25) rfl ?_)
  refine TL.cons (TO.val rfl rfl rfl (Val.pickN rfl hk25 rfl) ?_)
  refine TL.cons (TO.val rfl rfl rfl (Val.move rfl) ?_)
  refine TL.cons (TO.val (Wt.yes rfl rfl rfl rfl) rfl rfl (Val.move rfl) ?_)
  refine TL.cons (TO.val (Wt.yes rfl rfl rfl rfl) rfl rfl (Val.not_ rfl) ?_)
  refine TL.cons (TO.val (Wt.yes rfl rfl rfl rfl) rfl rfl (Val.move rfl) ?_)
  refine TK.split (p := (!a1) = true) h (fun hg26 h => ?_) (fun hg26 h => ?_)
  ·
   have hk27 : (!a1) = true := hg26
   refine TL.cons (TO.val (Wt.yes rfl rfl rfl hk27) rfl rfl (Val.move rfl) ?_)
   refine TL.cons (TO.val (Wt.yes rfl rfl rfl hk27) rfl rfl (Val.cmp rfl rfl run_eql) ?_)
   refine TL.cons (TO.val (Wt.yes rfl rfl rfl rfl) rfl rfl (Val.pickY rfl hk27 rfl) ?_)
   refine TL.cons (TO.val rfl rfl rfl (Val.pickN rfl rfl rfl) ?_)
   refine TL.cons (TO.val rfl rfl rfl (Val.assign rfl) ?_)
   refine TL.nil ?_
   refine TQ.then_ ?_
   refine TC.ret ?_
   obtain rfl := Option.some.inj h
   exact TQ.fin (.inl rfl) rfl Tryd.results58 (.tmp rfl .nil) rfl (FRel.mk (Ls := []) [] 0 (Gd.le.refl _) rfl rfl rfl ⟨rfl, rfl, rfl⟩)
  ·
   have hk28 : (!a1) = false := (by simpa using hg26)
   refine TL.cons (TL.not (Wt.no rfl rfl rfl hk28) rfl ?_)
   refine TL.cons (TL.not (Wt.no rfl rfl rfl hk28) rfl ?_)
   refine TL.cons (TO.val (Wt.yes rfl rfl rfl rfl) rfl rfl (Val.pickN rfl hk28 rfl) ?_)
   refine TL.cons (TO.val rfl rfl rfl (Val.pickN rfl rfl rfl) ?_)
   refine TL.cons (TO.val rfl rfl rfl (Val.assign rfl) ?_)
   refine TL.nil ?_
   refine TQ.then_ ?_
   refine TC.ret ?_
   obtain rfl := Option.some.inj h
   exact TQ.fin (.inl rfl) rfl Tryd.results58 (.tmp rfl .nil) rfl (FRel.mk (Ls := []) [] 0 (Gd.le.refl _) rfl rfl rfl ⟨rfl, rfl, rfl⟩)
end Go.Proofs.YtmacdhkfgoahcaaDoor.Sy
set_option linter.unusedVariables false
set_option linter.unusedSimpArgs false
set_option maxRecDepth 100000
set_option maxHeartbeats 4000000
namespace Go.Proofs.YtmacdhkfgoahcaaDoor.Sy
open Go Go.RowKit Go.Proofs.YtmacdhkfgoahcaaDoorW.PrintWords 
def swageref01_Known.f (a0 : Int) : Option Bool := (if 1 ≤ a0 then some (decide (a0 ≤ 14)) else some false)
def swageref01_Known.post (G : Gd)  (r : Bool) (v : Value) (G' : Gd) (Lr : List Ch) : Prop := G = G' ∧ v = .bool r ∧ Lr = []
theorem swageref01_Known.calls {G : Gd} {r : Bool} {a0 : Int} (h : swageref01_Known.f a0 = some r) : Fn Tryd.prog 60 G [] [.int .i64 a0] (swageref01_Known.post G  r) := by
 refine Fn.intro (e := [(0, .int .i64 a0)]) 9 Tryd.func60 rfl Tryd.ntmps60 rfl rfl (Nat.le_of_ble_eq_true rfl) (fun L => ?_)
 unfold swageref01_Known.f at h
 refine TC.seq ?_
 refine TC.region ?_
 refine TL.cons (TO.val rfl rfl rfl (Val.assign rfl) ?_)
 refine TL.nil ?_
 refine TQ.then_ ?_
 refine TC.seq ?_
 refine TC.region ?_
 refine TL.cons (TO.val rfl rfl rfl (Val.move rfl) ?_)
 refine TL.cons (TO.val rfl rfl rfl (Val.cmp rfl rfl run_geq) ?_)
 refine TL.cons (TO.val rfl rfl rfl (Val.move rfl) ?_)
 refine TK.split (p := 1 ≤ a0) h (fun hg4 h => ?_) (fun hg4 h => ?_)
 ·
  have hk5 : decide (1 ≤ a0) = true := decide_eq_true hg4
  refine TL.cons (TO.val (Wt.yes rfl rfl rfl hk5) rfl rfl (Val.move rfl) ?_)
  refine TL.cons (TO.val (Wt.yes rfl rfl rfl hk5) rfl rfl (Val.cmp rfl rfl run_leq) ?_)
  refine TL.cons (TO.val rfl rfl rfl (Val.pickY rfl hk5 rfl) ?_)
  refine TL.cons (TO.val rfl rfl rfl (Val.assign rfl) ?_)
  refine TL.nil ?_
  refine TQ.then_ ?_
  refine TC.ret ?_
  obtain rfl := Option.some.inj h
  exact TQ.fin (.inl rfl) rfl Tryd.results60 (.tmp rfl .nil) rfl (FRel.mk (Ls := []) [] 0 (Gd.le.refl _) rfl rfl rfl ⟨rfl, rfl, rfl⟩)
 ·
  have hk6 : decide (1 ≤ a0) = false := decide_eq_false hg4
  refine TL.cons (TL.not (Wt.no rfl rfl rfl hk6) rfl ?_)
  refine TL.cons (TL.not (Wt.no rfl rfl rfl hk6) rfl ?_)
  refine TL.cons (TO.val rfl rfl rfl (Val.pickN rfl hk6 rfl) ?_)
  refine TL.cons (TO.val rfl rfl rfl (Val.assign rfl) ?_)
  refine TL.nil ?_
  refine TQ.then_ ?_
  refine TC.ret ?_
  obtain rfl := Option.some.inj h
  exact TQ.fin (.inl rfl) rfl Tryd.results60 (.tmp rfl .nil) rfl (FRel.mk (Ls := []) [] 0 (Gd.le.refl _) rfl rfl rfl ⟨rfl, rfl, rfl⟩)
end Go.Proofs.YtmacdhkfgoahcaaDoor.Sy
set_option linter.unusedVariables false
set_option linter.unusedSimpArgs false
set_option maxRecDepth 100000
set_option maxHeartbeats 4000000
namespace Go.Proofs.YtmacdhkfgoahcaaDoor.Sy
open Go Go.RowKit Go.Proofs.YtmacdhkfgoahcaaDoorW.PrintWords 
def swageref14_RightOp.l0 (a0 : S40) : Nat → Int → Option (Sum Bool (Unit))
 | 0, _ => none
 | n135 + 1, x105 => (if x105 < (a0.f5.length : Int) then (at? a0.f5 x105).bind fun y375 => (swageref14_reg.f y375).bind fun (y384 : Bool) => (if (!y384) = true then some (.inl false) else swageref14_RightOp.l0 a0 n135 (IntKind.i64.wrap (x105 + 1))) else some (.inr ()))
def swageref14_RightOp.f (a0 : S40) (a1 : Int) : Option Bool := (swageref14_shape.f a0.f0).bind fun (y6 : (Bool × Bool × Bool × Bool × Bool)) => jn (γ := Bool) (fun (x44 : Bool) => (if x44 = true then some false else (swageref14_RightOp.l0 a0 (a0.f5.length + 1) 0).bind fun | .inl q_ => some q_ | .inr _ => (if a0.f0 = 2 then (swageref01_Known.f a0.f4).bind fun (y291 : Bool) => some y291 else jn (γ := Bool) (fun (x294 : Bool) => (if x294 = true then (if (-2147483648) ≤ a0.f4 then some (decide (a0.f4 ≤ 2147483647)) else some false) else (if a0.f0 = 6 then (if 0 ≤ a0.f4 then some (decide (a0.f4 ≤ 1048576)) else some false) else (if a0.f0 = 7 then (if 0 ≤ a0.f4 then some (decide (a0.f4 < a1)) else some false) else some true)))) (fun (j295 : (Bool → Option Bool)) => (if a0.f0 = 4 then j295 (decide (a0.f0 = 4)) else j295 (decide (a0.f0 = 5))))))) (fun (j45 : (Bool → Option Bool)) => (if (!y6.2.2.2.2) = true then j45 true else (swageref14_field.f a0.f1 y6.1).bind fun (y391 : Bool) => (if (!y391) = true then j45 true else (swageref14_field.f a0.f2 y6.2.1).bind fun (y396 : Bool) => (if (!y396) = true then j45 true else (swageref14_field.f a0.f3 y6.2.2.1).bind fun (y401 : Bool) => (if (!y401) = true then j45 true else (if (!y6.2.2.2.1) = true then (if (!decide (a0.f4 = 0)) = true then j45 true else (if (!decide (a0.f0 = 7)) = true then (if 0 < (a0.f5.length : Int) then j45 true else j45 (decide (8 < (a0.f5.length : Int)))) else j45 (decide (8 < (a0.f5.length : Int))))) else (if (!decide (a0.f0 = 7)) = true then (if 0 < (a0.f5.length : Int) then j45 true else j45 (decide (8 < (a0.f5.length : Int)))) else j45 (decide (8 < (a0.f5.length : Int))))))))))
def swageref14_RightOp.post (G : Gd)  (r : Bool) (v : Value) (G' : Gd) (Lr : List Ch) : Prop := G = G' ∧ v = .bool r ∧ Lr = []
theorem swageref14_RightOp.calls {G : Gd} {r : Bool} {a0 : S40} {a1 : Int} {A1 : Option Addr} {c2 : Nat} (hr3 : Rd G (Kd.int .i64) A1 a0.f5) (hl4 : a0.f5.length ≤ c2) (h : swageref14_RightOp.f a0 a1 = some r) : Fn Tryd.prog 24 G [] [.agg #[.int .i64 a0.f0, .int .i64 a0.f1, .int .i64 a0.f2, .int .i64 a0.f3, .int .i64 a0.f4, .slice A1 a0.f5.length c2], .int .i64 a1] (swageref14_RightOp.post G  r) := by
 refine Fn.intro (e := [(0, .agg #[.int .i64 a0.f0, .int .i64 a0.f1, .int .i64 a0.f2, .int .i64 a0.f3, .int .i64 a0.f4, .slice A1 a0.f5.length c2]), (1, .int .i64 a1)]) 122 Tryd.func24 rfl Tryd.ntmps24 rfl rfl (Nat.le_of_ble_eq_true rfl) (fun L => ?_)
 unfold swageref14_RightOp.f at h
 refine TC.seq ?_
 refine TC.region ?_
 refine TL.cons (TL.box (cs := [.int .i64 a0.f0, .int .i64 a0.f1, .int .i64 a0.f2, .int .i64 a0.f3, .int .i64 a0.f4, .slice A1 a0.f5.length c2]) rfl rfl rfl rfl (fun b5 => ?_))
 refine TL.cons (TO.val rfl rfl rfl (Val.assign rfl) ?_)
 refine TL.nil ?_
 refine TQ.then_ ?_
 refine TC.seq ?_
 refine TC.region ?_
 refine TL.cons (TO.val rfl rfl rfl (Val.fieldAddrB Tryd.underlying40 rfl fsz3 rfl rfl rfl) ?_)
 refine TL.cons (TO.val rfl rfl rfl (Val.loadB 0 agg3 rfl rfl rfl) ?_)
 obtain ⟨y6, hy7, h⟩ := bind_no h
 refine TL.cons (TL.callV (Lin := []) (args := [.int .i64 a0.f0]) rfl rfl rfl hbd57 rfl rfl (swageref14_shape.calls (a0 := a0.f0) hy7) rfl ?_)
 rintro _ _ _ _ ⟨rfl, rfl, rfl⟩
 refine TL.cons (TO.val rfl rfl rfl (Val.move rfl) ?_)
 refine TL.cons (TO.val rfl rfl rfl (Val.extract rfl rfl) ?_)
 refine TL.cons (TO.val rfl rfl rfl (Val.extract rfl rfl) ?_)
 refine TL.cons (TO.val rfl rfl rfl (Val.extract rfl rfl) ?_)
 refine TL.cons (TO.val rfl rfl rfl (Val.extract rfl rfl) ?_)
 refine TL.cons (TO.val rfl rfl rfl (Val.extract rfl rfl) ?_)
 refine TL.cons (TO.val rfl rfl rfl (Val.assign rfl) ?_)
 refine TL.cons (TO.val rfl rfl rfl (Val.assign rfl) ?_)
 refine TL.cons (TO.val rfl rfl rfl (Val.assign rfl) ?_)
 refine TL.cons (TO.val rfl rfl rfl (Val.assign rfl) ?_)
 refine TL.cons (TO.val rfl rfl rfl (Val.assign rfl) ?_)
 refine TL.nil ?_
 refine TQ.then_ ?_
 refine TC.seq ?_
 refine TC.seq ?_
 obtain ⟨j45, hj45, h⟩ := jn_no h
 refine TC.tail (fun a W => ∃ (x44 : Bool), j45 x44 = some r ∧ Fr 122 a [(1, .int .i64 a1), (2, .pointer (some ⟨b5, 0, none⟩)), (68, .bool x44)] ∧ Own G (Blk b5 [.int .i64 a0.f0, .int .i64 a0.f1, .int .i64 a0.f2, .int .i64 a0.f3, .int .i64 a0.f4, .slice A1 a0.f5.length c2] 40 :: L) W) ?_ ?_
 ·
  rintro a W ⟨x44, h, hF, hO⟩
  rw [hj45] at h
  refine TQ.use ?_ hF hO
  clear hF hO
  refine TQ.then_ ?_
  refine TC.cond_b rfl h (fun hc47 h => ?_) (fun hc47 h => ?_)
  ·
   refine TC.seq ?_
   refine TC.region ?_
   refine TL.cons (TO.val rfl rfl rfl (Val.assign rfl) ?_)
   refine TL.nil ?_
   refine TQ.then_ ?_
   refine TC.ret ?_
   refine TQ.thenR ?_
   obtain rfl := Option.some.inj h
   exact TQ.fin (.inl rfl) rfl Tryd.results24 (.tmp rfl .nil) rfl (FRel.mk (Ls := []) [] 1 (Gd.le.refl _) rfl rfl rfl ⟨rfl, rfl, rfl⟩)
  ·
   refine TC.skip ?_
   refine TQ.then_ ?_
   refine TC.seq ?_
   refine TC.seq ?_
   refine TC.region ?_
   refine TL.cons (TO.val rfl rfl rfl (Val.assign rfl) ?_)
   refine TL.nil ?_
   refine TQ.then_ ?_
   obtain ⟨o134, ho134, ko134⟩ := bind_no h
   clear h
   refine TC.tail (fun a W => (.inr ()) = o134 ∧ Fr 122 a [(1, .int .i64 a1), (2, .pointer (some ⟨b5, 0, none⟩))] ∧ Own G (Blk b5 [.int .i64 a0.f0, .int .i64 a0.f1, .int .i64 a0.f2, .int .i64 a0.f3, .int .i64 a0.f4, .slice A1 a0.f5.length c2] 40 :: L) W) ?_ ?_
   ·
    rintro a W ⟨rfl, hF, hO⟩
    have h := ko134
    clear ko134 ho134
    refine TQ.use ?_ hF hO
    clear hF hO
    refine TQ.then_ ?_
    refine TC.seq ?_
    refine TC.seq ?_
    refine TC.region ?_
    refine TL.cons (TO.val rfl rfl rfl (Val.fieldAddrB Tryd.underlying40 rfl fsz3 rfl rfl rfl) ?_)
    refine TL.cons (TO.val rfl rfl rfl (Val.loadB 0 agg3 rfl rfl rfl) ?_)
    refine TL.nil ?_
    refine TQ.then_ ?_
    refine TC.block ?_
    refine TC.seq ?_
    refine TC.region ?_
    refine TL.cons (TO.val rfl rfl rfl (Val.cmp rfl rfl run_eql) ?_)
    refine TL.cons (TO.val rfl rfl rfl (Val.assign rfl) ?_)
    refine TL.nil ?_
    refine TQ.then_ ?_
    refine TC.cond_p rfl h (fun hc290 h => ?_) (fun hc290 h => ?_)
    ·
     refine TC.seq ?_
     refine TC.region ?_
     refine TL.cons (TO.val rfl rfl rfl (Val.fieldAddrB Tryd.underlying40 rfl fsz3 rfl rfl rfl) ?_)
     refine TL.cons (TO.val rfl rfl rfl (Val.loadB 0 agg3 rfl rfl rfl) ?_)
     obtain ⟨y291, hy292, h⟩ := bind_no h
     refine TL.cons (TL.callV (Lin := []) (args := [.int .i64 a0.f4]) rfl rfl rfl hbd60 rfl rfl (swageref01_Known.calls (a0 := a0.f4) hy292) rfl ?_)
     rintro _ _ _ _ ⟨rfl, rfl, rfl⟩
     refine TL.cons (TO.val rfl rfl rfl (Val.assign rfl) ?_)
     refine TL.nil ?_
     refine TQ.then_ ?_
     refine TC.ret ?_
     refine TQ.inBR ?_
     refine TQ.thenR ?_
     obtain rfl := Option.some.inj h
     exact TQ.fin (.inl rfl) rfl Tryd.results24 (.tmp rfl .nil) rfl (FRel.mk (Ls := []) [] 1 (Gd.le.refl _) rfl rfl rfl ⟨rfl, rfl, rfl⟩)
    ·
     refine TC.seq ?_
     refine TC.seq ?_
     refine TC.region ?_
     refine TL.cons (TO.val rfl rfl rfl (Val.cmp rfl rfl run_eql) ?_)
     refine TL.cons (TO.val rfl rfl rfl (Val.assign rfl) ?_)
     refine TL.nil ?_
     refine TQ.then_ ?_
     obtain ⟨j295, hj295, h⟩ := jn_no h
     refine TC.tail (fun a W => ∃ (x294 : Bool), j295 x294 = some r ∧ Fr 122 a [(1, .int .i64 a1), (2, .pointer (some ⟨b5, 0, none⟩)), (84, .int .i64 a0.f0), (90, .bool x294)] ∧ Own G (Blk b5 [.int .i64 a0.f0, .int .i64 a0.f1, .int .i64 a0.f2, .int .i64 a0.f3, .int .i64 a0.f4, .slice A1 a0.f5.length c2] 40 :: L) W) ?_ ?_
     ·
      rintro a W ⟨x294, h, hF, hO⟩
      rw [hj295] at h
      refine TQ.use ?_ hF hO
      clear hF hO
      refine TQ.then_ ?_
      refine TC.cond_b rfl h (fun hc317 h => ?_) (fun hc317 h => ?_)
      ·
       refine TC.seq ?_
       refine TC.region ?_
       refine TL.cons (TO.val rfl rfl rfl (Val.fieldAddrB Tryd.underlying40 rfl fsz3 rfl rfl rfl) ?_)
       refine TL.cons (TO.val rfl rfl rfl (Val.loadB 0 agg3 rfl rfl rfl) ?_)
       refine TL.cons (TO.val rfl rfl rfl (Val.cmp rfl rfl run_geq) ?_)
       refine TL.cons (TO.val rfl rfl rfl (Val.move rfl) ?_)
       refine TK.split (p := (-2147483648) ≤ a0.f4) h (fun hg321 h => ?_) (fun hg321 h => ?_)
       ·
        have hk322 : decide ((-2147483648) ≤ a0.f4) = true := decide_eq_true hg321
        refine TL.cons (TO.val (Wt.yes rfl rfl rfl hk322) rfl rfl (Val.fieldAddrB Tryd.underlying40 rfl fsz3 rfl rfl rfl) ?_)
        refine TL.cons (TO.val (Wt.yes rfl rfl rfl hk322) rfl rfl (Val.loadB 0 agg3 rfl rfl rfl) ?_)
        refine TL.cons (TO.val (Wt.yes rfl rfl rfl hk322) rfl rfl (Val.cmp rfl rfl run_leq) ?_)
        refine TL.cons (TO.val rfl rfl rfl (Val.pickY rfl hk322 rfl) ?_)
        refine TL.cons (TO.val rfl rfl rfl (Val.assign rfl) ?_)
        refine TL.nil ?_
        refine TQ.then_ ?_
        refine TC.ret ?_
        refine TQ.inBR ?_
        refine TQ.thenR ?_
        obtain rfl := Option.some.inj h
        exact TQ.fin (.inl rfl) rfl Tryd.results24 (.tmp rfl .nil) rfl (FRel.mk (Ls := []) [] 1 (Gd.le.refl _) rfl rfl rfl ⟨rfl, rfl, rfl⟩)
       ·
        have hk323 : decide ((-2147483648) ≤ a0.f4) = false := decide_eq_false hg321
        refine TL.cons (TL.not (Wt.no rfl rfl rfl hk323) rfl ?_)
        refine TL.cons (TL.not (Wt.no rfl rfl rfl hk323) rfl ?_)
        refine TL.cons (TL.not (Wt.no rfl rfl rfl hk323) rfl ?_)
        refine TL.cons (TO.val rfl rfl rfl (Val.pickN rfl hk323 rfl) ?_)
        refine TL.cons (TO.val rfl rfl rfl (Val.assign rfl) ?_)
        refine TL.nil ?_
        refine TQ.then_ ?_
        refine TC.ret ?_
        refine TQ.inBR ?_
        refine TQ.thenR ?_
        obtain rfl := Option.some.inj h
        exact TQ.fin (.inl rfl) rfl Tryd.results24 (.tmp rfl .nil) rfl (FRel.mk (Ls := []) [] 1 (Gd.le.refl _) rfl rfl rfl ⟨rfl, rfl, rfl⟩)
      ·
       refine TC.seq ?_
       refine TC.region ?_
       refine TL.cons (TO.val rfl rfl rfl (Val.cmp rfl rfl run_eql) ?_)
       refine TL.cons (TO.val rfl rfl rfl (Val.assign rfl) ?_)
       refine TL.nil ?_
       refine TQ.then_ ?_
       refine TC.cond_p rfl h (fun hc338 h => ?_) (fun hc338 h => ?_)
       ·
        refine TC.seq ?_
        refine TC.region ?_
        refine TL.cons (TO.val rfl rfl rfl (Val.fieldAddrB Tryd.underlying40 rfl fsz3 rfl rfl rfl) ?_)
        refine TL.cons (TO.val rfl rfl rfl (Val.loadB 0 agg3 rfl rfl rfl) ?_)
        refine TL.cons (TO.val rfl rfl rfl (Val.cmp rfl rfl run_geq) ?_)
        refine TL.cons (TO.val rfl rfl rfl (Val.move rfl) ?_)
        refine TK.split (p := 0 ≤ a0.f4) h (fun hg342 h => ?_) (fun hg342 h => ?_)
        ·
         have hk343 : decide (0 ≤ a0.f4) = true := decide_eq_true hg342
         refine TL.cons (TO.val (Wt.yes rfl rfl rfl hk343) rfl rfl (Val.fieldAddrB Tryd.underlying40 rfl fsz3 rfl rfl rfl) ?_)
         refine TL.cons (TO.val (Wt.yes rfl rfl rfl hk343) rfl rfl (Val.loadB 0 agg3 rfl rfl rfl) ?_)
         refine TL.cons (TO.val (Wt.yes rfl rfl rfl hk343) rfl rfl (Val.cmp rfl rfl run_leq) ?_)
         refine TL.cons (TO.val rfl rfl rfl (Val.pickY rfl hk343 rfl) ?_)
         refine TL.cons (TO.val rfl rfl rfl (Val.assign rfl) ?_)
         refine TL.nil ?_
         refine TQ.then_ ?_
         refine TC.ret ?_
         refine TQ.inBR ?_
         refine TQ.thenR ?_
         obtain rfl := Option.some.inj h
         exact TQ.fin (.inl rfl) rfl Tryd.results24 (.tmp rfl .nil) rfl (FRel.mk (Ls := []) [] 1 (Gd.le.refl _) rfl rfl rfl ⟨rfl, rfl, rfl⟩)
        ·
         have hk344 : decide (0 ≤ a0.f4) = false := decide_eq_false hg342
         refine TL.cons (TL.not (Wt.no rfl rfl rfl hk344) rfl ?_)
         refine TL.cons (TL.not (Wt.no rfl rfl rfl hk344) rfl ?_)
         refine TL.cons (TL.not (Wt.no rfl rfl rfl hk344) rfl ?_)
         refine TL.cons (TO.val rfl rfl rfl (Val.pickN rfl hk344 rfl) ?_)
         refine TL.cons (TO.val rfl rfl rfl (Val.assign rfl) ?_)
         refine TL.nil ?_
         refine TQ.then_ ?_
         refine TC.ret ?_
         refine TQ.inBR ?_
         refine TQ.thenR ?_
         obtain rfl := Option.some.inj h
         exact TQ.fin (.inl rfl) rfl Tryd.results24 (.tmp rfl .nil) rfl (FRel.mk (Ls := []) [] 1 (Gd.le.refl _) rfl rfl rfl ⟨rfl, rfl, rfl⟩)
       ·
        refine TC.seq ?_
        refine TC.region ?_
        refine TL.cons (TO.val rfl rfl rfl (Val.cmp rfl rfl run_eql) ?_)
        refine TL.cons (TO.val rfl rfl rfl (Val.assign rfl) ?_)
        refine TL.nil ?_
        refine TQ.then_ ?_
        refine TC.cond_p rfl h (fun hc352 h => ?_) (fun hc352 h => ?_)
        ·
         refine TC.seq ?_
         refine TC.region ?_
         refine TL.cons (TO.val rfl rfl rfl (Val.fieldAddrB Tryd.underlying40 rfl fsz3 rfl rfl rfl) ?_)
         refine TL.cons (TO.val rfl rfl rfl (Val.loadB 0 agg3 rfl rfl rfl) ?_)
         refine TL.cons (TO.val rfl rfl rfl (Val.cmp rfl rfl run_geq) ?_)
         refine TL.cons (TO.val rfl rfl rfl (Val.move rfl) ?_)
         refine TK.split (p := 0 ≤ a0.f4) h (fun hg356 h => ?_) (fun hg356 h => ?_)
         ·
          have hk357 : decide (0 ≤ a0.f4) = true := decide_eq_true hg356
          refine TL.cons (TO.val (Wt.yes rfl rfl rfl hk357) rfl rfl (Val.fieldAddrB Tryd.underlying40 rfl fsz3 rfl rfl rfl) ?_)
          refine TL.cons (TO.val (Wt.yes rfl rfl rfl hk357) rfl rfl (Val.loadB 0 agg3 rfl rfl rfl) ?_)
          refine TL.cons (TO.val (Wt.yes rfl rfl rfl hk357) rfl rfl (Val.move rfl) ?_)
          refine TL.cons (TO.val (Wt.yes rfl rfl rfl hk357) rfl rfl (Val.cmp rfl rfl run_lss) ?_)
          refine TL.cons (TO.val rfl rfl rfl (Val.pickY rfl hk357 rfl) ?_)
          refine TL.cons (TO.val rfl rfl rfl (Val.assign rfl) ?_)
          refine TL.nil ?_
          refine TQ.then_ ?_
          refine TC.ret ?_
          refine TQ.inBR ?_
          refine TQ.thenR ?_
          obtain rfl := Option.some.inj h
          exact TQ.fin (.inl rfl) rfl Tryd.results24 (.tmp rfl .nil) rfl (FRel.mk (Ls := []) [] 1 (Gd.le.refl _) rfl rfl rfl ⟨rfl, rfl, rfl⟩)
         ·
          have hk358 : decide (0 ≤ a0.f4) = false := decide_eq_false hg356
          refine TL.cons (TL.not (Wt.no rfl rfl rfl hk358) rfl ?_)
          refine TL.cons (TL.not (Wt.no rfl rfl rfl hk358) rfl ?_)
          refine TL.cons (TL.not (Wt.no rfl rfl rfl hk358) rfl ?_)
          refine TL.cons (TL.not (Wt.no rfl rfl rfl hk358) rfl ?_)
          refine TL.cons (TO.val rfl rfl rfl (Val.pickN rfl hk358 rfl) ?_)
          refine TL.cons (TO.val rfl rfl rfl (Val.assign rfl) ?_)
          refine TL.nil ?_
          refine TQ.then_ ?_
          refine TC.ret ?_
          refine TQ.inBR ?_
          refine TQ.thenR ?_
          obtain rfl := Option.some.inj h
          exact TQ.fin (.inl rfl) rfl Tryd.results24 (.tmp rfl .nil) rfl (FRel.mk (Ls := []) [] 1 (Gd.le.refl _) rfl rfl rfl ⟨rfl, rfl, rfl⟩)
        ·
         refine TC.skip ?_
         refine TQ.inB ?_
         refine TQ.then_ ?_
         refine TC.seq ?_
         refine TC.region ?_
         refine TL.cons (TO.val rfl rfl rfl (Val.assign rfl) ?_)
         refine TL.nil ?_
         refine TQ.then_ ?_
         refine TC.ret ?_
         obtain rfl := Option.some.inj h
         exact TQ.fin (.inl rfl) rfl Tryd.results24 (.tmp rfl .nil) rfl (FRel.mk (Ls := []) [] 1 (Gd.le.refl _) rfl rfl rfl ⟨rfl, rfl, rfl⟩)
     ·
      refine TC.cond_p rfl h (fun hc359 h => ?_) (fun hc359 h => ?_)
      ·
       refine TC.skip ?_
       exact fun a W hF hO => ⟨decide (a0.f0 = 4), h, hF.sub ⟨rfl, rfl, rfl, rfl, trivial⟩, hO.selT (Ls := [Blk b5 [.int .i64 a0.f0, .int .i64 a0.f1, .int .i64 a0.f2, .int .i64 a0.f3, .int .i64 a0.f4, .slice A1 a0.f5.length c2] 40]) [0] 1 rfl rfl rfl⟩
      ·
       refine TC.region ?_
       refine TL.cons (TO.val rfl rfl rfl (Val.cmp rfl rfl run_eql) ?_)
       refine TL.cons (TO.val rfl rfl rfl (Val.assign rfl) ?_)
       refine TL.nil ?_
       exact fun a W hF hO => ⟨decide (a0.f0 = 5), h, hF.sub ⟨rfl, rfl, rfl, rfl, trivial⟩, hO.selT (Ls := [Blk b5 [.int .i64 a0.f0, .int .i64 a0.f1, .int .i64 a0.f2, .int .i64 a0.f3, .int .i64 a0.f4, .slice A1 a0.f5.length c2] 40]) [0] 1 rfl rfl rfl⟩
   ·
    refine TC.block ?_
    intro a W hF hO
    have hS : ∃ (x105 : Int), swageref14_RightOp.l0 a0 (a0.f5.length + 1) x105 = some o134 ∧ Fr 122 a [(1, .int .i64 a1), (2, .pointer (some ⟨b5, 0, none⟩)), (10, .int .i64 x105)] ∧ Own G (Blk b5 [.int .i64 a0.f0, .int .i64 a0.f1, .int .i64 a0.f2, .int .i64 a0.f3, .int .i64 a0.f4, .slice A1 a0.f5.length c2] 40 :: L) W := by
     exact ⟨0, ho134, hF.sub ⟨rfl, rfl, rfl, trivial⟩, hO.selT (Ls := [Blk b5 [.int .i64 a0.f0, .int .i64 a0.f1, .int .i64 a0.f2, .int .i64 a0.f3, .int .i64 a0.f4, .slice A1 a0.f5.length c2] 40]) [0] 1 rfl rfl rfl⟩
    clear hF hO ho134
    refine TC.loop (fun n135 a W => ∃ (x105 : Int), swageref14_RightOp.l0 a0 n135 x105 = some o134 ∧ Fr 122 a [(1, .int .i64 a1), (2, .pointer (some ⟨b5, 0, none⟩)), (10, .int .i64 x105)] ∧ Own G (Blk b5 [.int .i64 a0.f0, .int .i64 a0.f1, .int .i64 a0.f2, .int .i64 a0.f3, .int .i64 a0.f4, .slice A1 a0.f5.length c2] 40 :: L) W) ?_ ?_ hS
    ·
     rintro a W ⟨x105, h, hF, hO⟩
     exact none_no h
    ·
     clear hS
     rintro n135 a W ⟨x105, h, hF, hO⟩
     rw [swageref14_RightOp.l0] at h
     refine TC.use ?_ hF hO
     clear hF hO
     refine TC.seq ?_
     refine TC.seq ?_
     refine TC.region ?_
     refine TL.cons (TO.val rfl rfl rfl (Val.move rfl) ?_)
     refine TL.cons (TO.val rfl rfl rfl (Val.fieldAddrB Tryd.underlying40 rfl fsz38 rfl rfl rfl) ?_)
     refine TL.cons (TO.val rfl rfl rfl (Val.loadB 0 agg38 rfl rfl rfl) ?_)
     refine TL.cons (TO.val rfl rfl rfl (Val.len Tryd.underlying38 rfl) ?_)
     refine TL.cons (TO.val rfl rfl rfl (Val.cmp rfl rfl run_lss) ?_)
     refine TL.nil ?_
     refine TQ.then_ ?_
     refine TC.cond_p rfl h (fun hc361 h => ?_) (fun hc361 h => ?_)
     ·
      refine TC.skip ?_
      refine TQ.then_ ?_
      refine TC.seq ?_
      refine TC.block ?_
      refine TC.seq ?_
      refine TC.region ?_
      refine TL.cons (TO.val rfl rfl rfl (Val.fieldAddrB Tryd.underlying40 rfl fsz38 rfl rfl rfl) ?_)
      refine TL.cons (TO.val rfl rfl rfl (Val.loadB 0 agg38 rfl rfl rfl) ?_)
      refine TL.cons (TO.val rfl rfl rfl (Val.move rfl) ?_)
      obtain ⟨y375, hx376, h⟩ := bind_no h
      obtain ⟨ad377, cs383, hA378, hi379, hj380, hcl381, hK382⟩ := Rd.at hr3 hx376
      obtain rfl := RdK.int hK382
      refine TL.cons (TO.val rfl rfl rfl (Val.indexAddr Tryd.underlying38 fsz3 rfl hA378 rfl hi379 hj380) ?_)
      refine TL.cons (TO.val rfl rfl rfl (Val.loadS agg3 rfl (hcl381 0 _ rfl)) ?_)
      obtain ⟨y384, hy385, h⟩ := bind_no h
      refine TL.cons (TL.callV (Lin := []) (args := [.int .i64 y375]) rfl rfl rfl hbd59 rfl rfl (swageref14_reg.calls (a0 := y375) hy385) rfl ?_)
      rintro _ _ _ _ ⟨rfl, rfl, rfl⟩
      refine TL.cons (TO.val rfl rfl rfl (Val.not_ rfl) ?_)
      refine TL.nil ?_
      refine TQ.then_ ?_
      refine TC.cond_b rfl h (fun hc387 h => ?_) (fun hc387 h => ?_)
      ·
       refine TC.seq ?_
       refine TC.region ?_
       refine TL.cons (TO.val rfl rfl rfl (Val.assign rfl) ?_)
       refine TL.nil ?_
       refine TQ.then_ ?_
       refine TC.ret ?_
       refine TQ.inBR ?_
       refine TQ.thenR ?_
       refine TQ.thenR ?_
       refine TQ.inBR ?_
       refine TQ.thenR ?_
       refine TQ.thenR ?_
       obtain rfl := Option.some.inj h
       have h := ko134
       obtain rfl := Option.some.inj h
       exact TQ.fin (.inl rfl) rfl Tryd.results24 (.tmp rfl .nil) rfl (FRel.mk (Ls := []) [] 1 (Gd.le.refl _) rfl rfl rfl ⟨rfl, rfl, rfl⟩)
      ·
       refine TC.skip ?_
       refine TQ.inB ?_
       refine TQ.then_ ?_
       refine TC.region ?_
       refine TL.cons (TO.val rfl rfl rfl (Val.move rfl) ?_)
       refine TL.cons (TO.val rfl rfl rfl (Val.cmp rfl rfl run_add) ?_)
       refine TL.cons (TO.val rfl rfl rfl (Val.assign rfl) ?_)
       refine TL.nil ?_
       exact fun a W hF hO => ⟨IntKind.i64.wrap (x105 + 1), h, hF.sub ⟨rfl, rfl, rfl, trivial⟩, hO.selT (Ls := [Blk b5 [.int .i64 a0.f0, .int .i64 a0.f1, .int .i64 a0.f2, .int .i64 a0.f3, .int .i64 a0.f4, .slice A1 a0.f5.length c2] 40]) [0] 1 rfl rfl rfl⟩
     ·
      refine TC.exit ?_
      refine TQ.thenX ?_
      refine TQ.thenX ?_
      refine TQ.inBX ?_
      exact fun a W hF hO => ⟨Option.some.inj h, hF.sub ⟨rfl, rfl, trivial⟩, hO.selT (Ls := [Blk b5 [.int .i64 a0.f0, .int .i64 a0.f1, .int .i64 a0.f2, .int .i64 a0.f3, .int .i64 a0.f4, .slice A1 a0.f5.length c2] 40]) [0] 1 rfl rfl rfl⟩
 ·
  refine TC.region ?_
  refine TL.cons (TO.val rfl rfl rfl (Val.move rfl) ?_)
  refine TL.cons (TO.val rfl rfl rfl (Val.not_ rfl) ?_)
  refine TL.cons (TO.val rfl rfl rfl (Val.move rfl) ?_)
  refine TK.split (p := (!y6.2.2.2.2) = true) h (fun hg388 h => ?_) (fun hg388 h => ?_)
  ·
   have hk389 : (!y6.2.2.2.2) = true := hg388
   refine TL.cons (TL.not (Wt.no rfl rfl rfl hk389) rfl ?_)
   refine TL.cons (TL.not (Wt.no rfl rfl rfl hk389) rfl ?_)
   refine TL.cons (TL.not (Wt.no rfl rfl rfl hk389) rfl ?_)
   refine TL.cons (TL.not (Wt.no rfl rfl rfl hk389) rfl ?_)
   refine TL.cons (TL.not (Wt.no rfl rfl rfl hk389) rfl ?_)
   refine TL.cons (TO.val rfl rfl rfl (Val.pickY rfl hk389 rfl) ?_)
   refine TL.cons (TO.val rfl rfl rfl (Val.move rfl) ?_)
   refine TL.cons (TL.not (Wt.no rfl rfl rfl rfl) rfl ?_)
   refine TL.cons (TL.not (Wt.no rfl rfl rfl rfl) rfl ?_)
   refine TL.cons (TL.not (Wt.no rfl rfl rfl rfl) rfl ?_)
   refine TL.cons (TL.not (Wt.no rfl rfl rfl rfl) rfl ?_)
   refine TL.cons (TL.not (Wt.no rfl rfl rfl rfl) rfl ?_)
   refine TL.cons (TO.val rfl rfl rfl (Val.pickY rfl rfl rfl) ?_)
   refine TL.cons (TO.val rfl rfl rfl (Val.move rfl) ?_)
   refine TL.cons (TL.not (Wt.no rfl rfl rfl rfl) rfl ?_)
   refine TL.cons (TL.not (Wt.no rfl rfl rfl rfl) rfl ?_)
   refine TL.cons (TL.not (Wt.no rfl rfl rfl rfl) rfl ?_)
   refine TL.cons (TL.not (Wt.no rfl rfl rfl rfl) rfl ?_)
   refine TL.cons (TL.not (Wt.no rfl rfl rfl rfl) rfl ?_)
   refine TL.cons (TO.val rfl rfl rfl (Val.pickY rfl rfl rfl) ?_)
   refine TL.cons (TO.val rfl rfl rfl (Val.move rfl) ?_)
   refine TL.cons (TL.not (Wt.no rfl rfl rfl rfl) rfl ?_)
   refine TL.cons (TL.not (Wt.no rfl rfl rfl rfl) rfl ?_)
   refine TL.cons (TL.not (Wt.no rfl rfl rfl rfl) rfl ?_)
   refine TL.cons (TL.not rfl rfl ?_)
   refine TL.cons (TL.not rfl rfl ?_)
   refine TL.cons (TL.not rfl rfl ?_)
   refine TL.cons (TL.not (Wt.no rfl rfl rfl rfl) rfl ?_)
   refine TL.cons (TO.val rfl rfl rfl (Val.pickY rfl rfl rfl) ?_)
   refine TL.cons (TO.val rfl rfl rfl (Val.move rfl) ?_)
   refine TL.cons (TL.not (Wt.no rfl rfl rfl rfl) rfl ?_)
   refine TL.cons (TL.not (Wt.no rfl rfl rfl rfl) rfl ?_)
   refine TL.cons (TL.not (Wt.no rfl rfl rfl rfl) rfl ?_)
   refine TL.cons (TL.not (Wt.no rfl rfl rfl rfl) rfl ?_)
   refine TL.cons (TL.not rfl rfl ?_)
   refine TL.cons (TL.not rfl rfl ?_)
   refine TL.cons (TL.not rfl rfl ?_)
   refine TL.cons (TL.not rfl rfl ?_)
   refine TL.cons (TL.not (Wt.no rfl rfl rfl rfl) rfl ?_)
   refine TL.cons (TO.val rfl rfl rfl (Val.pickY rfl rfl rfl) ?_)
   refine TL.cons (TO.val rfl rfl rfl (Val.move rfl) ?_)
   refine TL.cons (TL.not (Wt.no rfl rfl rfl rfl) rfl ?_)
   refine TL.cons (TL.not (Wt.no rfl rfl rfl rfl) rfl ?_)
   refine TL.cons (TL.not (Wt.no rfl rfl rfl rfl) rfl ?_)
   refine TL.cons (TL.not (Wt.no rfl rfl rfl rfl) rfl ?_)
   refine TL.cons (TO.val rfl rfl rfl (Val.pickY rfl rfl rfl) ?_)
   refine TL.nil ?_
   exact fun a W hF hO => ⟨true, h, hF.sub ⟨rfl, rfl, rfl, trivial⟩, hO.selT (Ls := [Blk b5 [.int .i64 a0.f0, .int .i64 a0.f1, .int .i64 a0.f2, .int .i64 a0.f3, .int .i64 a0.f4, .slice A1 a0.f5.length c2] 40]) [0] 1 rfl rfl rfl⟩
  ·
   have hk390 : (!y6.2.2.2.2) = false := (by simpa using hg388)
   refine TL.cons (TO.val (Wt.yes rfl rfl rfl hk390) rfl rfl (Val.fieldAddrB Tryd.underlying40 rfl fsz3 rfl rfl rfl) ?_)
   refine TL.cons (TO.val (Wt.yes rfl rfl rfl hk390) rfl rfl (Val.loadB 0 agg3 rfl rfl rfl) ?_)
   refine TL.cons (TO.val (Wt.yes rfl rfl rfl hk390) rfl rfl (Val.move rfl) ?_)
   obtain ⟨y391, hy392, h⟩ := bind_no h
   refine TL.cons (TL.callV (Lin := []) (args := [.int .i64 a0.f1, .bool y6.1]) (Wt.yes rfl rfl rfl hk390) rfl rfl hbd58 rfl rfl (swageref14_field.calls (a0 := a0.f1) (a1 := y6.1) hy392) rfl ?_)
   rintro _ _ _ _ ⟨rfl, rfl, rfl⟩
   refine TL.cons (TO.val (Wt.yes rfl rfl rfl hk390) rfl rfl (Val.not_ rfl) ?_)
   refine TL.cons (TO.val rfl rfl rfl (Val.pickN rfl hk390 rfl) ?_)
   refine TL.cons (TO.val rfl rfl rfl (Val.move rfl) ?_)
   refine TK.split (p := (!y391) = true) h (fun hg393 h => ?_) (fun hg393 h => ?_)
   ·
    have hk394 : (!y391) = true := hg393
    refine TL.cons (TL.not (Wt.no rfl rfl rfl hk394) rfl ?_)
    refine TL.cons (TL.not (Wt.no rfl rfl rfl hk394) rfl ?_)
    refine TL.cons (TL.not (Wt.no rfl rfl rfl hk394) rfl ?_)
    refine TL.cons (TL.not (Wt.no rfl rfl rfl hk394) rfl ?_)
    refine TL.cons (TL.not (Wt.no rfl rfl rfl hk394) rfl ?_)
    refine TL.cons (TO.val rfl rfl rfl (Val.pickY rfl hk394 rfl) ?_)
    refine TL.cons (TO.val rfl rfl rfl (Val.move rfl) ?_)
    refine TL.cons (TL.not (Wt.no rfl rfl rfl rfl) rfl ?_)
    refine TL.cons (TL.not (Wt.no rfl rfl rfl rfl) rfl ?_)
    refine TL.cons (TL.not (Wt.no rfl rfl rfl rfl) rfl ?_)
    refine TL.cons (TL.not (Wt.no rfl rfl rfl rfl) rfl ?_)
    refine TL.cons (TL.not (Wt.no rfl rfl rfl rfl) rfl ?_)
    refine TL.cons (TO.val rfl rfl rfl (Val.pickY rfl rfl rfl) ?_)
    refine TL.cons (TO.val rfl rfl rfl (Val.move rfl) ?_)
    refine TL.cons (TL.not (Wt.no rfl rfl rfl rfl) rfl ?_)
    refine TL.cons (TL.not (Wt.no rfl rfl rfl rfl) rfl ?_)
    refine TL.cons (TL.not (Wt.no rfl rfl rfl rfl) rfl ?_)
    refine TL.cons (TL.not rfl rfl ?_)
    refine TL.cons (TL.not rfl rfl ?_)
    refine TL.cons (TL.not rfl rfl ?_)
    refine TL.cons (TL.not (Wt.no rfl rfl rfl rfl) rfl ?_)
    refine TL.cons (TO.val rfl rfl rfl (Val.pickY rfl rfl rfl) ?_)
    refine TL.cons (TO.val rfl rfl rfl (Val.move rfl) ?_)
    refine TL.cons (TL.not (Wt.no rfl rfl rfl rfl) rfl ?_)
    refine TL.cons (TL.not (Wt.no rfl rfl rfl rfl) rfl ?_)
    refine TL.cons (TL.not (Wt.no rfl rfl rfl rfl) rfl ?_)
    refine TL.cons (TL.not (Wt.no rfl rfl rfl rfl) rfl ?_)
    refine TL.cons (TL.not rfl rfl ?_)
    refine TL.cons (TL.not rfl rfl ?_)
    refine TL.cons (TL.not rfl rfl ?_)
    refine TL.cons (TL.not rfl rfl ?_)
    refine TL.cons (TL.not (Wt.no rfl rfl rfl rfl) rfl ?_)
    refine TL.cons (TO.val rfl rfl rfl (Val.pickY rfl rfl rfl) ?_)
    refine TL.cons (TO.val rfl rfl rfl (Val.move rfl) ?_)
    refine TL.cons (TL.not (Wt.no rfl rfl rfl rfl) rfl ?_)
    refine TL.cons (TL.not (Wt.no rfl rfl rfl rfl) rfl ?_)
    refine TL.cons (TL.not (Wt.no rfl rfl rfl rfl) rfl ?_)
    refine TL.cons (TL.not (Wt.no rfl rfl rfl rfl) rfl ?_)
    refine TL.cons (TO.val rfl rfl rfl (Val.pickY rfl rfl rfl) ?_)
    refine TL.nil ?_
    exact fun a W hF hO => ⟨true, h, hF.sub ⟨rfl, rfl, rfl, trivial⟩, hO.selT (Ls := [Blk b5 [.int .i64 a0.f0, .int .i64 a0.f1, .int .i64 a0.f2, .int .i64 a0.f3, .int .i64 a0.f4, .slice A1 a0.f5.length c2] 40]) [0] 1 rfl rfl rfl⟩
   ·
    have hk395 : (!y391) = false := (by simpa using hg393)
    refine TL.cons (TO.val (Wt.yes rfl rfl rfl hk395) rfl rfl (Val.fieldAddrB Tryd.underlying40 rfl fsz3 rfl rfl rfl) ?_)
    refine TL.cons (TO.val (Wt.yes rfl rfl rfl hk395) rfl rfl (Val.loadB 0 agg3 rfl rfl rfl) ?_)
    refine TL.cons (TO.val (Wt.yes rfl rfl rfl hk395) rfl rfl (Val.move rfl) ?_)
    obtain ⟨y396, hy397, h⟩ := bind_no h
    refine TL.cons (TL.callV (Lin := []) (args := [.int .i64 a0.f2, .bool y6.2.1]) (Wt.yes rfl rfl rfl hk395) rfl rfl hbd58 rfl rfl (swageref14_field.calls (a0 := a0.f2) (a1 := y6.2.1) hy397) rfl ?_)
    rintro _ _ _ _ ⟨rfl, rfl, rfl⟩
    refine TL.cons (TO.val (Wt.yes rfl rfl rfl hk395) rfl rfl (Val.not_ rfl) ?_)
    refine TL.cons (TO.val rfl rfl rfl (Val.pickN rfl hk395 rfl) ?_)
    refine TL.cons (TO.val rfl rfl rfl (Val.move rfl) ?_)
    refine TK.split (p := (!y396) = true) h (fun hg398 h => ?_) (fun hg398 h => ?_)
    ·
     have hk399 : (!y396) = true := hg398
     refine TL.cons (TL.not (Wt.no rfl rfl rfl hk399) rfl ?_)
     refine TL.cons (TL.not (Wt.no rfl rfl rfl hk399) rfl ?_)
     refine TL.cons (TL.not (Wt.no rfl rfl rfl hk399) rfl ?_)
     refine TL.cons (TL.not (Wt.no rfl rfl rfl hk399) rfl ?_)
     refine TL.cons (TL.not (Wt.no rfl rfl rfl hk399) rfl ?_)
     refine TL.cons (TO.val rfl rfl rfl (Val.pickY rfl hk399 rfl) ?_)
     refine TL.cons (TO.val rfl rfl rfl (Val.move rfl) ?_)
     refine TL.cons (TL.not (Wt.no rfl rfl rfl rfl) rfl ?_)
     refine TL.cons (TL.not (Wt.no rfl rfl rfl rfl) rfl ?_)
     refine TL.cons (TL.not (Wt.no rfl rfl rfl rfl) rfl ?_)
     refine TL.cons (TL.not rfl rfl ?_)
     refine TL.cons (TL.not rfl rfl ?_)
     refine TL.cons (TL.not rfl rfl ?_)
     refine TL.cons (TL.not (Wt.no rfl rfl rfl rfl) rfl ?_)
     refine TL.cons (TO.val rfl rfl rfl (Val.pickY rfl rfl rfl) ?_)
     refine TL.cons (TO.val rfl rfl rfl (Val.move rfl) ?_)
     refine TL.cons (TL.not (Wt.no rfl rfl rfl rfl) rfl ?_)
     refine TL.cons (TL.not (Wt.no rfl rfl rfl rfl) rfl ?_)
     refine TL.cons (TL.not (Wt.no rfl rfl rfl rfl) rfl ?_)
     refine TL.cons (TL.not (Wt.no rfl rfl rfl rfl) rfl ?_)
     refine TL.cons (TL.not rfl rfl ?_)
     refine TL.cons (TL.not rfl rfl ?_)
     refine TL.cons (TL.not rfl rfl ?_)
     refine TL.cons (TL.not rfl rfl ?_)
     refine TL.cons (TL.not (Wt.no rfl rfl rfl rfl) rfl ?_)
     refine TL.cons (TO.val rfl rfl rfl (Val.pickY rfl rfl rfl) ?_)
     refine TL.cons (TO.val rfl rfl rfl (Val.move rfl) ?_)
     refine TL.cons (TL.not (Wt.no rfl rfl rfl rfl) rfl ?_)
     refine TL.cons (TL.not (Wt.no rfl rfl rfl rfl) rfl ?_)
     refine TL.cons (TL.not (Wt.no rfl rfl rfl rfl) rfl ?_)
     refine TL.cons (TL.not (Wt.no rfl rfl rfl rfl) rfl ?_)
     refine TL.cons (TO.val rfl rfl rfl (Val.pickY rfl rfl rfl) ?_)
     refine TL.nil ?_
     exact fun a W hF hO => ⟨true, h, hF.sub ⟨rfl, rfl, rfl, trivial⟩, hO.selT (Ls := [Blk b5 [.int .i64 a0.f0, .int .i64 a0.f1, .int .i64 a0.f2, .int .i64 a0.f3, .int .i64 a0.f4, .slice A1 a0.f5.length c2] 40]) [0] 1 rfl rfl rfl⟩
    ·
     have hk400 : (!y396) = false := (by simpa using hg398)
     refine TL.cons (TO.val (Wt.yes rfl rfl rfl hk400) rfl rfl (Val.fieldAddrB Tryd.underlying40 rfl fsz3 rfl rfl rfl) ?_)
     refine TL.cons (TO.val (Wt.yes rfl rfl rfl hk400) rfl rfl (Val.loadB 0 agg3 rfl rfl rfl) ?_)
     refine TL.cons (TO.val (Wt.yes rfl rfl rfl hk400) rfl rfl (Val.move rfl) ?_)
     obtain ⟨y401, hy402, h⟩ := bind_no h
     refine TL.cons (TL.callV (Lin := []) (args := [.int .i64 a0.f3, .bool y6.2.2.1]) (Wt.yes rfl rfl rfl hk400) rfl rfl hbd58 rfl rfl (swageref14_field.calls (a0 := a0.f3) (a1 := y6.2.2.1) hy402) rfl ?_)
     rintro _ _ _ _ ⟨rfl, rfl, rfl⟩
     refine TL.cons (TO.val (Wt.yes rfl rfl rfl hk400) rfl rfl (Val.not_ rfl) ?_)
     refine TL.cons (TO.val rfl rfl rfl (Val.pickN rfl hk400 rfl) ?_)
     refine TL.cons (TO.val rfl rfl rfl (Val.move rfl) ?_)
     refine TK.split (p := (!y401) = true) h (fun hg403 h => ?_) (fun hg403 h => ?_)
     ·
      have hk404 : (!y401) = true := hg403
      refine TL.cons (TL.not (Wt.no rfl rfl rfl hk404) rfl ?_)
      refine TL.cons (TL.not (Wt.no rfl rfl rfl hk404) rfl ?_)
      refine TL.cons (TL.not (Wt.no rfl rfl rfl hk404) rfl ?_)
      refine TL.cons (TL.not rfl rfl ?_)
      refine TL.cons (TL.not rfl rfl ?_)
      refine TL.cons (TL.not rfl rfl ?_)
      refine TL.cons (TL.not (Wt.no rfl rfl rfl hk404) rfl ?_)
      refine TL.cons (TO.val rfl rfl rfl (Val.pickY rfl hk404 rfl) ?_)
      refine TL.cons (TO.val rfl rfl rfl (Val.move rfl) ?_)
      refine TL.cons (TL.not (Wt.no rfl rfl rfl rfl) rfl ?_)
      refine TL.cons (TL.not (Wt.no rfl rfl rfl rfl) rfl ?_)
      refine TL.cons (TL.not (Wt.no rfl rfl rfl rfl) rfl ?_)
      refine TL.cons (TL.not (Wt.no rfl rfl rfl rfl) rfl ?_)
      refine TL.cons (TL.not rfl rfl ?_)
      refine TL.cons (TL.not rfl rfl ?_)
      refine TL.cons (TL.not rfl rfl ?_)
      refine TL.cons (TL.not rfl rfl ?_)
      refine TL.cons (TL.not (Wt.no rfl rfl rfl rfl) rfl ?_)
      refine TL.cons (TO.val rfl rfl rfl (Val.pickY rfl rfl rfl) ?_)
      refine TL.cons (TO.val rfl rfl rfl (Val.move rfl) ?_)
      refine TL.cons (TL.not (Wt.no rfl rfl rfl rfl) rfl ?_)
      refine TL.cons (TL.not (Wt.no rfl rfl rfl rfl) rfl ?_)
      refine TL.cons (TL.not (Wt.no rfl rfl rfl rfl) rfl ?_)
      refine TL.cons (TL.not (Wt.no rfl rfl rfl rfl) rfl ?_)
      refine TL.cons (TO.val rfl rfl rfl (Val.pickY rfl rfl rfl) ?_)
      refine TL.nil ?_
      exact fun a W hF hO => ⟨true, h, hF.sub ⟨rfl, rfl, rfl, trivial⟩, hO.selT (Ls := [Blk b5 [.int .i64 a0.f0, .int .i64 a0.f1, .int .i64 a0.f2, .int .i64 a0.f3, .int .i64 a0.f4, .slice A1 a0.f5.length c2] 40]) [0] 1 rfl rfl rfl⟩
     ·
      have hk405 : (!y401) = false := (by simpa using hg403)
      refine TL.cons (TO.val (Wt.yes rfl rfl rfl hk405) rfl rfl (Val.move rfl) ?_)
      refine TL.cons (TO.val (Wt.yes rfl rfl rfl hk405) rfl rfl (Val.not_ rfl) ?_)
      refine TL.cons (TO.val (Wt.yes rfl rfl rfl hk405) rfl rfl (Val.move rfl) ?_)
      refine TK.split (p := (!y6.2.2.2.1) = true) h (fun hg406 h => ?_) (fun hg406 h => ?_)
      ·
       have hk407 : (!y6.2.2.2.1) = true := hg406
       refine TL.cons (TO.val (Wt.yes rfl rfl rfl hk407) rfl rfl (Val.fieldAddrB Tryd.underlying40 rfl fsz3 rfl rfl rfl) ?_)
       refine TL.cons (TO.val (Wt.yes rfl rfl rfl hk407) rfl rfl (Val.loadB 0 agg3 rfl rfl rfl) ?_)
       refine TL.cons (TO.val (Wt.yes rfl rfl rfl hk407) rfl rfl (Val.cmp rfl rfl run_neq) ?_)
       refine TL.cons (TO.val (Wt.yes rfl rfl rfl hk405) rfl rfl (Val.pickY rfl hk407 rfl) ?_)
       refine TL.cons (TO.val rfl rfl rfl (Val.pickN rfl hk405 rfl) ?_)
       refine TL.cons (TO.val rfl rfl rfl (Val.move rfl) ?_)
       refine TK.split (p := (!decide (a0.f4 = 0)) = true) h (fun hg408 h => ?_) (fun hg408 h => ?_)
       ·
        have hk409 : (!decide (a0.f4 = 0)) = true := hg408
        refine TL.cons (TL.not (Wt.no rfl rfl rfl hk409) rfl ?_)
        refine TL.cons (TL.not (Wt.no rfl rfl rfl hk409) rfl ?_)
        refine TL.cons (TL.not (Wt.no rfl rfl rfl hk409) rfl ?_)
        refine TL.cons (TL.not (Wt.no rfl rfl rfl hk409) rfl ?_)
        refine TL.cons (TL.not rfl rfl ?_)
        refine TL.cons (TL.not rfl rfl ?_)
        refine TL.cons (TL.not rfl rfl ?_)
        refine TL.cons (TL.not rfl rfl ?_)
        refine TL.cons (TL.not (Wt.no rfl rfl rfl hk409) rfl ?_)
        refine TL.cons (TO.val rfl rfl rfl (Val.pickY rfl hk409 rfl) ?_)
        refine TL.cons (TO.val rfl rfl rfl (Val.move rfl) ?_)
        refine TL.cons (TL.not (Wt.no rfl rfl rfl rfl) rfl ?_)
        refine TL.cons (TL.not (Wt.no rfl rfl rfl rfl) rfl ?_)
        refine TL.cons (TL.not (Wt.no rfl rfl rfl rfl) rfl ?_)
        refine TL.cons (TL.not (Wt.no rfl rfl rfl rfl) rfl ?_)
        refine TL.cons (TO.val rfl rfl rfl (Val.pickY rfl rfl rfl) ?_)
        refine TL.nil ?_
        exact fun a W hF hO => ⟨true, h, hF.sub ⟨rfl, rfl, rfl, trivial⟩, hO.selT (Ls := [Blk b5 [.int .i64 a0.f0, .int .i64 a0.f1, .int .i64 a0.f2, .int .i64 a0.f3, .int .i64 a0.f4, .slice A1 a0.f5.length c2] 40]) [0] 1 rfl rfl rfl⟩
       ·
        have hk410 : (!decide (a0.f4 = 0)) = false := (by simpa using hg408)
        refine TL.cons (TO.val (Wt.yes rfl rfl rfl hk410) rfl rfl (Val.fieldAddrB Tryd.underlying40 rfl fsz3 rfl rfl rfl) ?_)
        refine TL.cons (TO.val (Wt.yes rfl rfl rfl hk410) rfl rfl (Val.loadB 0 agg3 rfl rfl rfl) ?_)
        refine TL.cons (TO.val (Wt.yes rfl rfl rfl hk410) rfl rfl (Val.cmp rfl rfl run_neq) ?_)
        refine TL.cons (TO.val (Wt.yes rfl rfl rfl hk410) rfl rfl (Val.move rfl) ?_)
        refine TK.split (p := (!decide (a0.f0 = 7)) = true) h (fun hg411 h => ?_) (fun hg411 h => ?_)
        ·
         have hk412 : (!decide (a0.f0 = 7)) = true := hg411
         refine TL.cons (TO.val (Wt.yes rfl rfl rfl hk412) rfl rfl (Val.fieldAddrB Tryd.underlying40 rfl fsz38 rfl rfl rfl) ?_)
         refine TL.cons (TO.val (Wt.yes rfl rfl rfl hk412) rfl rfl (Val.loadB 0 agg38 rfl rfl rfl) ?_)
         refine TL.cons (TO.val (Wt.yes rfl rfl rfl hk412) rfl rfl (Val.len Tryd.underlying38 rfl) ?_)
         refine TL.cons (TO.val (Wt.yes rfl rfl rfl hk412) rfl rfl (Val.cmp rfl rfl run_gtr) ?_)
         refine TL.cons (TO.val (Wt.yes rfl rfl rfl hk410) rfl rfl (Val.pickY rfl hk412 rfl) ?_)
         refine TL.cons (TO.val rfl rfl rfl (Val.pickN rfl hk410 rfl) ?_)
         refine TL.cons (TO.val rfl rfl rfl (Val.move rfl) ?_)
         refine TK.split (p := 0 < (a0.f5.length : Int)) h (fun hg413 h => ?_) (fun hg413 h => ?_)
         ·
          have hk414 : decide (0 < (a0.f5.length : Int)) = true := decide_eq_true hg413
          refine TL.cons (TL.not (Wt.no rfl rfl rfl hk414) rfl ?_)
          refine TL.cons (TL.not (Wt.no rfl rfl rfl hk414) rfl ?_)
          refine TL.cons (TL.not (Wt.no rfl rfl rfl hk414) rfl ?_)
          refine TL.cons (TL.not (Wt.no rfl rfl rfl hk414) rfl ?_)
          refine TL.cons (TO.val rfl rfl rfl (Val.pickY rfl hk414 rfl) ?_)
          refine TL.nil ?_
          exact fun a W hF hO => ⟨true, h, hF.sub ⟨rfl, rfl, rfl, trivial⟩, hO.selT (Ls := [Blk b5 [.int .i64 a0.f0, .int .i64 a0.f1, .int .i64 a0.f2, .int .i64 a0.f3, .int .i64 a0.f4, .slice A1 a0.f5.length c2] 40]) [0] 1 rfl rfl rfl⟩
         ·
          have hk415 : decide (0 < (a0.f5.length : Int)) = false := decide_eq_false hg413
          refine TL.cons (TO.val (Wt.yes rfl rfl rfl hk415) rfl rfl (Val.fieldAddrB Tryd.underlying40 rfl fsz38 rfl rfl rfl) ?_)
          refine TL.cons (TO.val (Wt.yes rfl rfl rfl hk415) rfl rfl (Val.loadB 0 agg38 rfl rfl rfl) ?_)
          refine TL.cons (TO.val (Wt.yes rfl rfl rfl hk415) rfl rfl (Val.len Tryd.underlying38 rfl) ?_)
          refine TL.cons (TO.val (Wt.yes rfl rfl rfl hk415) rfl rfl (Val.cmp rfl rfl run_gtr) ?_)
          refine TL.cons (TO.val rfl rfl rfl (Val.pickN rfl hk415 rfl) ?_)
          refine TL.nil ?_
          exact fun a W hF hO => ⟨decide (8 < (a0.f5.length : Int)), h, hF.sub ⟨rfl, rfl, rfl, trivial⟩, hO.selT (Ls := [Blk b5 [.int .i64 a0.f0, .int .i64 a0.f1, .int .i64 a0.f2, .int .i64 a0.f3, .int .i64 a0.f4, .slice A1 a0.f5.length c2] 40]) [0] 1 rfl rfl rfl⟩
        ·
         have hk416 : (!decide (a0.f0 = 7)) = false := (by simpa using hg411)
         refine TL.cons (TL.not (Wt.no rfl rfl rfl hk416) rfl ?_)
         refine TL.cons (TL.not (Wt.no rfl rfl rfl hk416) rfl ?_)
         refine TL.cons (TL.not (Wt.no rfl rfl rfl hk416) rfl ?_)
         refine TL.cons (TL.not (Wt.no rfl rfl rfl hk416) rfl ?_)
         refine TL.cons (TO.val (Wt.yes rfl rfl rfl hk410) rfl rfl (Val.pickN rfl hk416 rfl) ?_)
         refine TL.cons (TO.val rfl rfl rfl (Val.pickN rfl hk410 rfl) ?_)
         refine TL.cons (TO.val rfl rfl rfl (Val.move rfl) ?_)
         refine TL.cons (TO.val (Wt.yes rfl rfl rfl rfl) rfl rfl (Val.fieldAddrB Tryd.underlying40 rfl fsz38 rfl rfl rfl) ?_)
         refine TL.cons (TO.val (Wt.yes rfl rfl rfl rfl) rfl rfl (Val.loadB 0 agg38 rfl rfl rfl) ?_)
         refine TL.cons (TO.val (Wt.yes rfl rfl rfl rfl) rfl rfl (Val.len Tryd.underlying38 rfl) ?_)
         refine TL.cons (TO.val (Wt.yes rfl rfl rfl rfl) rfl rfl (Val.cmp rfl rfl run_gtr) ?_)
         refine TL.cons (TO.val rfl rfl rfl (Val.pickN rfl rfl rfl) ?_)
         refine TL.nil ?_
         exact fun a W hF hO => ⟨decide (8 < (a0.f5.length : Int)), h, hF.sub ⟨rfl, rfl, rfl, trivial⟩, hO.selT (Ls := [Blk b5 [.int .i64 a0.f0, .int .i64 a0.f1, .int .i64 a0.f2, .int .i64 a0.f3, .int .i64 a0.f4, .slice A1 a0.f5.length c2] 40]) [0] 1 rfl rfl rfl⟩
      ·
       have hk417 : (!y6.2.2.2.1) = false := (by simpa using hg406)
       refine TL.cons (TL.not (Wt.no rfl rfl rfl hk417) rfl ?_)
       refine TL.cons (TL.not (Wt.no rfl rfl rfl hk417) rfl ?_)
       refine TL.cons (TL.not (Wt.no rfl rfl rfl hk417) rfl ?_)
       refine TL.cons (TO.val (Wt.yes rfl rfl rfl hk405) rfl rfl (Val.pickN rfl hk417 rfl) ?_)
       refine TL.cons (TO.val rfl rfl rfl (Val.pickN rfl hk405 rfl) ?_)
       refine TL.cons (TO.val rfl rfl rfl (Val.move rfl) ?_)
       refine TL.cons (TO.val (Wt.yes rfl rfl rfl rfl) rfl rfl (Val.fieldAddrB Tryd.underlying40 rfl fsz3 rfl rfl rfl) ?_)
       refine TL.cons (TO.val (Wt.yes rfl rfl rfl rfl) rfl rfl (Val.loadB 0 agg3 rfl rfl rfl) ?_)
       refine TL.cons (TO.val (Wt.yes rfl rfl rfl rfl) rfl rfl (Val.cmp rfl rfl run_neq) ?_)
       refine TL.cons (TO.val (Wt.yes rfl rfl rfl rfl) rfl rfl (Val.move rfl) ?_)
       refine TK.split (p := (!decide (a0.f0 = 7)) = true) h (fun hg418 h => ?_) (fun hg418 h => ?_)
       ·
        have hk419 : (!decide (a0.f0 = 7)) = true := hg418
        refine TL.cons (TO.val (Wt.yes rfl rfl rfl hk419) rfl rfl (Val.fieldAddrB Tryd.underlying40 rfl fsz38 rfl rfl rfl) ?_)
        refine TL.cons (TO.val (Wt.yes rfl rfl rfl hk419) rfl rfl (Val.loadB 0 agg38 rfl rfl rfl) ?_)
        refine TL.cons (TO.val (Wt.yes rfl rfl rfl hk419) rfl rfl (Val.len Tryd.underlying38 rfl) ?_)
        refine TL.cons (TO.val (Wt.yes rfl rfl rfl hk419) rfl rfl (Val.cmp rfl rfl run_gtr) ?_)
        refine TL.cons (TO.val (Wt.yes rfl rfl rfl rfl) rfl rfl (Val.pickY rfl hk419 rfl) ?_)
        refine TL.cons (TO.val rfl rfl rfl (Val.pickN rfl rfl rfl) ?_)
        refine TL.cons (TO.val rfl rfl rfl (Val.move rfl) ?_)
        refine TK.split (p := 0 < (a0.f5.length : Int)) h (fun hg420 h => ?_) (fun hg420 h => ?_)
        ·
         have hk421 : decide (0 < (a0.f5.length : Int)) = true := decide_eq_true hg420
         refine TL.cons (TL.not (Wt.no rfl rfl rfl hk421) rfl ?_)
         refine TL.cons (TL.not (Wt.no rfl rfl rfl hk421) rfl ?_)
         refine TL.cons (TL.not (Wt.no rfl rfl rfl hk421) rfl ?_)
         refine TL.cons (TL.not (Wt.no rfl rfl rfl hk421) rfl ?_)
         refine TL.cons (TO.val rfl rfl rfl (Val.pickY rfl hk421 rfl) ?_)
         refine TL.nil ?_
         exact fun a W hF hO => ⟨true, h, hF.sub ⟨rfl, rfl, rfl, trivial⟩, hO.selT (Ls := [Blk b5 [.int .i64 a0.f0, .int .i64 a0.f1, .int .i64 a0.f2, .int .i64 a0.f3, .int .i64 a0.f4, .slice A1 a0.f5.length c2] 40]) [0] 1 rfl rfl rfl⟩
        ·
         have hk422 : decide (0 < (a0.f5.length : Int)) = false := decide_eq_false hg420
         refine TL.cons (TO.val (Wt.yes rfl rfl rfl hk422) rfl rfl (Val.fieldAddrB Tryd.underlying40 rfl fsz38 rfl rfl rfl) ?_)
         refine TL.cons (TO.val (Wt.yes rfl rfl rfl hk422) rfl rfl (Val.loadB 0 agg38 rfl rfl rfl) ?_)
         refine TL.cons (TO.val (Wt.yes rfl rfl rfl hk422) rfl rfl (Val.len Tryd.underlying38 rfl) ?_)
         refine TL.cons (TO.val (Wt.yes rfl rfl rfl hk422) rfl rfl (Val.cmp rfl rfl run_gtr) ?_)
         refine TL.cons (TO.val rfl rfl rfl (Val.pickN rfl hk422 rfl) ?_)
         refine TL.nil ?_
         exact fun a W hF hO => ⟨decide (8 < (a0.f5.length : Int)), h, hF.sub ⟨rfl, rfl, rfl, trivial⟩, hO.selT (Ls := [Blk b5 [.int .i64 a0.f0, .int .i64 a0.f1, .int .i64 a0.f2, .int .i64 a0.f3, .int .i64 a0.f4, .slice A1 a0.f5.length c2] 40]) [0] 1 rfl rfl rfl⟩
       ·
        have hk423 : (!decide (a0.f0 = 7)) = false := (by simpa using hg418)
        refine TL.cons (TL.not (Wt.no rfl rfl rfl hk423) rfl ?_)
        refine TL.cons (TL.not (Wt.no rfl rfl rfl hk423) rfl ?_)
        refine TL.cons (TL.not (Wt.no rfl rfl rfl hk423) rfl ?_)
        refine TL.cons (TL.not (Wt.no rfl rfl rfl hk423) rfl ?_)
        refine TL.cons (TO.val (Wt.yes rfl rfl rfl rfl) rfl rfl (Val.pickN rfl hk423 rfl) ?_)
        refine TL.cons (TO.val rfl rfl rfl (Val.pickN rfl rfl rfl) ?_)
        refine TL.cons (TO.val rfl rfl rfl (Val.move rfl) ?_)
        refine TL.cons (TO.val (Wt.yes rfl rfl rfl rfl) rfl rfl (Val.fieldAddrB Tryd.underlying40 rfl fsz38 rfl rfl rfl) ?_)
        refine TL.cons (TO.val (Wt.yes rfl rfl rfl rfl) rfl rfl (Val.loadB 0 agg38 rfl rfl rfl) ?_)
        refine TL.cons (TO.val (Wt.yes rfl rfl rfl rfl) rfl rfl (Val.len Tryd.underlying38 rfl) ?_)
        refine TL.cons (TO.val (Wt.yes rfl rfl rfl rfl) rfl rfl (Val.cmp rfl rfl run_gtr) ?_)
        refine TL.cons (TO.val rfl rfl rfl (Val.pickN rfl rfl rfl) ?_)
        refine TL.nil ?_
        exact fun a W hF hO => ⟨decide (8 < (a0.f5.length : Int)), h, hF.sub ⟨rfl, rfl, rfl, trivial⟩, hO.selT (Ls := [Blk b5 [.int .i64 a0.f0, .int .i64 a0.f1, .int .i64 a0.f2, .int .i64 a0.f3, .int .i64 a0.f4, .slice A1 a0.f5.length c2] 40]) [0] 1 rfl rfl rfl⟩
end Go.Proofs.YtmacdhkfgoahcaaDoor.Sy
