/- Texts of this work, joined: SyF76, SyF43, SyF41, SyF13, SyF14, SyF18, SyF19, SyF82, SyF56, SyF20, SyF21, SyF22, SyF32, SyF65, SyF66, SyF86. -/
import Derived.Test.YtmacdhkfgoahcaaDoorSyNCodeTextsa
set_option linter.unusedVariables false
set_option linter.unusedSimpArgs false
set_option maxRecDepth 100000
set_option maxHeartbeats 4000000
namespace Go.Proofs.YtmacdhkfgoahcaaDoor.Sy
open Go Go.RowKit Go.Proofs.YtmacdhkfgoahcaaDoorW.PrintWords 
def slices_Equal_int_int.l0 (a0 : (List Int)) (a1 : (List Int)) : Nat → Int → Option (Sum Bool (Unit))
 | 0, _ => none
 | n248 + 1, x168 => (if x168 < (a0.length : Int) then (at? a0 x168).bind fun y385 => (at? a1 x168).bind fun y394 => (if (!decide (y385 = y394)) = true then some (.inl false) else slices_Equal_int_int.l0 a0 a1 n248 (IntKind.i64.wrap (x168 + 1))) else some (.inr ()))
def slices_Equal_int_int.f (a0 : (List Int)) (a1 : (List Int)) : Option Bool := (if (!decide ((a0.length : Int) = (a1.length : Int))) = true then some false else (slices_Equal_int_int.l0 a0 a1 (a0.length + 1) 0).bind fun | .inl q_ => some q_ | .inr _ => (some true))
def slices_Equal_int_int.post (G : Gd) (r : Bool) (v : Value) (G' : Gd) (Lr : List Ch) : Prop := G = G' ∧ v = .bool r ∧ Lr = []
theorem slices_Equal_int_int.calls {G : Gd} {r : Bool} {a0 : (List Int)} {a1 : (List Int)} {A1 : Option Addr} {c2 : Nat} {A5 : Option Addr} {c6 : Nat} (hr3 : Rd G (Kd.int .i64) A1 a0) (hl4 : a0.length ≤ c2) (hr7 : Rd G (Kd.int .i64) A5 a1) (hl8 : a1.length ≤ c6) (h : slices_Equal_int_int.f a0 a1 = some r) : Fn Tryd.prog 76 G [] [.slice A1 a0.length c2, .slice A5 a1.length c6] (slices_Equal_int_int.post G r) := by
 refine Fn.intro (e := [(0, .slice A1 a0.length c2), (1, .slice A5 a1.length c6)]) 26 Tryd.func76 rfl Tryd.ntmps76 rfl rfl (Nat.le_of_ble_eq_true rfl) (fun L => ?_)
 unfold slices_Equal_int_int.f at h
 refine TC.seq ?_
 refine TC.region ?_
 refine TL.cons (TO.val rfl rfl rfl (Val.assign rfl) ?_)
 refine TL.nil ?_
 refine TQ.then_ ?_
 refine TC.seq ?_
 refine TC.seq ?_
 refine TC.region ?_
 refine TL.cons (TO.val rfl rfl rfl (Val.move rfl) ?_)
 refine TL.cons (TO.val rfl rfl rfl (Val.len Tryd.underlying38 rfl) ?_)
 refine TL.cons (TO.val rfl rfl rfl (Val.move rfl) ?_)
 refine TL.cons (TO.val rfl rfl rfl (Val.len Tryd.underlying38 rfl) ?_)
 refine TL.cons (TO.val rfl rfl rfl (Val.cmp rfl rfl run_neq) ?_)
 refine TL.nil ?_
 refine TQ.then_ ?_
 refine TC.cond_b rfl h (fun hc10 h => ?_) (fun hc10 h => ?_)
 ·
  refine TC.seq ?_
  refine TC.region ?_
  refine TL.cons (TO.val rfl rfl rfl (Val.assign rfl) ?_)
  refine TL.nil ?_
  refine TQ.then_ ?_
  refine TC.ret ?_
  refine TQ.thenR ?_
  obtain rfl := Option.some.inj h
  exact TQ.fin (.inl rfl) rfl Tryd.results76 (.tmp rfl .nil) rfl (FRel.mk (Ls := []) [] 0 (Gd.le.refl _) rfl rfl rfl ⟨rfl, rfl, rfl⟩)
 ·
  refine TC.skip ?_
  refine TQ.then_ ?_
  refine TC.seq ?_
  refine TC.seq ?_
  refine TC.region ?_
  refine TL.cons (TO.val rfl rfl rfl (Val.move rfl) ?_)
  refine TL.cons (TO.val rfl rfl rfl (Val.len Tryd.underlying38 rfl) ?_)
  refine TL.cons (TO.val rfl rfl rfl (Val.move rfl) ?_)
  refine TL.nil ?_
  refine TQ.then_ ?_
  obtain ⟨o247, ho247, ko247⟩ := bind_no h
  clear h
  refine TC.tail (fun a W => (.inr ()) = o247 ∧ Fr 26 a [] ∧ Own G (L) W) ?_ ?_
  ·
   rintro a W ⟨rfl, hF, hO⟩
   have h := ko247
   clear ko247 ho247
   refine TQ.use ?_ hF hO
   clear hF hO
   refine TQ.then_ ?_
   refine TC.seq ?_
   refine TC.region ?_
   refine TL.cons (TO.val rfl rfl rfl (Val.assign rfl) ?_)
   refine TL.nil ?_
   refine TQ.then_ ?_
   refine TC.ret ?_
   obtain rfl := Option.some.inj h
   exact TQ.fin (.inl rfl) rfl Tryd.results76 (.tmp rfl .nil) rfl (FRel.mk (Ls := []) [] 0 (Gd.le.refl _) rfl rfl rfl ⟨rfl, rfl, rfl⟩)
  ·
   refine TC.block ?_
   intro a W hF hO
   have hS : ∃ (x168 : Int), slices_Equal_int_int.l0 a0 a1 (a0.length + 1) x168 = some o247 ∧ Fr 26 a [(0, .slice A1 a0.length c2), (1, .slice A5 a1.length c6), (12, .int .i64 (a0.length : Int)), (13, .int .i64 x168)] ∧ Own G (L) W := by
    exact ⟨0, ho247, hF.sub ⟨rfl, rfl, rfl, rfl, trivial⟩, hO.selT (Ls := []) [] 0 rfl rfl rfl⟩
   clear hF hO ho247
   refine TC.loop (fun n248 a W => ∃ (x168 : Int), slices_Equal_int_int.l0 a0 a1 n248 x168 = some o247 ∧ Fr 26 a [(0, .slice A1 a0.length c2), (1, .slice A5 a1.length c6), (12, .int .i64 (a0.length : Int)), (13, .int .i64 x168)] ∧ Own G (L) W) ?_ ?_ hS
   ·
    rintro a W ⟨x168, h, hF, hO⟩
    exact none_no h
   ·
    clear hS
    rintro n248 a W ⟨x168, h, hF, hO⟩
    rw [slices_Equal_int_int.l0] at h
    refine TC.use ?_ hF hO
    clear hF hO
    refine TC.seq ?_
    refine TC.region ?_
    refine TL.cons (TO.val rfl rfl rfl (Val.cmp rfl rfl run_lss) ?_)
    refine TL.nil ?_
    refine TQ.then_ ?_
    refine TC.seq ?_
    refine TC.cond_p rfl h (fun hc328 h => ?_) (fun hc328 h => ?_)
    ·
     refine TC.skip ?_
     refine TQ.then_ ?_
     refine TC.seq ?_
     refine TC.block ?_
     refine TC.seq ?_
     refine TC.region ?_
     refine TL.cons (TO.val rfl rfl rfl (Val.move rfl) ?_)
     refine TL.cons (TO.val rfl rfl rfl (Val.assign rfl) ?_)
     refine TL.nil ?_
     refine TQ.then_ ?_
     refine TC.seq ?_
     refine TC.regionAny [] [0, 1, 2, 3, 4, 5, 6, 7, 8] mixed (by kernel_rfl) ?_
     refine TA.take 0 rfl (by kernel_rfl) rfl (PQ.then_ (PQ.inB (PQ.then_ (PQ.then_ (PQ.inB (PQ.then_ (PQ.then_ PQ.body))))))) rfl (Val.move rfl) (fun W hO => hO) ?_
     refine TA.take 1 rfl (by kernel_rfl) rfl (PQ.then_ (PQ.inB (PQ.then_ (PQ.then_ (PQ.inB (PQ.then_ (PQ.then_ PQ.body))))))) rfl (Val.move rfl) (fun W hO => hO) ?_
     obtain ⟨y385, hx386, h⟩ := bind_no h
     obtain ⟨ad387, cs393, hA388, hi389, hj390, hcl391, hK392⟩ := Rd.at hr3 hx386
     obtain rfl := RdK.int hK392
     refine TA.take 2 rfl (by kernel_rfl) rfl (PQ.then_ (PQ.inB (PQ.then_ (PQ.then_ (PQ.inB (PQ.then_ (PQ.then_ PQ.body))))))) rfl (Val.indexAddr Tryd.underlying38 fsz3 rfl hA388 rfl hi389 hj390) (fun W hO => hO) ?_
     refine TA.take 3 rfl (by kernel_rfl) rfl (PQ.then_ (PQ.inB (PQ.then_ (PQ.then_ (PQ.inB (PQ.then_ (PQ.then_ PQ.body))))))) rfl (Val.loadS agg3 rfl (hcl391 0 _ rfl)) (fun W hO => hO) ?_
     refine TA.take 4 rfl (by kernel_rfl) rfl (PQ.then_ (PQ.inB (PQ.then_ (PQ.then_ (PQ.inB (PQ.then_ (PQ.then_ PQ.body))))))) rfl (Val.move rfl) (fun W hO => hO) ?_
     refine TA.take 5 rfl (by kernel_rfl) rfl (PQ.then_ (PQ.inB (PQ.then_ (PQ.then_ (PQ.inB (PQ.then_ (PQ.then_ PQ.body))))))) rfl (Val.move rfl) (fun W hO => hO) ?_
     obtain ⟨y394, hx395, h⟩ := bind_no h
     obtain ⟨ad396, cs402, hA397, hi398, hj399, hcl400, hK401⟩ := Rd.at hr7 hx395
     obtain rfl := RdK.int hK401
     refine TA.take 6 rfl (by kernel_rfl) rfl (PQ.then_ (PQ.inB (PQ.then_ (PQ.then_ (PQ.inB (PQ.then_ (PQ.then_ PQ.body))))))) rfl (Val.indexAddr Tryd.underlying38 fsz3 rfl hA397 rfl hi398 hj399) (fun W hO => hO) ?_
     refine TA.take 7 rfl (by kernel_rfl) rfl (PQ.then_ (PQ.inB (PQ.then_ (PQ.then_ (PQ.inB (PQ.then_ (PQ.then_ PQ.body))))))) rfl (Val.loadS agg3 rfl (hcl400 0 _ rfl)) (fun W hO => hO) ?_
     refine TA.take 8 rfl (by kernel_rfl) rfl (PQ.then_ (PQ.inB (PQ.then_ (PQ.then_ (PQ.inB (PQ.then_ (PQ.then_ PQ.body))))))) rfl (Val.cmp rfl rfl run_neq) (fun W hO => hO) ?_
     refine TA.done (by kernel_rfl) ?_
     refine TQ.then_ ?_
     refine TC.cond_b rfl h (fun hc404 h => ?_) (fun hc404 h => ?_)
     ·
      refine TC.seq ?_
      refine TC.region ?_
      refine TL.cons (TO.val rfl rfl rfl (Val.assign rfl) ?_)
      refine TL.nil ?_
      refine TQ.then_ ?_
      refine TC.ret ?_
      refine TQ.inBR ?_
      refine TQ.thenR ?_
      refine TQ.thenR ?_
      refine TQ.inBR ?_
      refine TQ.thenR ?_
      refine TQ.thenR ?_
      obtain rfl := Option.some.inj h
      have h := ko247
      obtain rfl := Option.some.inj h
      exact TQ.fin (.inl rfl) rfl Tryd.results76 (.tmp rfl .nil) rfl (FRel.mk (Ls := []) [] 0 (Gd.le.refl _) rfl rfl rfl ⟨rfl, rfl, rfl⟩)
     ·
      refine TC.skip ?_
      refine TQ.inB ?_
      refine TQ.then_ ?_
      refine TC.region ?_
      refine TL.cons (TO.val rfl rfl rfl (Val.cmp rfl rfl run_add) ?_)
      refine TL.cons (TO.val rfl rfl rfl (Val.move rfl) ?_)
      refine TL.nil ?_
      exact fun a W hF hO => ⟨IntKind.i64.wrap (x168 + 1), h, hF.sub ⟨rfl, rfl, rfl, rfl, trivial⟩, hO.selT (Ls := []) [] 0 rfl rfl rfl⟩
    ·
     refine TC.exit ?_
     refine TQ.thenX ?_
     refine TQ.thenX ?_
     refine TQ.inBX ?_
     exact fun a W hF hO => ⟨Option.some.inj h, hF.sub trivial, hO.selT (Ls := []) [] 0 rfl rfl rfl⟩
end Go.Proofs.YtmacdhkfgoahcaaDoor.Sy
set_option linter.unusedVariables false
set_option linter.unusedSimpArgs false
set_option maxRecDepth 100000
set_option maxHeartbeats 4000000
namespace Go.Proofs.YtmacdhkfgoahcaaDoor.Sy
open Go Go.RowKit Go.Proofs.YtmacdhkfgoahcaaDoorW.PrintWords 
def code_sameOp.f (a0 : S40) (a1 : S40) : Option Bool := jn (γ := Bool) ((if ([a0.f0, a0.f1, a0.f2, a0.f3, a0.f4] == [a1.f0, a1.f1, a1.f2, a1.f3, a1.f4]) = true then (slices_Equal_int_int.f a0.f5 a1.f5).bind fun (y27 : Bool) => some y27 else some false)) (fun (j19 : (Option Bool)) => j19)
def code_sameOp.post (G : Gd) (r : Bool) (v : Value) (G' : Gd) (Lr : List Ch) : Prop := G = G' ∧ v = .bool r ∧ Lr = []
theorem code_sameOp.calls {G : Gd} {r : Bool} {a0 : S40} {a1 : S40} {A1 : Option Addr} {c2 : Nat} {A5 : Option Addr} {c6 : Nat} (hr3 : Rd G (Kd.int .i64) A1 a0.f5) (hl4 : a0.f5.length ≤ c2) (hr7 : Rd G (Kd.int .i64) A5 a1.f5) (hl8 : a1.f5.length ≤ c6) (h : code_sameOp.f a0 a1 = some r) : Fn Tryd.prog 43 G [] [.agg #[.int .i64 a0.f0, .int .i64 a0.f1, .int .i64 a0.f2, .int .i64 a0.f3, .int .i64 a0.f4, .slice A1 a0.f5.length c2], .agg #[.int .i64 a1.f0, .int .i64 a1.f1, .int .i64 a1.f2, .int .i64 a1.f3, .int .i64 a1.f4, .slice A5 a1.f5.length c6]] (code_sameOp.post G r) := by
 refine Fn.intro (e := [(0, .agg #[.int .i64 a0.f0, .int .i64 a0.f1, .int .i64 a0.f2, .int .i64 a0.f3, .int .i64 a0.f4, .slice A1 a0.f5.length c2]), (1, .agg #[.int .i64 a1.f0, .int .i64 a1.f1, .int .i64 a1.f2, .int .i64 a1.f3, .int .i64 a1.f4, .slice A5 a1.f5.length c6])]) 39 Tryd.func43 rfl Tryd.ntmps43 rfl rfl (Nat.le_of_ble_eq_true rfl) (fun L => ?_)
 unfold code_sameOp.f at h
 refine TC.seq ?_
 refine TC.region ?_
 refine TL.cons (TL.box (cs := [.int .i64 a0.f0, .int .i64 a0.f1, .int .i64 a0.f2, .int .i64 a0.f3, .int .i64 a0.f4, .slice A1 a0.f5.length c2]) rfl rfl rfl rfl (fun b9 => ?_))
 refine TL.cons (TL.box (cs := [.int .i64 a1.f0, .int .i64 a1.f1, .int .i64 a1.f2, .int .i64 a1.f3, .int .i64 a1.f4, .slice A5 a1.f5.length c6]) rfl rfl rfl rfl (fun b10 => ?_))
 refine TL.cons (TO.val rfl rfl rfl (Val.assign rfl) ?_)
 refine TL.nil ?_
 refine TQ.then_ ?_
 refine TC.seq ?_
 obtain ⟨j19, hj19, h⟩ := jn_no h
 refine TC.tail (fun a W => ∃ (b17 : Nat) (b18 : Nat), j19 = some r ∧ Fr 39 a [(2, .pointer (some ⟨b9, 0, none⟩)), (3, .pointer (some ⟨b10, 0, none⟩)), (5, .pointer (some ⟨b17, 0, none⟩)), (6, .pointer (some ⟨b18, 0, none⟩))] ∧ Own G (Blk b10 [.int .i64 a1.f0, .int .i64 a1.f1, .int .i64 a1.f2, .int .i64 a1.f3, .int .i64 a1.f4, .slice A5 a1.f5.length c6] 40 :: Blk b17 [.int .i64 a0.f0, .int .i64 a0.f1, .int .i64 a0.f2, .int .i64 a0.f3, .int .i64 a0.f4] 97 :: Blk b18 [.int .i64 a1.f0, .int .i64 a1.f1, .int .i64 a1.f2, .int .i64 a1.f3, .int .i64 a1.f4] 97 :: Blk b9 [.int .i64 a0.f0, .int .i64 a0.f1, .int .i64 a0.f2, .int .i64 a0.f3, .int .i64 a0.f4, .slice A1 a0.f5.length c2] 40 :: L) W) ?_ ?_
 ·
  rintro a W ⟨b17, b18, h, hF, hO⟩
  rw [hj19] at h
  refine TQ.use ?_ hF hO
  clear hF hO
  refine TQ.then_ ?_
  refine TC.seq ?_
  refine TC.region ?_
  refine TL.cons (TO.val rfl rfl rfl (Val.loadsB 1 (cs := [.int .i64 a0.f0, .int .i64 a0.f1, .int .i64 a0.f2, .int .i64 a0.f3, .int .i64 a0.f4]) agg97 fsz97 rfl rfl rfl rfl) ?_)
  refine TL.cons (TO.val rfl rfl rfl (Val.loadsB 2 (cs := [.int .i64 a1.f0, .int .i64 a1.f1, .int .i64 a1.f2, .int .i64 a1.f3, .int .i64 a1.f4]) agg97 fsz97 rfl rfl rfl rfl) ?_)
  refine TL.cons (TO.val rfl rfl rfl (Val.eqA eqg97 rfl rfl (fun W => eqArr (d := 9998) Tryd.underlying97 agg3 Tryd.underlying3 fsz3 [a0.f0, a0.f1, a0.f2, a0.f3, a0.f4] [a1.f0, a1.f1, a1.f2, a1.f3, a1.f4] rfl rfl)) ?_)
  refine TL.cons (TO.val rfl rfl rfl (Val.move rfl) ?_)
  refine TK.split (p := ([a0.f0, a0.f1, a0.f2, a0.f3, a0.f4] == [a1.f0, a1.f1, a1.f2, a1.f3, a1.f4]) = true) h (fun hg25 h => ?_) (fun hg25 h => ?_)
  ·
   have hk26 : ([a0.f0, a0.f1, a0.f2, a0.f3, a0.f4] == [a1.f0, a1.f1, a1.f2, a1.f3, a1.f4]) = true := hg25
   refine TL.cons (TO.val (Wt.yes rfl rfl rfl hk26) rfl rfl (Val.fieldAddrB Tryd.underlying40 rfl fsz38 rfl rfl rfl) ?_)
   refine TL.cons (TO.val (Wt.yes rfl rfl rfl hk26) rfl rfl (Val.loadB 3 agg38 rfl rfl rfl) ?_)
   refine TL.cons (TO.val (Wt.yes rfl rfl rfl hk26) rfl rfl (Val.fieldAddrB Tryd.underlying40 rfl fsz38 rfl rfl rfl) ?_)
   refine TL.cons (TO.val (Wt.yes rfl rfl rfl hk26) rfl rfl (Val.loadB 0 agg38 rfl rfl rfl) ?_)
   obtain ⟨y27, hy28, h⟩ := bind_no h
   refine TL.cons (TL.callV (Lin := []) (args := [.slice A1 a0.f5.length c2, .slice A5 a1.f5.length c6]) (Wt.yes rfl rfl rfl hk26) rfl rfl hbd76 rfl rfl (slices_Equal_int_int.calls (a0 := a0.f5) (a1 := a1.f5) hr3 hl4 hr7 hl8 hy28) rfl ?_)
   rintro _ _ _ _ ⟨rfl, rfl, rfl⟩
   refine TL.cons (TO.val rfl rfl rfl (Val.pickY rfl hk26 rfl) ?_)
   refine TL.cons (TO.val rfl rfl rfl (Val.assign rfl) ?_)
   refine TL.nil ?_
   refine TQ.then_ ?_
   refine TC.ret ?_
   obtain rfl := Option.some.inj h
   exact TQ.fin (.inl rfl) rfl Tryd.results43 (.tmp rfl .nil) rfl (FRel.mk (Ls := []) [] 4 (Gd.le.refl _) rfl rfl rfl ⟨rfl, rfl, rfl⟩)
  ·
   have hk29 : ([a0.f0, a0.f1, a0.f2, a0.f3, a0.f4] == [a1.f0, a1.f1, a1.f2, a1.f3, a1.f4]) = false := (by simpa using hg25)
   refine TL.cons (TL.not (Wt.no rfl rfl rfl hk29) rfl ?_)
   refine TL.cons (TL.not (Wt.no rfl rfl rfl hk29) rfl ?_)
   refine TL.cons (TL.not (Wt.no rfl rfl rfl hk29) rfl ?_)
   refine TL.cons (TL.not (Wt.no rfl rfl rfl hk29) rfl ?_)
   refine TL.cons (TL.not (Wt.no rfl rfl rfl hk29) rfl ?_)
   refine TL.cons (TO.val rfl rfl rfl (Val.pickN rfl hk29 rfl) ?_)
   refine TL.cons (TO.val rfl rfl rfl (Val.assign rfl) ?_)
   refine TL.nil ?_
   refine TQ.then_ ?_
   refine TC.ret ?_
   obtain rfl := Option.some.inj h
   exact TQ.fin (.inl rfl) rfl Tryd.results43 (.tmp rfl .nil) rfl (FRel.mk (Ls := []) [] 4 (Gd.le.refl _) rfl rfl rfl ⟨rfl, rfl, rfl⟩)
 ·
  refine TC.regionAny [] [0, 1, 2, 3, 4, 5, 6, 7, 8, 9, 10, 11, 12, 13, 14, 15, 16, 17, 18, 19, 20, 21] mixed (by kernel_rfl) ?_
  refine TA.take 0 rfl (by kernel_rfl) rfl (PQ.then_ (PQ.then_ PQ.body)) rfl (Val.fieldAddrB Tryd.underlying40 rfl fsz3 rfl rfl rfl) (fun W hO => hO) ?_
  refine TA.take 1 rfl (by kernel_rfl) rfl (PQ.then_ (PQ.then_ PQ.body)) rfl (Val.loadB 1 agg3 rfl rfl rfl) (fun W hO => hO) ?_
  refine TA.take 2 rfl (by kernel_rfl) rfl (PQ.then_ (PQ.then_ PQ.body)) rfl (Val.fieldAddrB Tryd.underlying40 rfl fsz3 rfl rfl rfl) (fun W hO => hO) ?_
  refine TA.take 3 rfl (by kernel_rfl) rfl (PQ.then_ (PQ.then_ PQ.body)) rfl (Val.loadB 1 agg3 rfl rfl rfl) (fun W hO => hO) ?_
  refine TA.take 4 rfl (by kernel_rfl) rfl (PQ.then_ (PQ.then_ PQ.body)) rfl (Val.fieldAddrB Tryd.underlying40 rfl fsz3 rfl rfl rfl) (fun W hO => hO) ?_
  refine TA.take 5 rfl (by kernel_rfl) rfl (PQ.then_ (PQ.then_ PQ.body)) rfl (Val.loadB 1 agg3 rfl rfl rfl) (fun W hO => hO) ?_
  refine TA.take 6 rfl (by kernel_rfl) rfl (PQ.then_ (PQ.then_ PQ.body)) rfl (Val.fieldAddrB Tryd.underlying40 rfl fsz3 rfl rfl rfl) (fun W hO => hO) ?_
  refine TA.take 7 rfl (by kernel_rfl) rfl (PQ.then_ (PQ.then_ PQ.body)) rfl (Val.loadB 1 agg3 rfl rfl rfl) (fun W hO => hO) ?_
  refine TA.take 8 rfl (by kernel_rfl) rfl (PQ.then_ (PQ.then_ PQ.body)) rfl (Val.fieldAddrB Tryd.underlying40 rfl fsz3 rfl rfl rfl) (fun W hO => hO) ?_
  refine TA.take 9 rfl (by kernel_rfl) rfl (PQ.then_ (PQ.then_ PQ.body)) rfl (Val.loadB 1 agg3 rfl rfl rfl) (fun W hO => hO) ?_
  refine TA.take 10 rfl (by kernel_rfl) rfl (PQ.then_ (PQ.then_ PQ.body)) rfl (Val.buildA (cs := [.int .i64 a0.f0, .int .i64 a0.f1, .int .i64 a0.f2, .int .i64 a0.f3, .int .i64 a0.f4]) (is := [0, 1, 2, 3, 4]) (xs := [.tmp 8, .tmp 10, .tmp 12, .tmp 14, .tmp 16]) Tryd.underlying97 zr97 fsz3 rfl rfl rfl rfl) (fun W hO => hO) ?_
  refine TA.take 11 rfl (by kernel_rfl) rfl (PQ.then_ (PQ.then_ PQ.body)) rfl (Val.fieldAddrB Tryd.underlying40 rfl fsz3 rfl rfl rfl) (fun W hO => hO) ?_
  refine TA.take 12 rfl (by kernel_rfl) rfl (PQ.then_ (PQ.then_ PQ.body)) rfl (Val.loadB 0 agg3 rfl rfl rfl) (fun W hO => hO) ?_
  refine TA.take 13 rfl (by kernel_rfl) rfl (PQ.then_ (PQ.then_ PQ.body)) rfl (Val.fieldAddrB Tryd.underlying40 rfl fsz3 rfl rfl rfl) (fun W hO => hO) ?_
  refine TA.take 14 rfl (by kernel_rfl) rfl (PQ.then_ (PQ.then_ PQ.body)) rfl (Val.loadB 0 agg3 rfl rfl rfl) (fun W hO => hO) ?_
  refine TA.take 15 rfl (by kernel_rfl) rfl (PQ.then_ (PQ.then_ PQ.body)) rfl (Val.fieldAddrB Tryd.underlying40 rfl fsz3 rfl rfl rfl) (fun W hO => hO) ?_
  refine TA.take 16 rfl (by kernel_rfl) rfl (PQ.then_ (PQ.then_ PQ.body)) rfl (Val.loadB 0 agg3 rfl rfl rfl) (fun W hO => hO) ?_
  refine TA.take 17 rfl (by kernel_rfl) rfl (PQ.then_ (PQ.then_ PQ.body)) rfl (Val.fieldAddrB Tryd.underlying40 rfl fsz3 rfl rfl rfl) (fun W hO => hO) ?_
  refine TA.take 18 rfl (by kernel_rfl) rfl (PQ.then_ (PQ.then_ PQ.body)) rfl (Val.loadB 0 agg3 rfl rfl rfl) (fun W hO => hO) ?_
  refine TA.take 19 rfl (by kernel_rfl) rfl (PQ.then_ (PQ.then_ PQ.body)) rfl (Val.fieldAddrB Tryd.underlying40 rfl fsz3 rfl rfl rfl) (fun W hO => hO) ?_
  refine TA.take 20 rfl (by kernel_rfl) rfl (PQ.then_ (PQ.then_ PQ.body)) rfl (Val.loadB 0 agg3 rfl rfl rfl) (fun W hO => hO) ?_
  refine TA.take 21 rfl (by kernel_rfl) rfl (PQ.then_ (PQ.then_ PQ.body)) rfl (Val.buildA (cs := [.int .i64 a1.f0, .int .i64 a1.f1, .int .i64 a1.f2, .int .i64 a1.f3, .int .i64 a1.f4]) (is := [0, 1, 2, 3, 4]) (xs := [.tmp 19, .tmp 21, .tmp 23, .tmp 25, .tmp 27]) Tryd.underlying97 zr97 fsz3 rfl rfl rfl rfl) (fun W hO => hO) ?_
  refine TA.effs 22 [23] (by kernel_rfl) ⟨⟨_, rfl, ?_⟩, ⟨_, rfl, ?_⟩, trivial⟩
  ·
   refine TL.alloc (cs := [.int .i64 0, .int .i64 0, .int .i64 0, .int .i64 0, .int .i64 0]) rfl rfl zr97 rfl (fun b32 => ?_)
   refine TA.next (fun W hO => hO.selT (Ls := [Blk b10 [.int .i64 a1.f0, .int .i64 a1.f1, .int .i64 a1.f2, .int .i64 a1.f3, .int .i64 a1.f4, .slice A5 a1.f5.length c6] 40, Blk b9 [.int .i64 a0.f0, .int .i64 a0.f1, .int .i64 a0.f2, .int .i64 a0.f3, .int .i64 a0.f4, .slice A1 a0.f5.length c2] 40]) [1, 2] 3 rfl rfl rfl) ?_
   refine TA.eff 23 rfl (by kernel_rfl) rfl (TL.alloc (cs := [.int .i64 0, .int .i64 0, .int .i64 0, .int .i64 0, .int .i64 0]) rfl rfl zr97 rfl (fun b33 => ?_))
   refine TA.next (fun W hO => hO.selT (Ls := [Blk b10 [.int .i64 a1.f0, .int .i64 a1.f1, .int .i64 a1.f2, .int .i64 a1.f3, .int .i64 a1.f4, .slice A5 a1.f5.length c6] 40, Blk b9 [.int .i64 a0.f0, .int .i64 a0.f1, .int .i64 a0.f2, .int .i64 a0.f3, .int .i64 a0.f4, .slice A1 a0.f5.length c2] 40]) [2, 3] 4 rfl rfl rfl) ?_
   refine TA.eff 24 rfl (by kernel_rfl) rfl (TL.store 1 (ds := [.int .i64 a0.f0, .int .i64 a0.f1, .int .i64 a0.f2, .int .i64 a0.f3, .int .i64 a0.f4]) (cs' := [.int .i64 a0.f0, .int .i64 a0.f1, .int .i64 a0.f2, .int .i64 a0.f3, .int .i64 a0.f4]) (L' := (Blk b33 [.int .i64 0, .int .i64 0, .int .i64 0, .int .i64 0, .int .i64 0] 97 :: Blk b32 [.int .i64 a0.f0, .int .i64 a0.f1, .int .i64 a0.f2, .int .i64 a0.f3, .int .i64 a0.f4] 97 :: Blk b10 [.int .i64 a1.f0, .int .i64 a1.f1, .int .i64 a1.f2, .int .i64 a1.f3, .int .i64 a1.f4, .slice A5 a1.f5.length c6] 40 :: Blk b9 [.int .i64 a0.f0, .int .i64 a0.f1, .int .i64 a0.f2, .int .i64 a0.f3, .int .i64 a0.f4, .slice A1 a0.f5.length c2] 40 :: L)) rfl fsz97 rfl rfl rfl rfl rfl (Nat.le_of_ble_eq_true rfl) rfl rfl ?_)
   refine TA.next (fun W hO => hO.selT (Ls := [Blk b10 [.int .i64 a1.f0, .int .i64 a1.f1, .int .i64 a1.f2, .int .i64 a1.f3, .int .i64 a1.f4, .slice A5 a1.f5.length c6] 40, Blk b9 [.int .i64 a0.f0, .int .i64 a0.f1, .int .i64 a0.f2, .int .i64 a0.f3, .int .i64 a0.f4, .slice A1 a0.f5.length c2] 40]) [2, 3] 4 rfl rfl rfl) ?_
   refine TA.eff 25 rfl (by kernel_rfl) rfl (TL.store 0 (ds := [.int .i64 a1.f0, .int .i64 a1.f1, .int .i64 a1.f2, .int .i64 a1.f3, .int .i64 a1.f4]) (cs' := [.int .i64 a1.f0, .int .i64 a1.f1, .int .i64 a1.f2, .int .i64 a1.f3, .int .i64 a1.f4]) (L' := (Blk b33 [.int .i64 a1.f0, .int .i64 a1.f1, .int .i64 a1.f2, .int .i64 a1.f3, .int .i64 a1.f4] 97 :: Blk b32 [.int .i64 a0.f0, .int .i64 a0.f1, .int .i64 a0.f2, .int .i64 a0.f3, .int .i64 a0.f4] 97 :: Blk b10 [.int .i64 a1.f0, .int .i64 a1.f1, .int .i64 a1.f2, .int .i64 a1.f3, .int .i64 a1.f4, .slice A5 a1.f5.length c6] 40 :: Blk b9 [.int .i64 a0.f0, .int .i64 a0.f1, .int .i64 a0.f2, .int .i64 a0.f3, .int .i64 a0.f4, .slice A1 a0.f5.length c2] 40 :: L)) rfl fsz97 rfl rfl rfl rfl rfl (Nat.le_of_ble_eq_true rfl) rfl rfl ?_)
   refine TA.next (fun W hO => hO.selT (Ls := [Blk b10 [.int .i64 a1.f0, .int .i64 a1.f1, .int .i64 a1.f2, .int .i64 a1.f3, .int .i64 a1.f4, .slice A5 a1.f5.length c6] 40, Blk b9 [.int .i64 a0.f0, .int .i64 a0.f1, .int .i64 a0.f2, .int .i64 a0.f3, .int .i64 a0.f4, .slice A1 a0.f5.length c2] 40]) [2, 3] 4 rfl rfl rfl) ?_
   refine TA.done (by kernel_rfl) ?_
   exact fun a W hF hO => ⟨b32, b33, h, hF.sub ⟨rfl, rfl, rfl, rfl, trivial⟩, hO.selT (Ls := [Blk b10 [.int .i64 a1.f0, .int .i64 a1.f1, .int .i64 a1.f2, .int .i64 a1.f3, .int .i64 a1.f4, .slice A5 a1.f5.length c6] 40, Blk b32 [.int .i64 a0.f0, .int .i64 a0.f1, .int .i64 a0.f2, .int .i64 a0.f3, .int .i64 a0.f4] 97, Blk b33 [.int .i64 a1.f0, .int .i64 a1.f1, .int .i64 a1.f2, .int .i64 a1.f3, .int .i64 a1.f4] 97, Blk b9 [.int .i64 a0.f0, .int .i64 a0.f1, .int .i64 a0.f2, .int .i64 a0.f3, .int .i64 a0.f4, .slice A1 a0.f5.length c2] 40]) [2, 1, 0, 3] 4 rfl rfl rfl⟩
  ·
   refine TL.alloc (cs := [.int .i64 0, .int .i64 0, .int .i64 0, .int .i64 0, .int .i64 0]) rfl rfl zr97 rfl (fun b34 => ?_)
   refine TA.next (fun W hO => hO.selT (Ls := [Blk b10 [.int .i64 a1.f0, .int .i64 a1.f1, .int .i64 a1.f2, .int .i64 a1.f3, .int .i64 a1.f4, .slice A5 a1.f5.length c6] 40, Blk b9 [.int .i64 a0.f0, .int .i64 a0.f1, .int .i64 a0.f2, .int .i64 a0.f3, .int .i64 a0.f4, .slice A1 a0.f5.length c2] 40]) [1, 2] 3 rfl rfl rfl) ?_
   refine TA.eff 22 rfl (by kernel_rfl) rfl (TL.alloc (cs := [.int .i64 0, .int .i64 0, .int .i64 0, .int .i64 0, .int .i64 0]) rfl rfl zr97 rfl (fun b35 => ?_))
   refine TA.next (fun W hO => hO.selT (Ls := [Blk b10 [.int .i64 a1.f0, .int .i64 a1.f1, .int .i64 a1.f2, .int .i64 a1.f3, .int .i64 a1.f4, .slice A5 a1.f5.length c6] 40, Blk b9 [.int .i64 a0.f0, .int .i64 a0.f1, .int .i64 a0.f2, .int .i64 a0.f3, .int .i64 a0.f4, .slice A1 a0.f5.length c2] 40]) [2, 3] 4 rfl rfl rfl) ?_
   refine TA.eff 24 rfl (by kernel_rfl) rfl (TL.store 0 (ds := [.int .i64 a0.f0, .int .i64 a0.f1, .int .i64 a0.f2, .int .i64 a0.f3, .int .i64 a0.f4]) (cs' := [.int .i64 a0.f0, .int .i64 a0.f1, .int .i64 a0.f2, .int .i64 a0.f3, .int .i64 a0.f4]) (L' := (Blk b35 [.int .i64 a0.f0, .int .i64 a0.f1, .int .i64 a0.f2, .int .i64 a0.f3, .int .i64 a0.f4] 97 :: Blk b34 [.int .i64 0, .int .i64 0, .int .i64 0, .int .i64 0, .int .i64 0] 97 :: Blk b10 [.int .i64 a1.f0, .int .i64 a1.f1, .int .i64 a1.f2, .int .i64 a1.f3, .int .i64 a1.f4, .slice A5 a1.f5.length c6] 40 :: Blk b9 [.int .i64 a0.f0, .int .i64 a0.f1, .int .i64 a0.f2, .int .i64 a0.f3, .int .i64 a0.f4, .slice A1 a0.f5.length c2] 40 :: L)) rfl fsz97 rfl rfl rfl rfl rfl (Nat.le_of_ble_eq_true rfl) rfl rfl ?_)
   refine TA.next (fun W hO => hO.selT (Ls := [Blk b10 [.int .i64 a1.f0, .int .i64 a1.f1, .int .i64 a1.f2, .int .i64 a1.f3, .int .i64 a1.f4, .slice A5 a1.f5.length c6] 40, Blk b9 [.int .i64 a0.f0, .int .i64 a0.f1, .int .i64 a0.f2, .int .i64 a0.f3, .int .i64 a0.f4, .slice A1 a0.f5.length c2] 40]) [2, 3] 4 rfl rfl rfl) ?_
   refine TA.eff 25 rfl (by kernel_rfl) rfl (TL.store 1 (ds := [.int .i64 a1.f0, .int .i64 a1.f1, .int .i64 a1.f2, .int .i64 a1.f3, .int .i64 a1.f4]) (cs' := [.int .i64 a1.f0, .int .i64 a1.f1, .int .i64 a1.f2, .int .i64 a1.f3, .int .i64 a1.f4]) (L' := (Blk b35 [.int .i64 a0.f0, .int .i64 a0.f1, .int .i64 a0.f2, .int .i64 a0.f3, .int .i64 a0.f4] 97 :: Blk b34 [.int .i64 a1.f0, .int .i64 a1.f1, .int .i64 a1.f2, .int .i64 a1.f3, .int .i64 a1.f4] 97 :: Blk b10 [.int .i64 a1.f0, .int .i64 a1.f1, .int .i64 a1.f2, .int .i64 a1.f3, .int .i64 a1.f4, .slice A5 a1.f5.length c6] 40 :: Blk b9 [.int .i64 a0.f0, .int .i64 a0.f1, .int .i64 a0.f2, .int .i64 a0.f3, .int .i64 a0.f4, .slice A1 a0.f5.length c2] 40 :: L)) rfl fsz97 rfl rfl rfl rfl rfl (Nat.le_of_ble_eq_true rfl) rfl rfl ?_)
   refine TA.next (fun W hO => hO.selT (Ls := [Blk b10 [.int .i64 a1.f0, .int .i64 a1.f1, .int .i64 a1.f2, .int .i64 a1.f3, .int .i64 a1.f4, .slice A5 a1.f5.length c6] 40, Blk b9 [.int .i64 a0.f0, .int .i64 a0.f1, .int .i64 a0.f2, .int .i64 a0.f3, .int .i64 a0.f4, .slice A1 a0.f5.length c2] 40]) [2, 3] 4 rfl rfl rfl) ?_
   refine TA.done (by kernel_rfl) ?_
   exact fun a W hF hO => ⟨b35, b34, h, hF.sub ⟨rfl, rfl, rfl, rfl, trivial⟩, hO.selT (Ls := [Blk b10 [.int .i64 a1.f0, .int .i64 a1.f1, .int .i64 a1.f2, .int .i64 a1.f3, .int .i64 a1.f4, .slice A5 a1.f5.length c6] 40, Blk b35 [.int .i64 a0.f0, .int .i64 a0.f1, .int .i64 a0.f2, .int .i64 a0.f3, .int .i64 a0.f4] 97, Blk b34 [.int .i64 a1.f0, .int .i64 a1.f1, .int .i64 a1.f2, .int .i64 a1.f3, .int .i64 a1.f4] 97, Blk b9 [.int .i64 a0.f0, .int .i64 a0.f1, .int .i64 a0.f2, .int .i64 a0.f3, .int .i64 a0.f4, .slice A1 a0.f5.length c2] 40]) [2, 0, 1, 3] 4 rfl rfl rfl⟩
end Go.Proofs.YtmacdhkfgoahcaaDoor.Sy
set_option linter.unusedVariables false
set_option linter.unusedSimpArgs false
set_option maxRecDepth 100000
set_option maxHeartbeats 4000000
namespace Go.Proofs.YtmacdhkfgoahcaaDoor.Sy
open Go Go.RowKit Go.Proofs.YtmacdhkfgoahcaaDoorW.PrintWords 
def code_Same_1.l0 (a0 : S37) (a1 : S37) (j521 : (Bool → Option Bool)) : Nat → Int → Option (Sum Bool (Unit))
 | 0, _ => none
 | n725 + 1, x657 => (if x657 < (a0.f0.length : Int) then (at? a0.f0 x657).bind fun y826 => (at? a1.f0 x657).bind fun y840 => (code_sameOp.f y826 y840).bind fun (y854 : Bool) => (if (!y854) = true then (j521 false).bind fun q_ => some (.inl q_) else code_Same_1.l0 a0 a1 j521 n725 (IntKind.i64.wrap (x657 + 1))) else some (.inr ()))
def code_Same_1.f (a0 : S37) (a1 : S37) : Option Bool := (if ((a0.f1.f0 == a1.f1.f0) && ((a0.f1.f1 == a1.f1.f1) && ((a0.f1.f2 == a1.f1.f2) && (a0.f1.f3 == a1.f1.f3)))) = true then jn (γ := Bool) (fun (x520 : Bool) => some x520) (fun (j521 : (Bool → Option Bool)) => (if (!decide ((a0.f0.length : Int) = (a1.f0.length : Int))) = true then j521 false else (code_Same_1.l0 a0 a1 j521 (a0.f0.length + 1) 0).bind fun | .inl q_ => some q_ | .inr _ => (j521 true))) else some false)
def code_Same_1.post (G : Gd) (r : Bool) (v : Value) (G' : Gd) (Lr : List Ch) : Prop := G = G' ∧ v = .bool r ∧ Lr = []
theorem code_Same_1.calls {G : Gd} {r : Bool} {a0 : S37} {a1 : S37} {A1 : Option Addr} {c2 : Nat} {A5 : Option Addr} {c6 : Nat} (hr3 : Rd G k40 A1 a0.f0) (hl4 : a0.f0.length ≤ c2) (hr7 : Rd G k40 A5 a1.f0) (hl8 : a1.f0.length ≤ c6) (h : code_Same_1.f a0 a1 = some r) : Fn Tryd.prog 41 G [] [.agg #[.slice A1 a0.f0.length c2, .int .i64 a0.f1.f0, .int .i64 a0.f1.f1, .int .i64 a0.f1.f2, .int .i64 a0.f1.f3], .agg #[.slice A5 a1.f0.length c6, .int .i64 a1.f1.f0, .int .i64 a1.f1.f1, .int .i64 a1.f1.f2, .int .i64 a1.f1.f3]] (code_Same_1.post G r) := by
 refine Fn.intro (e := [(0, .agg #[.slice A1 a0.f0.length c2, .int .i64 a0.f1.f0, .int .i64 a0.f1.f1, .int .i64 a0.f1.f2, .int .i64 a0.f1.f3]), (1, .agg #[.slice A5 a1.f0.length c6, .int .i64 a1.f1.f0, .int .i64 a1.f1.f1, .int .i64 a1.f1.f2, .int .i64 a1.f1.f3])]) 17 Tryd.func41 rfl Tryd.ntmps41 rfl rfl (Nat.le_of_ble_eq_true rfl) (fun L => ?_)
 unfold code_Same_1.f at h
 refine TC.seq ?_
 refine TC.region ?_
 refine TL.cons (TL.box (cs := [.slice A1 a0.f0.length c2, .int .i64 a0.f1.f0, .int .i64 a0.f1.f1, .int .i64 a0.f1.f2, .int .i64 a0.f1.f3]) rfl rfl rfl rfl (fun b9 => ?_))
 refine TL.cons (TL.box (cs := [.slice A5 a1.f0.length c6, .int .i64 a1.f1.f0, .int .i64 a1.f1.f1, .int .i64 a1.f1.f2, .int .i64 a1.f1.f3]) rfl rfl rfl rfl (fun b10 => ?_))
 refine TL.cons (TO.val rfl rfl rfl (Val.assign rfl) ?_)
 refine TL.nil ?_
 refine TQ.then_ ?_
 refine TC.seq ?_
 refine TC.region ?_
 refine TL.cons (TO.val rfl rfl rfl (Val.fieldAddrB Tryd.underlying37 rfl fsz35 rfl rfl rfl) ?_)
 refine TL.cons (TO.val rfl rfl rfl (Val.loadsB 1 (cs := [.int .i64 a0.f1.f0, .int .i64 a0.f1.f1, .int .i64 a0.f1.f2, .int .i64 a0.f1.f3]) agg35 fsz35 rfl rfl rfl rfl) ?_)
 refine TL.cons (TO.val rfl rfl rfl (Val.fieldAddrB Tryd.underlying37 rfl fsz35 rfl rfl rfl) ?_)
 refine TL.cons (TO.val rfl rfl rfl (Val.loadsB 0 (cs := [.int .i64 a1.f1.f0, .int .i64 a1.f1.f1, .int .i64 a1.f1.f2, .int .i64 a1.f1.f3]) agg35 fsz35 rfl rfl rfl rfl) ?_)
 refine TL.cons (TO.val rfl rfl rfl (Val.eqA eqg35 rfl rfl (fun W => eqs35 9998 W _ _ _ _ _ _ _ _)) ?_)
 refine TL.cons (TO.val rfl rfl rfl (Val.move rfl) ?_)
 refine TK.split (p := ((a0.f1.f0 == a1.f1.f0) && ((a0.f1.f1 == a1.f1.f1) && ((a0.f1.f2 == a1.f1.f2) && (a0.f1.f3 == a1.f1.f3)))) = true) h (fun hg317 h => ?_) (fun hg317 h => ?_)
 ·
  have hk318 : ((a0.f1.f0 == a1.f1.f0) && ((a0.f1.f1 == a1.f1.f1) && ((a0.f1.f2 == a1.f1.f2) && (a0.f1.f3 == a1.f1.f3)))) = true := hg317
  refine TL.cons (TO.val (Wt.yes rfl rfl rfl hk318) rfl rfl (Val.fieldAddrB Tryd.underlying37 rfl fsz33 rfl rfl rfl) ?_)
  refine TL.cons (TO.val (Wt.yes rfl rfl rfl hk318) rfl rfl (Val.loadB 1 agg33 rfl rfl rfl) ?_)
  refine TL.cons (TO.val (Wt.yes rfl rfl rfl hk318) rfl rfl (Val.fieldAddrB Tryd.underlying37 rfl fsz33 rfl rfl rfl) ?_)
  refine TL.cons (TO.val (Wt.yes rfl rfl rfl hk318) rfl rfl (Val.loadB 0 agg33 rfl rfl rfl) ?_)
  refine TL.cons (TO.inl (args := [.slice A1 a0.f0.length c2, .slice A5 a1.f0.length c6, .func (.func 43) #[] #[]]) (e' := [(0, .slice A1 a0.f0.length c2), (1, .slice A5 a1.f0.length c6), (2, .func (.func 43) #[] #[])]) 32 (Wt.yes rfl rfl rfl hk318) rfl hbd42 rfl rfl Tryd.func42 rfl Tryd.ntmps42 rfl rfl (Nat.le_of_ble_eq_true rfl) (fun a319 hf320 => ?_))
  obtain ⟨j521, hj521, h⟩ := jn_no h
  refine TC.after (fun en W => ∃ (x520 : Bool), j521 x520 = some r ∧ en = .returned (.bool x520) ∧ Own G (Blk b10 [.slice A5 a1.f0.length c6, .int .i64 a1.f1.f0, .int .i64 a1.f1.f1, .int .i64 a1.f1.f2, .int .i64 a1.f1.f3] 37 :: Blk b9 [.slice A1 a0.f0.length c2, .int .i64 a0.f1.f0, .int .i64 a0.f1.f1, .int .i64 a0.f1.f2, .int .i64 a0.f1.f3] 37 :: L) W) ?_ ?_
  ·
   rintro en W ⟨x520, h, rfl, hO⟩
   rw [hj521] at h
   refine (After.mk hf320 rfl ?_) W hO
   clear hO
   refine TL.cons (TO.val rfl rfl rfl (Val.pickY rfl hk318 rfl) ?_)
   refine TL.cons (TO.val rfl rfl rfl (Val.assign rfl) ?_)
   refine TL.nil ?_
   refine TQ.then_ ?_
   refine TC.ret ?_
   obtain rfl := Option.some.inj h
   exact TQ.fin (.inl rfl) rfl Tryd.results41 (.tmp rfl .nil) rfl (FRel.mk (Ls := []) [] 2 (Gd.le.refl _) rfl rfl rfl ⟨rfl, rfl, rfl⟩)
  ·
   refine TC.seq ?_
   refine TC.region ?_
   refine TL.cons (TO.val rfl rfl rfl (Val.assign rfl) ?_)
   refine TL.nil ?_
   refine TQ.then_ ?_
   refine TC.seq ?_
   refine TC.seq ?_
   refine TC.region ?_
   refine TL.cons (TO.val rfl rfl rfl (Val.move rfl) ?_)
   refine TL.cons (TO.val rfl rfl rfl (Val.len Tryd.underlying33 rfl) ?_)
   refine TL.cons (TO.val rfl rfl rfl (Val.move rfl) ?_)
   refine TL.cons (TO.val rfl rfl rfl (Val.len Tryd.underlying33 rfl) ?_)
   refine TL.cons (TO.val rfl rfl rfl (Val.cmp rfl rfl run_neq) ?_)
   refine TL.nil ?_
   refine TQ.then_ ?_
   refine TC.cond_b rfl h (fun hc523 h => ?_) (fun hc523 h => ?_)
   ·
    refine TC.seq ?_
    refine TC.region ?_
    refine TL.cons (TO.val rfl rfl rfl (Val.assign rfl) ?_)
    refine TL.nil ?_
    refine TQ.then_ ?_
    refine TC.ret ?_
    refine TQ.thenR ?_
    exact TQ.fin (v := .bool false) (.inl rfl) rfl Tryd.results42 (.tmp rfl .nil) rfl (fun W hO => ⟨false, h, rfl, hO.selT (Ls := [Blk b10 [.slice A5 a1.f0.length c6, .int .i64 a1.f1.f0, .int .i64 a1.f1.f1, .int .i64 a1.f1.f2, .int .i64 a1.f1.f3] 37, Blk b9 [.slice A1 a0.f0.length c2, .int .i64 a0.f1.f0, .int .i64 a0.f1.f1, .int .i64 a0.f1.f2, .int .i64 a0.f1.f3] 37]) [0, 1] 2 rfl rfl rfl⟩)
   ·
    refine TC.skip ?_
    refine TQ.then_ ?_
    refine TC.seq ?_
    refine TC.seq ?_
    refine TC.region ?_
    refine TL.cons (TO.val rfl rfl rfl (Val.move rfl) ?_)
    refine TL.cons (TO.val rfl rfl rfl (Val.len Tryd.underlying33 rfl) ?_)
    refine TL.cons (TO.val rfl rfl rfl (Val.move rfl) ?_)
    refine TL.nil ?_
    refine TQ.then_ ?_
    obtain ⟨o724, ho724, ko724⟩ := bind_no h
    clear h
    refine TC.tail (fun a W => (.inr ()) = o724 ∧ Fr 32 a [] ∧ Own G (Blk b10 [.slice A5 a1.f0.length c6, .int .i64 a1.f1.f0, .int .i64 a1.f1.f1, .int .i64 a1.f1.f2, .int .i64 a1.f1.f3] 37 :: Blk b9 [.slice A1 a0.f0.length c2, .int .i64 a0.f1.f0, .int .i64 a0.f1.f1, .int .i64 a0.f1.f2, .int .i64 a0.f1.f3] 37 :: L) W) ?_ ?_
    ·
     rintro a W ⟨rfl, hF, hO⟩
     have h := ko724
     clear ko724 ho724
     refine TQ.use ?_ hF hO
     clear hF hO
     refine TQ.then_ ?_
     refine TC.seq ?_
     refine TC.region ?_
     refine TL.cons (TO.val rfl rfl rfl (Val.assign rfl) ?_)
     refine TL.nil ?_
     refine TQ.then_ ?_
     refine TC.ret ?_
     exact TQ.fin (v := .bool true) (.inl rfl) rfl Tryd.results42 (.tmp rfl .nil) rfl (fun W hO => ⟨true, h, rfl, hO.selT (Ls := [Blk b10 [.slice A5 a1.f0.length c6, .int .i64 a1.f1.f0, .int .i64 a1.f1.f1, .int .i64 a1.f1.f2, .int .i64 a1.f1.f3] 37, Blk b9 [.slice A1 a0.f0.length c2, .int .i64 a0.f1.f0, .int .i64 a0.f1.f1, .int .i64 a0.f1.f2, .int .i64 a0.f1.f3] 37]) [0, 1] 2 rfl rfl rfl⟩)
    ·
     refine TC.block ?_
     intro a W hF hO
     have hS : ∃ (x657 : Int), code_Same_1.l0 a0 a1 j521 (a0.f0.length + 1) x657 = some o724 ∧ Fr 32 a [(1, .slice A5 a1.f0.length c6), (2, .func (.func 43) #[] #[]), (15, .slice A1 a0.f0.length c2), (16, .int .i64 (a0.f0.length : Int)), (17, .int .i64 x657)] ∧ Own G (Blk b10 [.slice A5 a1.f0.length c6, .int .i64 a1.f1.f0, .int .i64 a1.f1.f1, .int .i64 a1.f1.f2, .int .i64 a1.f1.f3] 37 :: Blk b9 [.slice A1 a0.f0.length c2, .int .i64 a0.f1.f0, .int .i64 a0.f1.f1, .int .i64 a0.f1.f2, .int .i64 a0.f1.f3] 37 :: L) W := by
      exact ⟨0, ho724, hF.sub ⟨rfl, rfl, rfl, rfl, rfl, trivial⟩, hO.selT (Ls := [Blk b10 [.slice A5 a1.f0.length c6, .int .i64 a1.f1.f0, .int .i64 a1.f1.f1, .int .i64 a1.f1.f2, .int .i64 a1.f1.f3] 37, Blk b9 [.slice A1 a0.f0.length c2, .int .i64 a0.f1.f0, .int .i64 a0.f1.f1, .int .i64 a0.f1.f2, .int .i64 a0.f1.f3] 37]) [0, 1] 2 rfl rfl rfl⟩
     clear hF hO ho724
     refine TC.loop (fun n725 a W => ∃ (x657 : Int), code_Same_1.l0 a0 a1 j521 n725 x657 = some o724 ∧ Fr 32 a [(1, .slice A5 a1.f0.length c6), (2, .func (.func 43) #[] #[]), (15, .slice A1 a0.f0.length c2), (16, .int .i64 (a0.f0.length : Int)), (17, .int .i64 x657)] ∧ Own G (Blk b10 [.slice A5 a1.f0.length c6, .int .i64 a1.f1.f0, .int .i64 a1.f1.f1, .int .i64 a1.f1.f2, .int .i64 a1.f1.f3] 37 :: Blk b9 [.slice A1 a0.f0.length c2, .int .i64 a0.f1.f0, .int .i64 a0.f1.f1, .int .i64 a0.f1.f2, .int .i64 a0.f1.f3] 37 :: L) W) ?_ ?_ hS
     ·
      rintro a W ⟨x657, h, hF, hO⟩
      exact none_no h
     ·
      clear hS
      rintro n725 a W ⟨x657, h, hF, hO⟩
      rw [code_Same_1.l0] at h
      refine TC.use ?_ hF hO
      clear hF hO
      refine TC.seq ?_
      refine TC.region ?_
      refine TL.cons (TO.val rfl rfl rfl (Val.cmp rfl rfl run_lss) ?_)
      refine TL.nil ?_
      refine TQ.then_ ?_
      refine TC.seq ?_
      refine TC.cond_p rfl h (fun hc793 h => ?_) (fun hc793 h => ?_)
      ·
       refine TC.skip ?_
       refine TQ.then_ ?_
       refine TC.seq ?_
       refine TC.block ?_
       refine TC.seq ?_
       refine TC.region ?_
       refine TL.cons (TO.val rfl rfl rfl (Val.move rfl) ?_)
       obtain ⟨y826, hx827, h⟩ := bind_no h
       obtain ⟨ad828, cs834, hA829, hi830, hj831, hcl832, hK833⟩ := Rd.at hr3 hx827
       obtain ⟨A835, c836, rfl, hr837, hl838⟩ := k40_openR hK833
       refine TL.cons (TO.val rfl rfl rfl (Val.indexAddr Tryd.underlying33 fsz40 rfl hA829 rfl hi830 hj831) ?_)
       refine TL.cons (TO.val rfl rfl rfl (Val.loadsS (cs := [.int .i64 y826.f0, .int .i64 y826.f1, .int .i64 y826.f2, .int .i64 y826.f3, .int .i64 y826.f4, .slice A835 y826.f5.length c836]) agg40 fsz40 rfl rfl (Cl.sub (off := 0) (n := 6) hcl832 rfl)) ?_)
       refine TL.cons (TL.alloc (cs := [.int .i64 0, .int .i64 0, .int .i64 0, .int .i64 0, .int .i64 0, .slice none 0 0]) rfl rfl zr40 rfl (fun b839 => ?_))
       refine TL.cons (TO.val rfl rfl rfl (Val.assign rfl) ?_)
       refine TL.cons (TL.store 0 (ds := [.int .i64 y826.f0, .int .i64 y826.f1, .int .i64 y826.f2, .int .i64 y826.f3, .int .i64 y826.f4, .slice A835 y826.f5.length c836]) (cs' := [.int .i64 y826.f0, .int .i64 y826.f1, .int .i64 y826.f2, .int .i64 y826.f3, .int .i64 y826.f4, .slice A835 y826.f5.length c836]) (L' := (Blk b839 [.int .i64 y826.f0, .int .i64 y826.f1, .int .i64 y826.f2, .int .i64 y826.f3, .int .i64 y826.f4, .slice A835 y826.f5.length c836] 40 :: Blk b10 [.slice A5 a1.f0.length c6, .int .i64 a1.f1.f0, .int .i64 a1.f1.f1, .int .i64 a1.f1.f2, .int .i64 a1.f1.f3] 37 :: Blk b9 [.slice A1 a0.f0.length c2, .int .i64 a0.f1.f0, .int .i64 a0.f1.f1, .int .i64 a0.f1.f2, .int .i64 a0.f1.f3] 37 :: L)) rfl fsz40 rfl rfl rfl rfl rfl (Nat.le_of_ble_eq_true rfl) rfl rfl ?_)
       refine TL.nil ?_
       refine TQ.then_ ?_
       refine TC.seq ?_
       refine TC.region ?_
       refine TL.cons (TO.val rfl rfl rfl (Val.move rfl) ?_)
       refine TL.cons (TO.val rfl rfl rfl (Val.move rfl) ?_)
       obtain ⟨y840, hx841, h⟩ := bind_no h
       obtain ⟨ad842, cs848, hA843, hi844, hj845, hcl846, hK847⟩ := Rd.at hr7 hx841
       obtain ⟨A849, c850, rfl, hr851, hl852⟩ := k40_openR hK847
       refine TL.cons (TO.val rfl rfl rfl (Val.indexAddr Tryd.underlying33 fsz40 rfl hA843 rfl hi844 hj845) ?_)
       refine TL.cons (TO.val rfl rfl rfl (Val.loadsS (cs := [.int .i64 y840.f0, .int .i64 y840.f1, .int .i64 y840.f2, .int .i64 y840.f3, .int .i64 y840.f4, .slice A849 y840.f5.length c850]) agg40 fsz40 rfl rfl (Cl.sub (off := 0) (n := 6) hcl846 rfl)) ?_)
       refine TL.cons (TL.alloc (cs := [.int .i64 0, .int .i64 0, .int .i64 0, .int .i64 0, .int .i64 0, .slice none 0 0]) rfl rfl zr40 rfl (fun b853 => ?_))
       refine TL.cons (TL.store 0 (ds := [.int .i64 y840.f0, .int .i64 y840.f1, .int .i64 y840.f2, .int .i64 y840.f3, .int .i64 y840.f4, .slice A849 y840.f5.length c850]) (cs' := [.int .i64 y840.f0, .int .i64 y840.f1, .int .i64 y840.f2, .int .i64 y840.f3, .int .i64 y840.f4, .slice A849 y840.f5.length c850]) (L' := (Blk b853 [.int .i64 y840.f0, .int .i64 y840.f1, .int .i64 y840.f2, .int .i64 y840.f3, .int .i64 y840.f4, .slice A849 y840.f5.length c850] 40 :: Blk b839 [.int .i64 y826.f0, .int .i64 y826.f1, .int .i64 y826.f2, .int .i64 y826.f3, .int .i64 y826.f4, .slice A835 y826.f5.length c836] 40 :: Blk b10 [.slice A5 a1.f0.length c6, .int .i64 a1.f1.f0, .int .i64 a1.f1.f1, .int .i64 a1.f1.f2, .int .i64 a1.f1.f3] 37 :: Blk b9 [.slice A1 a0.f0.length c2, .int .i64 a0.f1.f0, .int .i64 a0.f1.f1, .int .i64 a0.f1.f2, .int .i64 a0.f1.f3] 37 :: L)) rfl fsz40 rfl rfl rfl rfl rfl (Nat.le_of_ble_eq_true rfl) rfl rfl ?_)
       refine TL.nil ?_
       refine TQ.then_ ?_
       refine TC.seq ?_
       refine TC.region ?_
       refine TL.cons (TO.val rfl rfl rfl (Val.move rfl) ?_)
       refine TL.cons (TO.val rfl rfl rfl (Val.loadsB 1 (cs := [.int .i64 y826.f0, .int .i64 y826.f1, .int .i64 y826.f2, .int .i64 y826.f3, .int .i64 y826.f4, .slice A835 y826.f5.length c836]) agg40 fsz40 rfl rfl rfl rfl) ?_)
       refine TL.cons (TO.val rfl rfl rfl (Val.loadsB 0 (cs := [.int .i64 y840.f0, .int .i64 y840.f1, .int .i64 y840.f2, .int .i64 y840.f3, .int .i64 y840.f4, .slice A849 y840.f5.length c850]) agg40 fsz40 rfl rfl rfl rfl) ?_)
       obtain ⟨y854, hy855, h⟩ := bind_no h
       refine TL.cons (TL.callV (Lin := []) (args := [.agg #[.int .i64 y826.f0, .int .i64 y826.f1, .int .i64 y826.f2, .int .i64 y826.f3, .int .i64 y826.f4, .slice A835 y826.f5.length c836], .agg #[.int .i64 y840.f0, .int .i64 y840.f1, .int .i64 y840.f2, .int .i64 y840.f3, .int .i64 y840.f4, .slice A849 y840.f5.length c850]]) rfl rfl rfl hbd43 rfl rfl (code_sameOp.calls (a0 := y826) (a1 := y840) hr837 hl838 hr851 hl852 hy855) rfl ?_)
       rintro _ _ _ _ ⟨rfl, rfl, rfl⟩
       refine TL.cons (TO.val rfl rfl rfl (Val.not_ rfl) ?_)
       refine TL.nil ?_
       refine TQ.then_ ?_
       refine TC.cond_b rfl h (fun hc857 h => ?_) (fun hc857 h => ?_)
       ·
        refine TC.seq ?_
        refine TC.region ?_
        refine TL.cons (TO.val rfl rfl rfl (Val.assign rfl) ?_)
        refine TL.nil ?_
        refine TQ.then_ ?_
        refine TC.ret ?_
        refine TQ.inBR ?_
        refine TQ.thenR ?_
        refine TQ.thenR ?_
        refine TQ.inBR ?_
        refine TQ.thenR ?_
        refine TQ.thenR ?_
        obtain ⟨q_, hq_, h⟩ := bind_no h
        obtain rfl := Option.some.inj h
        have h := ko724
        obtain rfl := Option.some.inj h
        have h := hq_
        clear hq_
        exact TQ.fin (v := .bool false) (.inl rfl) rfl Tryd.results42 (.tmp rfl .nil) rfl (fun W hO => ⟨false, h, rfl, hO.selT (Ls := [Blk b10 [.slice A5 a1.f0.length c6, .int .i64 a1.f1.f0, .int .i64 a1.f1.f1, .int .i64 a1.f1.f2, .int .i64 a1.f1.f3] 37, Blk b9 [.slice A1 a0.f0.length c2, .int .i64 a0.f1.f0, .int .i64 a0.f1.f1, .int .i64 a0.f1.f2, .int .i64 a0.f1.f3] 37]) [2, 3] 4 rfl rfl rfl⟩)
       ·
        refine TC.skip ?_
        refine TQ.inB ?_
        refine TQ.then_ ?_
        refine TC.region ?_
        refine TL.cons (TO.val rfl rfl rfl (Val.cmp rfl rfl run_add) ?_)
        refine TL.cons (TO.val rfl rfl rfl (Val.move rfl) ?_)
        refine TL.nil ?_
        exact fun a W hF hO => ⟨IntKind.i64.wrap (x657 + 1), h, hF.sub ⟨rfl, rfl, rfl, rfl, rfl, trivial⟩, hO.selT (Ls := [Blk b10 [.slice A5 a1.f0.length c6, .int .i64 a1.f1.f0, .int .i64 a1.f1.f1, .int .i64 a1.f1.f2, .int .i64 a1.f1.f3] 37, Blk b9 [.slice A1 a0.f0.length c2, .int .i64 a0.f1.f0, .int .i64 a0.f1.f1, .int .i64 a0.f1.f2, .int .i64 a0.f1.f3] 37]) [2, 3] 4 rfl rfl rfl⟩
      ·
       refine TC.exit ?_
       refine TQ.thenX ?_
       refine TQ.thenX ?_
       refine TQ.inBX ?_
       exact fun a W hF hO => ⟨Option.some.inj h, hF.sub trivial, hO.selT (Ls := [Blk b10 [.slice A5 a1.f0.length c6, .int .i64 a1.f1.f0, .int .i64 a1.f1.f1, .int .i64 a1.f1.f2, .int .i64 a1.f1.f3] 37, Blk b9 [.slice A1 a0.f0.length c2, .int .i64 a0.f1.f0, .int .i64 a0.f1.f1, .int .i64 a0.f1.f2, .int .i64 a0.f1.f3] 37]) [0, 1] 2 rfl rfl rfl⟩
 ·
  have hk858 : ((a0.f1.f0 == a1.f1.f0) && ((a0.f1.f1 == a1.f1.f1) && ((a0.f1.f2 == a1.f1.f2) && (a0.f1.f3 == a1.f1.f3)))) = false := (by simpa using hg317)
  refine TL.cons (TL.not (Wt.no rfl rfl rfl hk858) rfl ?_)
  refine TL.cons (TL.not (Wt.no rfl rfl rfl hk858) rfl ?_)
  refine TL.cons (TL.not (Wt.no rfl rfl rfl hk858) rfl ?_)
  refine TL.cons (TL.not (Wt.no rfl rfl rfl hk858) rfl ?_)
  refine TL.cons (TL.not (Wt.no rfl rfl rfl hk858) rfl ?_)
  refine TL.cons (TO.val rfl rfl rfl (Val.pickN rfl hk858 rfl) ?_)
  refine TL.cons (TO.val rfl rfl rfl (Val.assign rfl) ?_)
  refine TL.nil ?_
  refine TQ.then_ ?_
  refine TC.ret ?_
  obtain rfl := Option.some.inj h
  exact TQ.fin (.inl rfl) rfl Tryd.results41 (.tmp rfl .nil) rfl (FRel.mk (Ls := []) [] 2 (Gd.le.refl _) rfl rfl rfl ⟨rfl, rfl, rfl⟩)
end Go.Proofs.YtmacdhkfgoahcaaDoor.Sy
set_option linter.unusedVariables false
set_option linter.unusedSimpArgs false
set_option maxRecDepth 100000
set_option maxHeartbeats 4000000
namespace Go.Proofs.YtmacdhkfgoahcaaDoor.Sy
open Go Go.RowKit Go.Proofs.YtmacdhkfgoahcaaDoorW.PrintWords 
def code_Same.l0 (a0 : S27) (a1 : S27) (j521 : (Bool → Option Bool)) : Nat → Int → Option (Sum Bool (Unit))
 | 0, _ => none
 | n725 + 1, x657 => (if x657 < (a0.f1.length : Int) then (at? a0.f1 x657).bind fun y826 => (at? a1.f1 x657).bind fun y840 => (code_Same_1.f y826 y840).bind fun (y854 : Bool) => (if (!y854) = true then (j521 false).bind fun q_ => some (.inl q_) else code_Same.l0 a0 a1 j521 n725 (IntKind.i64.wrap (x657 + 1))) else some (.inr ()))
def code_Same.f (a0 : S27) (a1 : S27) : Option Bool := (if a0.f0 = a1.f0 then jn (γ := Bool) (fun (x520 : Bool) => some x520) (fun (j521 : (Bool → Option Bool)) => (if (!decide ((a0.f1.length : Int) = (a1.f1.length : Int))) = true then j521 false else (code_Same.l0 a0 a1 j521 (a0.f1.length + 1) 0).bind fun | .inl q_ => some q_ | .inr _ => (j521 true))) else some false)
def code_Same.post (G : Gd) (r : Bool) (v : Value) (G' : Gd) (Lr : List Ch) : Prop := G = G' ∧ v = .bool r ∧ Lr = []
theorem code_Same.calls {G : Gd} {r : Bool} {a0 : S27} {a1 : S27} {A1 : Option Addr} {c2 : Nat} {A5 : Option Addr} {c6 : Nat} (hr3 : Rd G k37 A1 a0.f1) (hl4 : a0.f1.length ≤ c2) (hr7 : Rd G k37 A5 a1.f1) (hl8 : a1.f1.length ≤ c6) (h : code_Same.f a0 a1 = some r) : Fn Tryd.prog 13 G [] [.agg #[.int .i64 a0.f0, .slice A1 a0.f1.length c2], .agg #[.int .i64 a1.f0, .slice A5 a1.f1.length c6]] (code_Same.post G r) := by
 refine Fn.intro (e := [(0, .agg #[.int .i64 a0.f0, .slice A1 a0.f1.length c2]), (1, .agg #[.int .i64 a1.f0, .slice A5 a1.f1.length c6])]) 19 Tryd.func13 rfl Tryd.ntmps13 rfl rfl (Nat.le_of_ble_eq_true rfl) (fun L => ?_)
 unfold code_Same.f at h
 refine TC.seq ?_
 refine TC.region ?_
 refine TL.cons (TL.box (cs := [.int .i64 a0.f0, .slice A1 a0.f1.length c2]) rfl rfl rfl rfl (fun b9 => ?_))
 refine TL.cons (TL.box (cs := [.int .i64 a1.f0, .slice A5 a1.f1.length c6]) rfl rfl rfl rfl (fun b10 => ?_))
 refine TL.cons (TO.val rfl rfl rfl (Val.assign rfl) ?_)
 refine TL.nil ?_
 refine TQ.then_ ?_
 refine TC.seq ?_
 refine TC.region ?_
 refine TL.cons (TO.val rfl rfl rfl (Val.assign rfl) ?_)
 refine TL.nil ?_
 refine TQ.then_ ?_
 refine TC.seq ?_
 refine TC.region ?_
 refine TL.cons (TO.val rfl rfl rfl (Val.fieldAddrB Tryd.underlying27 rfl fsz3 rfl rfl rfl) ?_)
 refine TL.cons (TO.val rfl rfl rfl (Val.loadB 1 agg3 rfl rfl rfl) ?_)
 refine TL.cons (TO.val rfl rfl rfl (Val.fieldAddrB Tryd.underlying27 rfl fsz3 rfl rfl rfl) ?_)
 refine TL.cons (TO.val rfl rfl rfl (Val.loadB 0 agg3 rfl rfl rfl) ?_)
 refine TL.cons (TO.val rfl rfl rfl (Val.cmp rfl rfl run_eql) ?_)
 refine TL.cons (TO.val rfl rfl rfl (Val.move rfl) ?_)
 refine TK.split (p := a0.f0 = a1.f0) h (fun hg317 h => ?_) (fun hg317 h => ?_)
 ·
  have hk318 : decide (a0.f0 = a1.f0) = true := decide_eq_true hg317
  refine TL.cons (TO.val (Wt.yes rfl rfl rfl hk318) rfl rfl (Val.fieldAddrB Tryd.underlying27 rfl fsz25 rfl rfl rfl) ?_)
  refine TL.cons (TO.val (Wt.yes rfl rfl rfl hk318) rfl rfl (Val.loadB 1 agg25 rfl rfl rfl) ?_)
  refine TL.cons (TO.val (Wt.yes rfl rfl rfl hk318) rfl rfl (Val.fieldAddrB Tryd.underlying27 rfl fsz25 rfl rfl rfl) ?_)
  refine TL.cons (TO.val (Wt.yes rfl rfl rfl hk318) rfl rfl (Val.loadB 0 agg25 rfl rfl rfl) ?_)
  refine TL.cons (TO.val (Wt.yes rfl rfl rfl hk318) rfl rfl (Val.move rfl) ?_)
  refine TL.cons (TO.inl (args := [.slice A1 a0.f1.length c2, .slice A5 a1.f1.length c6, .func (.func 41) #[] #[]]) (e' := [(0, .slice A1 a0.f1.length c2), (1, .slice A5 a1.f1.length c6), (2, .func (.func 41) #[] #[])]) 32 (Wt.yes rfl rfl rfl hk318) rfl hbd44 rfl rfl Tryd.func44 rfl Tryd.ntmps44 rfl rfl (Nat.le_of_ble_eq_true rfl) (fun a319 hf320 => ?_))
  obtain ⟨j521, hj521, h⟩ := jn_no h
  refine TC.after (fun en W => ∃ (x520 : Bool), j521 x520 = some r ∧ en = .returned (.bool x520) ∧ Own G (Blk b10 [.int .i64 a1.f0, .slice A5 a1.f1.length c6] 27 :: Blk b9 [.int .i64 a0.f0, .slice A1 a0.f1.length c2] 27 :: L) W) ?_ ?_
  ·
   rintro en W ⟨x520, h, rfl, hO⟩
   rw [hj521] at h
   refine (After.mk hf320 rfl ?_) W hO
   clear hO
   refine TL.cons (TO.val rfl rfl rfl (Val.pickY rfl hk318 rfl) ?_)
   refine TL.cons (TO.val rfl rfl rfl (Val.assign rfl) ?_)
   refine TL.nil ?_
   refine TQ.then_ ?_
   refine TC.ret ?_
   obtain rfl := Option.some.inj h
   exact TQ.fin (.inl rfl) rfl Tryd.results13 (.tmp rfl .nil) rfl (FRel.mk (Ls := []) [] 2 (Gd.le.refl _) rfl rfl rfl ⟨rfl, rfl, rfl⟩)
  ·
   refine TC.seq ?_
   refine TC.region ?_
   refine TL.cons (TO.val rfl rfl rfl (Val.assign rfl) ?_)
   refine TL.nil ?_
   refine TQ.then_ ?_
   refine TC.seq ?_
   refine TC.seq ?_
   refine TC.region ?_
   refine TL.cons (TO.val rfl rfl rfl (Val.move rfl) ?_)
   refine TL.cons (TO.val rfl rfl rfl (Val.len Tryd.underlying25 rfl) ?_)
   refine TL.cons (TO.val rfl rfl rfl (Val.move rfl) ?_)
   refine TL.cons (TO.val rfl rfl rfl (Val.len Tryd.underlying25 rfl) ?_)
   refine TL.cons (TO.val rfl rfl rfl (Val.cmp rfl rfl run_neq) ?_)
   refine TL.nil ?_
   refine TQ.then_ ?_
   refine TC.cond_b rfl h (fun hc523 h => ?_) (fun hc523 h => ?_)
   ·
    refine TC.seq ?_
    refine TC.region ?_
    refine TL.cons (TO.val rfl rfl rfl (Val.assign rfl) ?_)
    refine TL.nil ?_
    refine TQ.then_ ?_
    refine TC.ret ?_
    refine TQ.thenR ?_
    exact TQ.fin (v := .bool false) (.inl rfl) rfl Tryd.results44 (.tmp rfl .nil) rfl (fun W hO => ⟨false, h, rfl, hO.selT (Ls := [Blk b10 [.int .i64 a1.f0, .slice A5 a1.f1.length c6] 27, Blk b9 [.int .i64 a0.f0, .slice A1 a0.f1.length c2] 27]) [0, 1] 2 rfl rfl rfl⟩)
   ·
    refine TC.skip ?_
    refine TQ.then_ ?_
    refine TC.seq ?_
    refine TC.seq ?_
    refine TC.region ?_
    refine TL.cons (TO.val rfl rfl rfl (Val.move rfl) ?_)
    refine TL.cons (TO.val rfl rfl rfl (Val.len Tryd.underlying25 rfl) ?_)
    refine TL.cons (TO.val rfl rfl rfl (Val.move rfl) ?_)
    refine TL.nil ?_
    refine TQ.then_ ?_
    obtain ⟨o724, ho724, ko724⟩ := bind_no h
    clear h
    refine TC.tail (fun a W => (.inr ()) = o724 ∧ Fr 32 a [] ∧ Own G (Blk b10 [.int .i64 a1.f0, .slice A5 a1.f1.length c6] 27 :: Blk b9 [.int .i64 a0.f0, .slice A1 a0.f1.length c2] 27 :: L) W) ?_ ?_
    ·
     rintro a W ⟨rfl, hF, hO⟩
     have h := ko724
     clear ko724 ho724
     refine TQ.use ?_ hF hO
     clear hF hO
     refine TQ.then_ ?_
     refine TC.seq ?_
     refine TC.region ?_
     refine TL.cons (TO.val rfl rfl rfl (Val.assign rfl) ?_)
     refine TL.nil ?_
     refine TQ.then_ ?_
     refine TC.ret ?_
     exact TQ.fin (v := .bool true) (.inl rfl) rfl Tryd.results44 (.tmp rfl .nil) rfl (fun W hO => ⟨true, h, rfl, hO.selT (Ls := [Blk b10 [.int .i64 a1.f0, .slice A5 a1.f1.length c6] 27, Blk b9 [.int .i64 a0.f0, .slice A1 a0.f1.length c2] 27]) [0, 1] 2 rfl rfl rfl⟩)
    ·
     refine TC.block ?_
     intro a W hF hO
     have hS : ∃ (x657 : Int), code_Same.l0 a0 a1 j521 (a0.f1.length + 1) x657 = some o724 ∧ Fr 32 a [(1, .slice A5 a1.f1.length c6), (2, .func (.func 41) #[] #[]), (15, .slice A1 a0.f1.length c2), (16, .int .i64 (a0.f1.length : Int)), (17, .int .i64 x657)] ∧ Own G (Blk b10 [.int .i64 a1.f0, .slice A5 a1.f1.length c6] 27 :: Blk b9 [.int .i64 a0.f0, .slice A1 a0.f1.length c2] 27 :: L) W := by
      exact ⟨0, ho724, hF.sub ⟨rfl, rfl, rfl, rfl, rfl, trivial⟩, hO.selT (Ls := [Blk b10 [.int .i64 a1.f0, .slice A5 a1.f1.length c6] 27, Blk b9 [.int .i64 a0.f0, .slice A1 a0.f1.length c2] 27]) [0, 1] 2 rfl rfl rfl⟩
     clear hF hO ho724
     refine TC.loop (fun n725 a W => ∃ (x657 : Int), code_Same.l0 a0 a1 j521 n725 x657 = some o724 ∧ Fr 32 a [(1, .slice A5 a1.f1.length c6), (2, .func (.func 41) #[] #[]), (15, .slice A1 a0.f1.length c2), (16, .int .i64 (a0.f1.length : Int)), (17, .int .i64 x657)] ∧ Own G (Blk b10 [.int .i64 a1.f0, .slice A5 a1.f1.length c6] 27 :: Blk b9 [.int .i64 a0.f0, .slice A1 a0.f1.length c2] 27 :: L) W) ?_ ?_ hS
     ·
      rintro a W ⟨x657, h, hF, hO⟩
      exact none_no h
     ·
      clear hS
      rintro n725 a W ⟨x657, h, hF, hO⟩
      rw [code_Same.l0] at h
      refine TC.use ?_ hF hO
      clear hF hO
      refine TC.seq ?_
      refine TC.region ?_
      refine TL.cons (TO.val rfl rfl rfl (Val.cmp rfl rfl run_lss) ?_)
      refine TL.nil ?_
      refine TQ.then_ ?_
      refine TC.seq ?_
      refine TC.cond_p rfl h (fun hc793 h => ?_) (fun hc793 h => ?_)
      ·
       refine TC.skip ?_
       refine TQ.then_ ?_
       refine TC.seq ?_
       refine TC.block ?_
       refine TC.seq ?_
       refine TC.region ?_
       refine TL.cons (TO.val rfl rfl rfl (Val.move rfl) ?_)
       obtain ⟨y826, hx827, h⟩ := bind_no h
       obtain ⟨ad828, cs834, hA829, hi830, hj831, hcl832, hK833⟩ := Rd.at hr3 hx827
       obtain ⟨A835, c836, rfl, hr837, hl838⟩ := k37_openR hK833
       refine TL.cons (TO.val rfl rfl rfl (Val.indexAddr Tryd.underlying25 fsz37 rfl hA829 rfl hi830 hj831) ?_)
       refine TL.cons (TO.val rfl rfl rfl (Val.loadsS (cs := [.slice A835 y826.f0.length c836, .int .i64 y826.f1.f0, .int .i64 y826.f1.f1, .int .i64 y826.f1.f2, .int .i64 y826.f1.f3]) agg37 fsz37 rfl rfl (Cl.sub (off := 0) (n := 5) hcl832 rfl)) ?_)
       refine TL.cons (TL.alloc (cs := [.slice none 0 0, .int .i64 0, .int .i64 0, .int .i64 0, .int .i64 0]) rfl rfl zr37 rfl (fun b839 => ?_))
       refine TL.cons (TO.val rfl rfl rfl (Val.assign rfl) ?_)
       refine TL.cons (TL.store 0 (ds := [.slice A835 y826.f0.length c836, .int .i64 y826.f1.f0, .int .i64 y826.f1.f1, .int .i64 y826.f1.f2, .int .i64 y826.f1.f3]) (cs' := [.slice A835 y826.f0.length c836, .int .i64 y826.f1.f0, .int .i64 y826.f1.f1, .int .i64 y826.f1.f2, .int .i64 y826.f1.f3]) (L' := (Blk b839 [.slice A835 y826.f0.length c836, .int .i64 y826.f1.f0, .int .i64 y826.f1.f1, .int .i64 y826.f1.f2, .int .i64 y826.f1.f3] 37 :: Blk b10 [.int .i64 a1.f0, .slice A5 a1.f1.length c6] 27 :: Blk b9 [.int .i64 a0.f0, .slice A1 a0.f1.length c2] 27 :: L)) rfl fsz37 rfl rfl rfl rfl rfl (Nat.le_of_ble_eq_true rfl) rfl rfl ?_)
       refine TL.nil ?_
       refine TQ.then_ ?_
       refine TC.seq ?_
       refine TC.region ?_
       refine TL.cons (TO.val rfl rfl rfl (Val.move rfl) ?_)
       refine TL.cons (TO.val rfl rfl rfl (Val.move rfl) ?_)
       obtain ⟨y840, hx841, h⟩ := bind_no h
       obtain ⟨ad842, cs848, hA843, hi844, hj845, hcl846, hK847⟩ := Rd.at hr7 hx841
       obtain ⟨A849, c850, rfl, hr851, hl852⟩ := k37_openR hK847
       refine TL.cons (TO.val rfl rfl rfl (Val.indexAddr Tryd.underlying25 fsz37 rfl hA843 rfl hi844 hj845) ?_)
       refine TL.cons (TO.val rfl rfl rfl (Val.loadsS (cs := [.slice A849 y840.f0.length c850, .int .i64 y840.f1.f0, .int .i64 y840.f1.f1, .int .i64 y840.f1.f2, .int .i64 y840.f1.f3]) agg37 fsz37 rfl rfl (Cl.sub (off := 0) (n := 5) hcl846 rfl)) ?_)
       refine TL.cons (TL.alloc (cs := [.slice none 0 0, .int .i64 0, .int .i64 0, .int .i64 0, .int .i64 0]) rfl rfl zr37 rfl (fun b853 => ?_))
       refine TL.cons (TL.store 0 (ds := [.slice A849 y840.f0.length c850, .int .i64 y840.f1.f0, .int .i64 y840.f1.f1, .int .i64 y840.f1.f2, .int .i64 y840.f1.f3]) (cs' := [.slice A849 y840.f0.length c850, .int .i64 y840.f1.f0, .int .i64 y840.f1.f1, .int .i64 y840.f1.f2, .int .i64 y840.f1.f3]) (L' := (Blk b853 [.slice A849 y840.f0.length c850, .int .i64 y840.f1.f0, .int .i64 y840.f1.f1, .int .i64 y840.f1.f2, .int .i64 y840.f1.f3] 37 :: Blk b839 [.slice A835 y826.f0.length c836, .int .i64 y826.f1.f0, .int .i64 y826.f1.f1, .int .i64 y826.f1.f2, .int .i64 y826.f1.f3] 37 :: Blk b10 [.int .i64 a1.f0, .slice A5 a1.f1.length c6] 27 :: Blk b9 [.int .i64 a0.f0, .slice A1 a0.f1.length c2] 27 :: L)) rfl fsz37 rfl rfl rfl rfl rfl (Nat.le_of_ble_eq_true rfl) rfl rfl ?_)
       refine TL.nil ?_
       refine TQ.then_ ?_
       refine TC.seq ?_
       refine TC.region ?_
       refine TL.cons (TO.val rfl rfl rfl (Val.move rfl) ?_)
       refine TL.cons (TO.val rfl rfl rfl (Val.loadsB 1 (cs := [.slice A835 y826.f0.length c836, .int .i64 y826.f1.f0, .int .i64 y826.f1.f1, .int .i64 y826.f1.f2, .int .i64 y826.f1.f3]) agg37 fsz37 rfl rfl rfl rfl) ?_)
       refine TL.cons (TO.val rfl rfl rfl (Val.loadsB 0 (cs := [.slice A849 y840.f0.length c850, .int .i64 y840.f1.f0, .int .i64 y840.f1.f1, .int .i64 y840.f1.f2, .int .i64 y840.f1.f3]) agg37 fsz37 rfl rfl rfl rfl) ?_)
       obtain ⟨y854, hy855, h⟩ := bind_no h
       refine TL.cons (TL.callV (Lin := []) (args := [.agg #[.slice A835 y826.f0.length c836, .int .i64 y826.f1.f0, .int .i64 y826.f1.f1, .int .i64 y826.f1.f2, .int .i64 y826.f1.f3], .agg #[.slice A849 y840.f0.length c850, .int .i64 y840.f1.f0, .int .i64 y840.f1.f1, .int .i64 y840.f1.f2, .int .i64 y840.f1.f3]]) rfl rfl rfl hbd41 rfl rfl (code_Same_1.calls (a0 := y826) (a1 := y840) hr837 hl838 hr851 hl852 hy855) rfl ?_)
       rintro _ _ _ _ ⟨rfl, rfl, rfl⟩
       refine TL.cons (TO.val rfl rfl rfl (Val.not_ rfl) ?_)
       refine TL.nil ?_
       refine TQ.then_ ?_
       refine TC.cond_b rfl h (fun hc857 h => ?_) (fun hc857 h => ?_)
       ·
        refine TC.seq ?_
        refine TC.region ?_
        refine TL.cons (TO.val rfl rfl rfl (Val.assign rfl) ?_)
        refine TL.nil ?_
        refine TQ.then_ ?_
        refine TC.ret ?_
        refine TQ.inBR ?_
        refine TQ.thenR ?_
        refine TQ.thenR ?_
        refine TQ.inBR ?_
        refine TQ.thenR ?_
        refine TQ.thenR ?_
        obtain ⟨q_, hq_, h⟩ := bind_no h
        obtain rfl := Option.some.inj h
        have h := ko724
        obtain rfl := Option.some.inj h
        have h := hq_
        clear hq_
        exact TQ.fin (v := .bool false) (.inl rfl) rfl Tryd.results44 (.tmp rfl .nil) rfl (fun W hO => ⟨false, h, rfl, hO.selT (Ls := [Blk b10 [.int .i64 a1.f0, .slice A5 a1.f1.length c6] 27, Blk b9 [.int .i64 a0.f0, .slice A1 a0.f1.length c2] 27]) [2, 3] 4 rfl rfl rfl⟩)
       ·
        refine TC.skip ?_
        refine TQ.inB ?_
        refine TQ.then_ ?_
        refine TC.region ?_
        refine TL.cons (TO.val rfl rfl rfl (Val.cmp rfl rfl run_add) ?_)
        refine TL.cons (TO.val rfl rfl rfl (Val.move rfl) ?_)
        refine TL.nil ?_
        exact fun a W hF hO => ⟨IntKind.i64.wrap (x657 + 1), h, hF.sub ⟨rfl, rfl, rfl, rfl, rfl, trivial⟩, hO.selT (Ls := [Blk b10 [.int .i64 a1.f0, .slice A5 a1.f1.length c6] 27, Blk b9 [.int .i64 a0.f0, .slice A1 a0.f1.length c2] 27]) [2, 3] 4 rfl rfl rfl⟩
      ·
       refine TC.exit ?_
       refine TQ.thenX ?_
       refine TQ.thenX ?_
       refine TQ.inBX ?_
       exact fun a W hF hO => ⟨Option.some.inj h, hF.sub trivial, hO.selT (Ls := [Blk b10 [.int .i64 a1.f0, .slice A5 a1.f1.length c6] 27, Blk b9 [.int .i64 a0.f0, .slice A1 a0.f1.length c2] 27]) [0, 1] 2 rfl rfl rfl⟩
 ·
  have hk858 : decide (a0.f0 = a1.f0) = false := decide_eq_false hg317
  refine TL.cons (TL.not (Wt.no rfl rfl rfl hk858) rfl ?_)
  refine TL.cons (TL.not (Wt.no rfl rfl rfl hk858) rfl ?_)
  refine TL.cons (TL.not (Wt.no rfl rfl rfl hk858) rfl ?_)
  refine TL.cons (TL.not (Wt.no rfl rfl rfl hk858) rfl ?_)
  refine TL.cons (TL.not (Wt.no rfl rfl rfl hk858) rfl ?_)
  refine TL.cons (TL.not (Wt.no rfl rfl rfl hk858) rfl ?_)
  refine TL.cons (TO.val rfl rfl rfl (Val.pickN rfl hk858 rfl) ?_)
  refine TL.cons (TO.val rfl rfl rfl (Val.assign rfl) ?_)
  refine TL.nil ?_
  refine TQ.then_ ?_
  refine TC.ret ?_
  obtain rfl := Option.some.inj h
  exact TQ.fin (.inl rfl) rfl Tryd.results13 (.tmp rfl .nil) rfl (FRel.mk (Ls := []) [] 2 (Gd.le.refl _) rfl rfl rfl ⟨rfl, rfl, rfl⟩)
end Go.Proofs.YtmacdhkfgoahcaaDoor.Sy
set_option linter.unusedVariables false
set_option linter.unusedSimpArgs false
set_option maxRecDepth 100000
set_option maxHeartbeats 4000000
namespace Go.Proofs.YtmacdhkfgoahcaaDoor.Sy
open Go Go.RowKit Go.Proofs.YtmacdhkfgoahcaaDoorW.PrintWords 
def code_Program.l2 (a0 : (List S27)) (y16627 : S37) : Nat → Int → Option (Sum (Sum (Sum Bool (Unit)) (Unit)) (Unit))
 | 0, _ => none
 | n17469 + 1, x17192 => (if x17192 < (y16627.f0.length : Int) then (at? y16627.f0 x17192).bind fun y17899 => jn (γ := (Sum (Sum (Sum Bool (Unit)) (Unit)) (Unit))) (fun (x18016 : Bool) => (if x18016 = true then some (.inl (.inl (.inl false))) else code_Program.l2 a0 y16627 n17469 (IntKind.i64.wrap (x17192 + 1)))) (fun (j18017 : (Bool → Option (Sum (Sum (Sum Bool (Unit)) (Unit)) (Unit)))) => (if y17899.f0 = 7 then (at? a0 y17899.f4).bind fun y18039 => j18017 (!decide ((y17899.f5.length : Int) = y18039.f0)) else j18017 false)) else some (.inr ()))
def code_Program.l1 (a0 : (List S27)) (y12205 : S27) : Nat → Int → Option (Sum (Sum Bool (Unit)) (Unit))
 | 0, _ => none
 | n15389 + 1, x14681 => (if x14681 < (y12205.f1.length : Int) then (at? y12205.f1 x14681).bind fun y16627 => (code_Program.l2 a0 y16627 (y16627.f0.length + 1) 0).bind fun | .inl q_ => some q_ | .inr _ => (code_Program.l1 a0 y12205 n15389 (IntKind.i64.wrap (x14681 + 1))) else some (.inr ()))
def code_Program.l0 (a0 : (List S27)) : Nat → Int → Option (Sum Bool (Unit))
 | 0, _ => none
 | n7987 + 1, x5333 => (if x5333 < (a0.length : Int) then (at? a0 x5333).bind fun y12205 => (code_Right.f y12205 (a0.length : Int)).bind fun (y12219 : Bool) => (if (!y12219) = true then some (.inl false) else (code_Program.l1 a0 y12205 (y12205.f1.length + 1) 0).bind fun | .inl q_ => some q_ | .inr _ => (code_Program.l0 a0 n7987 (IntKind.i64.wrap (x5333 + 1)))) else some (.inr ()))
def code_Program.f (a0 : (List S27)) : Option Bool := jn (γ := Bool) (fun (x26 : Bool) => (if x26 = true then some false else (code_Program.l0 a0 (a0.length + 1) 0).bind fun | .inl q_ => some q_ | .inr _ => (some true))) (fun (j27 : (Bool → Option Bool)) => (code_within.f (a0.length : Int) 1 256).bind fun (y18053 : Bool) => (if (!y18053) = true then j27 true else (at? a0 0).bind fun y18058 => j27 (!decide (y18058.f0 = 0))))
def code_Program.post (G : Gd) (r : Bool) (v : Value) (G' : Gd) (Lr : List Ch) : Prop := G = G' ∧ v = .bool r ∧ Lr = []
theorem code_Program.calls {G : Gd} {r : Bool} {a0 : (List S27)} {A1 : Option Addr} {c2 : Nat} (hr3 : Rd G k27 A1 a0) (hl4 : a0.length ≤ c2) (h : code_Program.f a0 = some r) : Fn Tryd.prog 14 G [] [.slice A1 a0.length c2] (code_Program.post G r) := by
 refine Fn.intro (e := [(0, .slice A1 a0.length c2)]) 47 Tryd.func14 rfl Tryd.ntmps14 rfl rfl (Nat.le_of_ble_eq_true rfl) (fun L => ?_)
 unfold code_Program.f at h
 refine TC.new (ch := Mk []) Mk.nil ?_
 refine TC.seq ?_
 refine TC.region ?_
 refine TL.cons (TL.box (cs := [.slice A1 a0.length c2]) rfl rfl rfl rfl (fun b6 => ?_))
 refine TL.cons (TL.alloc (cs := [.bool false]) rfl rfl zr4 rfl (fun b7 => ?_))
 refine TL.nil ?_
 refine TQ.then_ ?_
 refine TC.seq ?_
 refine TC.seq ?_
 obtain ⟨j27, hj27, h⟩ := jn_no h
 refine TC.tail (fun a W => ∃ (x26 : Bool), j27 x26 = some r ∧ Fr (⟨47, List.map mark []⟩ : Nd) a [(1, .pointer (some ⟨b6, 0, none⟩)), (2, .pointer (some ⟨b7, 0, none⟩)), (16, .bool x26)] ∧ Own G (Blk b6 [.slice A1 a0.length c2] 22 :: Blk b7 [.bool false] 4 :: Mk [] :: L) W) ?_ ?_
 ·
  rintro a W ⟨x26, h, hF, hO⟩
  rw [hj27] at h
  refine TQ.use ?_ hF hO
  clear hF hO
  refine TQ.then_ ?_
  refine TC.cond_b rfl h (fun hc29 h => ?_) (fun hc29 h => ?_)
  ·
   refine TC.seq ?_
   refine TC.region ?_
   refine TL.cons (TL.store 1 (ds := [.bool false]) (cs' := [.bool false]) (L' := (Blk b6 [.slice A1 a0.length c2] 22 :: Blk b7 [.bool false] 4 :: Mk [] :: L)) rfl fsz4 rfl rfl rfl rfl rfl (Nat.le_of_ble_eq_true rfl) rfl rfl ?_)
   refine TL.nil ?_
   refine TQ.then_ ?_
   refine TC.ret ?_
   refine TQ.thenR ?_
   refine TQ.finL (ds := List.map mark []) (.inl rfl) rfl (fun a_ hx30 => ?_)
   refine Lv.marks (L' := (Blk b6 [.slice A1 a0.length c2] 22 :: Blk b7 [.bool false] 4 :: Emp :: L)) 2 rfl rfl ?_
   obtain rfl := Option.some.inj h
   exact Lv.nil hx30 Tryd.results14 (.cell 1 rfl rfl agg4 rfl .nil) rfl (FRel.mk (Ls := []) [] 3 (Gd.le.refl _) rfl rfl rfl ⟨rfl, rfl, rfl⟩)
  ·
   refine TC.skip ?_
   refine TQ.then_ ?_
   refine TC.seq ?_
   refine TC.seq ?_
   refine TC.region ?_
   refine TL.cons (TO.val rfl rfl rfl (Val.loadB 0 agg22 rfl rfl rfl) ?_)
   refine TL.cons (TO.val rfl rfl rfl (Val.len Tryd.underlying22 rfl) ?_)
   refine TL.cons (TO.val rfl rfl rfl (Val.move rfl) ?_)
   refine TL.nil ?_
   refine TQ.then_ ?_
   obtain ⟨o7986, ho7986, ko7986⟩ := bind_no h
   clear h
   refine TC.tail (fun a W => ∃ (ds7985 : List Nat), (.inr ()) = o7986 ∧ Fr (⟨47, List.map mark ds7985⟩ : Nd) a [(2, .pointer (some ⟨b7, 0, none⟩))] ∧ Own G (Blk b7 [.bool false] 4 :: Mk ds7985 :: L) W) ?_ ?_
   ·
    rintro a W ⟨ds7985, rfl, hF, hO⟩
    have h := ko7986
    clear ko7986 ho7986
    refine TQ.use ?_ hF hO
    clear hF hO
    refine TQ.then_ ?_
    refine TC.seq ?_
    refine TC.region ?_
    refine TL.cons (TL.store 0 (ds := [.bool true]) (cs' := [.bool true]) (L' := (Blk b7 [.bool true] 4 :: Mk ds7985 :: L)) rfl fsz4 rfl rfl rfl rfl rfl (Nat.le_of_ble_eq_true rfl) rfl rfl ?_)
    refine TL.nil ?_
    refine TQ.then_ ?_
    refine TC.ret ?_
    refine TQ.finL (ds := List.map mark ds7985) (.inl rfl) rfl (fun a_ hx10628 => ?_)
    refine Lv.marks (L' := (Blk b7 [.bool true] 4 :: Emp :: L)) 1 rfl rfl ?_
    obtain rfl := Option.some.inj h
    exact Lv.nil hx10628 Tryd.results14 (.cell 0 rfl rfl agg4 rfl .nil) rfl (FRel.mk (Ls := []) [] 2 (Gd.le.refl _) rfl rfl rfl ⟨rfl, rfl, rfl⟩)
   ·
    refine TC.block ?_
    intro a W hF hO
    have hS : ∃ (x5333 : Int) (ds5334 : List Nat), code_Program.l0 a0 (a0.length + 1) x5333 = some o7986 ∧ Fr (⟨47, List.map mark ds5334⟩ : Nd) a [(1, .pointer (some ⟨b6, 0, none⟩)), (2, .pointer (some ⟨b7, 0, none⟩)), (17, .slice A1 a0.length c2), (18, .int .i64 (a0.length : Int)), (19, .int .i64 x5333)] ∧ Own G (Blk b6 [.slice A1 a0.length c2] 22 :: Blk b7 [.bool false] 4 :: Mk ds5334 :: L) W := by
     exact ⟨0, [], ho7986, hF.sub ⟨rfl, rfl, rfl, rfl, rfl, trivial⟩, hO.selT (Ls := [Blk b6 [.slice A1 a0.length c2] 22, Blk b7 [.bool false] 4, Mk []]) [0, 1, 2] 3 rfl rfl rfl⟩
    clear hF hO ho7986
    refine TC.loop (fun n7987 a W => ∃ (x5333 : Int) (ds5334 : List Nat), code_Program.l0 a0 n7987 x5333 = some o7986 ∧ Fr (⟨47, List.map mark ds5334⟩ : Nd) a [(1, .pointer (some ⟨b6, 0, none⟩)), (2, .pointer (some ⟨b7, 0, none⟩)), (17, .slice A1 a0.length c2), (18, .int .i64 (a0.length : Int)), (19, .int .i64 x5333)] ∧ Own G (Blk b6 [.slice A1 a0.length c2] 22 :: Blk b7 [.bool false] 4 :: Mk ds5334 :: L) W) ?_ ?_ hS
    ·
     rintro a W ⟨x5333, ds5334, h, hF, hO⟩
     exact none_no h
    ·
     clear hS
     rintro n7987 a W ⟨x5333, ds5334, h, hF, hO⟩
     rw [code_Program.l0] at h
     refine TC.use ?_ hF hO
     clear hF hO
     refine TC.seq ?_
     refine TC.region ?_
     refine TL.cons (TO.val rfl rfl rfl (Val.cmp rfl rfl run_lss) ?_)
     refine TL.nil ?_
     refine TQ.then_ ?_
     refine TC.seq ?_
     refine TC.cond_p rfl h (fun hc10630 h => ?_) (fun hc10630 h => ?_)
     ·
      refine TC.skip ?_
      refine TQ.then_ ?_
      refine TC.seq ?_
      refine TC.block ?_
      refine TC.seq ?_
      refine TC.region ?_
      obtain ⟨y12205, hx12206, h⟩ := bind_no h
      obtain ⟨ad12207, cs12213, hA12208, hi12209, hj12210, hcl12211, hK12212⟩ := Rd.at hr3 hx12206
      obtain ⟨A12214, c12215, rfl, hr12216, hl12217⟩ := k27_openR hK12212
      refine TL.cons (TO.val rfl rfl rfl (Val.indexAddr Tryd.underlying22 fsz27 rfl hA12208 rfl hi12209 hj12210) ?_)
      refine TL.cons (TO.val rfl rfl rfl (Val.loadsS (cs := [.int .i64 y12205.f0, .slice A12214 y12205.f1.length c12215]) agg27 fsz27 rfl rfl (Cl.sub (off := 0) (n := 2) hcl12211 rfl)) ?_)
      refine TL.cons (TL.alloc (cs := [.int .i64 0, .slice none 0 0]) rfl rfl zr27 rfl (fun b12218 => ?_))
      refine TL.cons (TL.store 0 (ds := [.int .i64 y12205.f0, .slice A12214 y12205.f1.length c12215]) (cs' := [.int .i64 y12205.f0, .slice A12214 y12205.f1.length c12215]) (L' := (Blk b12218 [.int .i64 y12205.f0, .slice A12214 y12205.f1.length c12215] 27 :: Blk b6 [.slice A1 a0.length c2] 22 :: Blk b7 [.bool false] 4 :: Mk ds5334 :: L)) rfl fsz27 rfl rfl rfl rfl rfl (Nat.le_of_ble_eq_true rfl) rfl rfl ?_)
      refine TL.nil ?_
      refine TQ.then_ ?_
      refine TC.seq ?_
      refine TC.seq ?_
      refine TC.region ?_
      refine TL.cons (TO.val rfl rfl rfl (Val.loadsB 0 (cs := [.int .i64 y12205.f0, .slice A12214 y12205.f1.length c12215]) agg27 fsz27 rfl rfl rfl rfl) ?_)
      refine TL.cons (TO.val rfl rfl rfl (Val.loadB 1 agg22 rfl rfl rfl) ?_)
      refine TL.cons (TO.val rfl rfl rfl (Val.len Tryd.underlying22 rfl) ?_)
      obtain ⟨y12219, hy12220, h⟩ := bind_no h
      refine TL.cons (TL.callV (Lin := []) (args := [.agg #[.int .i64 y12205.f0, .slice A12214 y12205.f1.length c12215], .int .i64 (a0.length : Int)]) rfl rfl rfl hbd16 rfl rfl (code_Right.calls (a0 := y12205) (a1 := (a0.length : Int)) hr12216 hl12217 hy12220) rfl ?_)
      rintro _ _ _ _ ⟨rfl, rfl, rfl⟩
      refine TL.cons (TO.val rfl rfl rfl (Val.not_ rfl) ?_)
      refine TL.nil ?_
      refine TQ.then_ ?_
      refine TC.cond_b rfl h (fun hc12222 h => ?_) (fun hc12222 h => ?_)
      ·
       refine TC.seq ?_
       refine TC.region ?_
       refine TL.cons (TL.store 2 (ds := [.bool false]) (cs' := [.bool false]) (L' := (Blk b12218 [.int .i64 y12205.f0, .slice A12214 y12205.f1.length c12215] 27 :: Blk b6 [.slice A1 a0.length c2] 22 :: Blk b7 [.bool false] 4 :: Mk ds5334 :: L)) rfl fsz4 rfl rfl rfl rfl rfl (Nat.le_of_ble_eq_true rfl) rfl rfl ?_)
       refine TL.nil ?_
       refine TQ.then_ ?_
       refine TC.ret ?_
       refine TQ.thenR ?_
       refine TQ.inBR ?_
       refine TQ.thenR ?_
       refine TQ.thenR ?_
       refine TQ.inBR ?_
       refine TQ.thenR ?_
       refine TQ.thenR ?_
       refine TQ.finL (ds := List.map mark ds5334) (.inl rfl) rfl (fun a_ hx12223 => ?_)
       refine Lv.marks (L' := (Blk b12218 [.int .i64 y12205.f0, .slice A12214 y12205.f1.length c12215] 27 :: Blk b6 [.slice A1 a0.length c2] 22 :: Blk b7 [.bool false] 4 :: Emp :: L)) 3 rfl rfl ?_
       obtain rfl := Option.some.inj h
       have h := ko7986
       obtain rfl := Option.some.inj h
       exact Lv.nil hx12223 Tryd.results14 (.cell 2 rfl rfl agg4 rfl .nil) rfl (FRel.mk (Ls := []) [] 4 (Gd.le.refl _) rfl rfl rfl ⟨rfl, rfl, rfl⟩)
      ·
       refine TC.skip ?_
       refine TQ.then_ ?_
       refine TC.seq ?_
       refine TC.region ?_
       refine TL.cons (TO.val rfl rfl rfl (Val.loadsB 0 (cs := [.int .i64 y12205.f0, .slice A12214 y12205.f1.length c12215]) agg27 fsz27 rfl rfl rfl rfl) ?_)
       refine TL.cons (TO.inl (args := [.agg #[.int .i64 y12205.f0, .slice A12214 y12205.f1.length c12215]]) (e' := [(0, .agg #[.int .i64 y12205.f0, .slice A12214 y12205.f1.length c12215])]) 4 rfl rfl hbd46 rfl rfl Tryd.func46 rfl Tryd.ntmps46 rfl rfl (Nat.le_of_ble_eq_true rfl) (fun a12224 hf12225 => ?_))
       refine TC.seq ?_
       refine TC.region ?_
       refine TL.cons (TL.box (cs := [.int .i64 y12205.f0, .slice A12214 y12205.f1.length c12215]) rfl rfl rfl rfl (fun b12227 => ?_))
       refine TL.cons (TO.val rfl rfl rfl (Val.assign rfl) ?_)
       refine TL.nil ?_
       refine TQ.then_ ?_
       refine TC.seq ?_
       refine TC.region ?_
       refine TL.cons (TO.val rfl rfl rfl (Val.makeFunc (xs := []) (ys := [.pointer (some ⟨b12227, 0, none⟩)]) rfl rfl) ?_)
       refine TL.cons (TO.val rfl rfl rfl (Val.assign rfl) ?_)
       refine TL.nil ?_
       refine TQ.then_ ?_
       refine TC.ret ?_
       refine TQ.fin (v := .func (.func 77) #[] #[.pointer (some ⟨b12227, 0, none⟩)]) (.inl rfl) rfl Tryd.results46 (.tmp rfl .nil) rfl (After.mk hf12225 rfl ?_)
       refine TL.nil ?_
       refine TQ.then_ ?_
       refine TC.block ?_
       refine TC.rangeFunc (e1 := fun l_ => [(0, .func (.yield l_) #[] #[]), (1, .pointer (some ⟨b12227, 0, none⟩))]) 27 rfl hbd77 Tryd.func77 rfl Tryd.ntmps77 rfl (fun _ => rfl) (Nat.le_of_ble_eq_true rfl) (fun a13262 R13259 o13260 o13261 hp13263 ha13264 hb13265 hf13266 hf13267 => ?_)
       refine TC.sel (Ls := [Ob o13261 (.deferred (some [])), Mk ds5334, Ob o13260 (LoopO R13259 .ready none), Blk b12227 [.int .i64 y12205.f0, .slice A12214 y12205.f1.length c12215] 27, Blk b12218 [.int .i64 y12205.f0, .slice A12214 y12205.f1.length c12215] 27, Blk b6 [.slice A1 a0.length c2] 22, Blk b7 [.bool false] 4]) [1, 6, 0, 2, 3, 4, 5] 7 rfl rfl rfl ?_
       refine TC.two (ch := Mk (o13261 :: ds5334)) Mk.cons ?_
       refine TC.seq ?_
       refine TC.region ?_
       refine TL.cons (TO.val rfl rfl rfl (Val.fieldAddrB Tryd.underlying27 rfl fsz25 rfl rfl rfl) ?_)
       refine TL.cons (TO.val rfl rfl rfl (Val.loadB 2 agg25 rfl rfl rfl) ?_)
       refine TL.cons (TO.val rfl rfl rfl (Val.len Tryd.underlying25 rfl) ?_)
       refine TL.cons (TO.val rfl rfl rfl (Val.move rfl) ?_)
       refine TL.nil ?_
       refine TQ.then_ ?_
       obtain ⟨o15388, ho15388, ko15388⟩ := bind_no h
       clear h
       refine TC.tail (fun a W => (.inr ()) = o15388 ∧ Fr 27 a [] ∧ Own G (Blk b12218 [.int .i64 y12205.f0, .slice A12214 y12205.f1.length c12215] 27 :: Blk b12227 [.int .i64 y12205.f0, .slice A12214 y12205.f1.length c12215] 27 :: Blk b6 [.slice A1 a0.length c2] 22 :: Blk b7 [.bool false] 4 :: Mk (o13261 :: ds5334) :: Ob o13260 (LoopO R13259 .ready none) :: L) W) ?_ ?_
       ·
        rintro a W ⟨rfl, hF, hO⟩
        have h := ko15388
        clear ko15388 ho15388
        refine TQ.use ?_ hF hO
        clear hF hO
        refine TQ.fin (v := .tuple #[]) (.inr rfl) rfl Tryd.results77 .nil rfl (RangeP.normal (L' := (Blk b12218 [.int .i64 y12205.f0, .slice A12214 y12205.f1.length c12215] 27 :: Blk b12227 [.int .i64 y12205.f0, .slice A12214 y12205.f1.length c12215] 27 :: Blk b6 [.slice A1 a0.length c2] 22 :: Blk b7 [.bool false] 4 :: Mk (o13261 :: ds5334) :: Emp :: L)) 5 hf13267 rfl rfl rfl ?_)
        refine TQ.inB ?_
        refine TQ.inB ?_
        refine TQ.then_ ?_
        refine TC.region ?_
        refine TL.cons (TO.val rfl rfl rfl (Val.cmp rfl rfl run_add) ?_)
        refine TL.cons (TO.val rfl rfl rfl (Val.move rfl) ?_)
        refine TL.nil ?_
        exact fun a W hF hO => ⟨IntKind.i64.wrap (x5333 + 1), (o13261 :: ds5334), h, hF.sub ⟨rfl, rfl, rfl, rfl, rfl, trivial⟩, hO.selT (Ls := [Blk b6 [.slice A1 a0.length c2] 22, Blk b7 [.bool false] 4, Mk (o13261 :: ds5334)]) [2, 3, 4] 6 rfl rfl rfl⟩
       ·
        refine TC.block ?_
        intro a W hF hO
        have hS : ∃ (x14681 : Int), code_Program.l1 a0 y12205 (y12205.f1.length + 1) x14681 = some o15388 ∧ Fr 27 a [(0, .func (.yield o13260) #[] #[]), (8, .slice A12214 y12205.f1.length c12215), (9, .int .i64 (y12205.f1.length : Int)), (10, .int .i64 x14681)] ∧ Own G (Blk b12218 [.int .i64 y12205.f0, .slice A12214 y12205.f1.length c12215] 27 :: Blk b12227 [.int .i64 y12205.f0, .slice A12214 y12205.f1.length c12215] 27 :: Blk b6 [.slice A1 a0.length c2] 22 :: Blk b7 [.bool false] 4 :: Mk (o13261 :: ds5334) :: Ob o13260 (LoopO R13259 .ready none) :: L) W := by
         exact ⟨0, ho15388, hF.sub ⟨rfl, rfl, rfl, rfl, trivial⟩, hO.selT (Ls := [Blk b12218 [.int .i64 y12205.f0, .slice A12214 y12205.f1.length c12215] 27, Blk b12227 [.int .i64 y12205.f0, .slice A12214 y12205.f1.length c12215] 27, Blk b6 [.slice A1 a0.length c2] 22, Blk b7 [.bool false] 4, Mk (o13261 :: ds5334), Ob o13260 (LoopO R13259 .ready none)]) [3, 2, 4, 5, 0, 1] 6 rfl rfl rfl⟩
        clear hF hO ho15388
        refine TC.loop (fun n15389 a W => ∃ (x14681 : Int), code_Program.l1 a0 y12205 n15389 x14681 = some o15388 ∧ Fr 27 a [(0, .func (.yield o13260) #[] #[]), (8, .slice A12214 y12205.f1.length c12215), (9, .int .i64 (y12205.f1.length : Int)), (10, .int .i64 x14681)] ∧ Own G (Blk b12218 [.int .i64 y12205.f0, .slice A12214 y12205.f1.length c12215] 27 :: Blk b12227 [.int .i64 y12205.f0, .slice A12214 y12205.f1.length c12215] 27 :: Blk b6 [.slice A1 a0.length c2] 22 :: Blk b7 [.bool false] 4 :: Mk (o13261 :: ds5334) :: Ob o13260 (LoopO R13259 .ready none) :: L) W) ?_ ?_ hS
        ·
         rintro a W ⟨x14681, h, hF, hO⟩
         exact none_no h
        ·
         clear hS
         rintro n15389 a W ⟨x14681, h, hF, hO⟩
         rw [code_Program.l1] at h
         refine TC.use ?_ hF hO
         clear hF hO
         refine TC.seq ?_
         refine TC.region ?_
         refine TL.cons (TO.val rfl rfl rfl (Val.cmp rfl rfl run_lss) ?_)
         refine TL.nil ?_
         refine TQ.then_ ?_
         refine TC.seq ?_
         refine TC.cond_p rfl h (fun hc16094 h => ?_) (fun hc16094 h => ?_)
         ·
          refine TC.skip ?_
          refine TQ.then_ ?_
          refine TC.seq ?_
          refine TC.block ?_
          refine TC.seq ?_
          refine TC.region ?_
          obtain ⟨y16627, hx16628, h⟩ := bind_no h
          obtain ⟨ad16629, cs16635, hA16630, hi16631, hj16632, hcl16633, hK16634⟩ := Rd.at hr12216 hx16628
          obtain ⟨A16636, c16637, rfl, hr16638, hl16639⟩ := k37_openR hK16634
          refine TL.cons (TO.val rfl rfl rfl (Val.indexAddr Tryd.underlying25 fsz37 rfl hA16630 rfl hi16631 hj16632) ?_)
          refine TL.cons (TO.val rfl rfl rfl (Val.loadsS (cs := [.slice A16636 y16627.f0.length c16637, .int .i64 y16627.f1.f0, .int .i64 y16627.f1.f1, .int .i64 y16627.f1.f2, .int .i64 y16627.f1.f3]) agg37 fsz37 rfl rfl (Cl.sub (off := 0) (n := 5) hcl16633 rfl)) ?_)
          refine TL.cons (TL.alloc (cs := [.slice none 0 0, .int .i64 0, .int .i64 0, .int .i64 0, .int .i64 0]) rfl rfl zr37 rfl (fun b16640 => ?_))
          refine TL.cons (TL.store 0 (ds := [.slice A16636 y16627.f0.length c16637, .int .i64 y16627.f1.f0, .int .i64 y16627.f1.f1, .int .i64 y16627.f1.f2, .int .i64 y16627.f1.f3]) (cs' := [.slice A16636 y16627.f0.length c16637, .int .i64 y16627.f1.f0, .int .i64 y16627.f1.f1, .int .i64 y16627.f1.f2, .int .i64 y16627.f1.f3]) (L' := (Blk b16640 [.slice A16636 y16627.f0.length c16637, .int .i64 y16627.f1.f0, .int .i64 y16627.f1.f1, .int .i64 y16627.f1.f2, .int .i64 y16627.f1.f3] 37 :: Blk b12218 [.int .i64 y12205.f0, .slice A12214 y12205.f1.length c12215] 27 :: Blk b12227 [.int .i64 y12205.f0, .slice A12214 y12205.f1.length c12215] 27 :: Blk b6 [.slice A1 a0.length c2] 22 :: Blk b7 [.bool false] 4 :: Mk (o13261 :: ds5334) :: Ob o13260 (LoopO R13259 .ready none) :: L)) rfl fsz37 rfl rfl rfl rfl rfl (Nat.le_of_ble_eq_true rfl) rfl rfl ?_)
          refine TL.nil ?_
          refine TQ.then_ ?_
          refine TC.seq ?_
          refine TC.region ?_
          refine TL.cons (TO.val rfl rfl rfl (Val.fieldAddrB Tryd.underlying37 rfl fsz33 rfl rfl rfl) ?_)
          refine TL.cons (TO.val rfl rfl rfl (Val.loadB 0 agg33 rfl rfl rfl) ?_)
          refine TL.cons (TO.val rfl rfl rfl (Val.len Tryd.underlying33 rfl) ?_)
          refine TL.cons (TO.val rfl rfl rfl (Val.move rfl) ?_)
          refine TL.nil ?_
          refine TQ.then_ ?_
          obtain ⟨o17468, ho17468, ko17468⟩ := bind_no h
          clear h
          refine TC.tail (fun a W => (.inr ()) = o17468 ∧ Fr 27 a [(0, .func (.yield o13260) #[] #[]), (8, .slice A12214 y12205.f1.length c12215), (9, .int .i64 (y12205.f1.length : Int)), (10, .int .i64 x14681)] ∧ Own G (Blk b12218 [.int .i64 y12205.f0, .slice A12214 y12205.f1.length c12215] 27 :: Blk b12227 [.int .i64 y12205.f0, .slice A12214 y12205.f1.length c12215] 27 :: Blk b6 [.slice A1 a0.length c2] 22 :: Blk b7 [.bool false] 4 :: Mk (o13261 :: ds5334) :: Ob o13260 (LoopO R13259 .ready none) :: L) W) ?_ ?_
          ·
           rintro a W ⟨rfl, hF, hO⟩
           have h := ko17468
           clear ko17468 ho17468
           refine TQ.use ?_ hF hO
           clear hF hO
           refine TQ.inB ?_
           refine TQ.then_ ?_
           refine TC.region ?_
           refine TL.cons (TO.val rfl rfl rfl (Val.cmp rfl rfl run_add) ?_)
           refine TL.cons (TO.val rfl rfl rfl (Val.move rfl) ?_)
           refine TL.nil ?_
           exact fun a W hF hO => ⟨IntKind.i64.wrap (x14681 + 1), h, hF.sub ⟨rfl, rfl, rfl, rfl, trivial⟩, hO.selT (Ls := [Blk b12218 [.int .i64 y12205.f0, .slice A12214 y12205.f1.length c12215] 27, Blk b12227 [.int .i64 y12205.f0, .slice A12214 y12205.f1.length c12215] 27, Blk b6 [.slice A1 a0.length c2] 22, Blk b7 [.bool false] 4, Mk (o13261 :: ds5334), Ob o13260 (LoopO R13259 .ready none)]) [0, 1, 2, 3, 4, 5] 6 rfl rfl rfl⟩
          ·
           refine TC.block ?_
           intro a W hF hO
           have hS : ∃ (x17192 : Int), code_Program.l2 a0 y16627 (y16627.f0.length + 1) x17192 = some o17468 ∧ Fr 27 a [(0, .func (.yield o13260) #[] #[]), (8, .slice A12214 y12205.f1.length c12215), (9, .int .i64 (y12205.f1.length : Int)), (10, .int .i64 x14681), (15, .slice A16636 y16627.f0.length c16637), (16, .int .i64 (y16627.f0.length : Int)), (17, .int .i64 x17192)] ∧ Own G (Blk b12218 [.int .i64 y12205.f0, .slice A12214 y12205.f1.length c12215] 27 :: Blk b12227 [.int .i64 y12205.f0, .slice A12214 y12205.f1.length c12215] 27 :: Blk b6 [.slice A1 a0.length c2] 22 :: Blk b7 [.bool false] 4 :: Mk (o13261 :: ds5334) :: Ob o13260 (LoopO R13259 .ready none) :: L) W := by
            exact ⟨0, ho17468, hF.sub ⟨rfl, rfl, rfl, rfl, rfl, rfl, rfl, trivial⟩, hO.selT (Ls := [Blk b12218 [.int .i64 y12205.f0, .slice A12214 y12205.f1.length c12215] 27, Blk b12227 [.int .i64 y12205.f0, .slice A12214 y12205.f1.length c12215] 27, Blk b6 [.slice A1 a0.length c2] 22, Blk b7 [.bool false] 4, Mk (o13261 :: ds5334), Ob o13260 (LoopO R13259 .ready none)]) [1, 2, 3, 4, 5, 6] 7 rfl rfl rfl⟩
           clear hF hO ho17468
           refine TC.loop (fun n17469 a W => ∃ (x17192 : Int), code_Program.l2 a0 y16627 n17469 x17192 = some o17468 ∧ Fr 27 a [(0, .func (.yield o13260) #[] #[]), (8, .slice A12214 y12205.f1.length c12215), (9, .int .i64 (y12205.f1.length : Int)), (10, .int .i64 x14681), (15, .slice A16636 y16627.f0.length c16637), (16, .int .i64 (y16627.f0.length : Int)), (17, .int .i64 x17192)] ∧ Own G (Blk b12218 [.int .i64 y12205.f0, .slice A12214 y12205.f1.length c12215] 27 :: Blk b12227 [.int .i64 y12205.f0, .slice A12214 y12205.f1.length c12215] 27 :: Blk b6 [.slice A1 a0.length c2] 22 :: Blk b7 [.bool false] 4 :: Mk (o13261 :: ds5334) :: Ob o13260 (LoopO R13259 .ready none) :: L) W) ?_ ?_ hS
           ·
            rintro a W ⟨x17192, h, hF, hO⟩
            exact none_no h
           ·
            clear hS
            rintro n17469 a W ⟨x17192, h, hF, hO⟩
            rw [code_Program.l2] at h
            refine TC.use ?_ hF hO
            clear hF hO
            refine TC.seq ?_
            refine TC.region ?_
            refine TL.cons (TO.val rfl rfl rfl (Val.cmp rfl rfl run_lss) ?_)
            refine TL.nil ?_
            refine TQ.then_ ?_
            refine TC.seq ?_
            refine TC.cond_p rfl h (fun hc17745 h => ?_) (fun hc17745 h => ?_)
            ·
             refine TC.skip ?_
             refine TQ.then_ ?_
             refine TC.seq ?_
             refine TC.block ?_
             refine TC.seq ?_
             refine TC.region ?_
             obtain ⟨y17899, hx17900, h⟩ := bind_no h
             obtain ⟨ad17901, cs17907, hA17902, hi17903, hj17904, hcl17905, hK17906⟩ := Rd.at hr16638 hx17900
             obtain ⟨A17908, c17909, rfl, hr17910, hl17911⟩ := k40_openR hK17906
             refine TL.cons (TO.val rfl rfl rfl (Val.indexAddr Tryd.underlying33 fsz40 rfl hA17902 rfl hi17903 hj17904) ?_)
             refine TL.cons (TO.val rfl rfl rfl (Val.loadsS (cs := [.int .i64 y17899.f0, .int .i64 y17899.f1, .int .i64 y17899.f2, .int .i64 y17899.f3, .int .i64 y17899.f4, .slice A17908 y17899.f5.length c17909]) agg40 fsz40 rfl rfl (Cl.sub (off := 0) (n := 6) hcl17905 rfl)) ?_)
             refine TL.cons (TL.alloc (cs := [.int .i64 0, .int .i64 0, .int .i64 0, .int .i64 0, .int .i64 0, .slice none 0 0]) rfl rfl zr40 rfl (fun b17912 => ?_))
             refine TL.cons (TL.store 0 (ds := [.int .i64 y17899.f0, .int .i64 y17899.f1, .int .i64 y17899.f2, .int .i64 y17899.f3, .int .i64 y17899.f4, .slice A17908 y17899.f5.length c17909]) (cs' := [.int .i64 y17899.f0, .int .i64 y17899.f1, .int .i64 y17899.f2, .int .i64 y17899.f3, .int .i64 y17899.f4, .slice A17908 y17899.f5.length c17909]) (L' := (Blk b17912 [.int .i64 y17899.f0, .int .i64 y17899.f1, .int .i64 y17899.f2, .int .i64 y17899.f3, .int .i64 y17899.f4, .slice A17908 y17899.f5.length c17909] 40 :: Blk b12218 [.int .i64 y12205.f0, .slice A12214 y12205.f1.length c12215] 27 :: Blk b12227 [.int .i64 y12205.f0, .slice A12214 y12205.f1.length c12215] 27 :: Blk b6 [.slice A1 a0.length c2] 22 :: Blk b7 [.bool false] 4 :: Mk (o13261 :: ds5334) :: Ob o13260 (LoopO R13259 .ready none) :: L)) rfl fsz40 rfl rfl rfl rfl rfl (Nat.le_of_ble_eq_true rfl) rfl rfl ?_)
             refine TL.nil ?_
             refine TQ.then_ ?_
             refine TC.seq ?_
             refine TC.region ?_
             refine TL.cons (TO.val rfl rfl rfl (Val.move rfl) ?_)
             refine TL.cons (TO.val rfl rfl rfl (Val.loadsB 0 (cs := [.int .i64 y17899.f0, .int .i64 y17899.f1, .int .i64 y17899.f2, .int .i64 y17899.f3, .int .i64 y17899.f4, .slice A17908 y17899.f5.length c17909]) agg40 fsz40 rfl rfl rfl rfl) ?_)
             refine TL.cons (TO.yield 6 rfl rfl rfl rfl hp13263 ha13264 hb13265 rfl hf13266 rfl rfl (fun a17913 hf17914 => ?_))
             refine TC.region ?_
             refine TL.cons (TL.alloc (cs := [.int .i64 0, .int .i64 0, .int .i64 0, .int .i64 0, .int .i64 0, .slice none 0 0]) rfl rfl zr40 rfl (fun b17915 => ?_))
             refine TL.cons (TL.store 0 (ds := [.int .i64 y17899.f0, .int .i64 y17899.f1, .int .i64 y17899.f2, .int .i64 y17899.f3, .int .i64 y17899.f4, .slice A17908 y17899.f5.length c17909]) (cs' := [.int .i64 y17899.f0, .int .i64 y17899.f1, .int .i64 y17899.f2, .int .i64 y17899.f3, .int .i64 y17899.f4, .slice A17908 y17899.f5.length c17909]) (L' := (Blk b17915 [.int .i64 y17899.f0, .int .i64 y17899.f1, .int .i64 y17899.f2, .int .i64 y17899.f3, .int .i64 y17899.f4, .slice A17908 y17899.f5.length c17909] 40 :: Blk b17912 [.int .i64 y17899.f0, .int .i64 y17899.f1, .int .i64 y17899.f2, .int .i64 y17899.f3, .int .i64 y17899.f4, .slice A17908 y17899.f5.length c17909] 40 :: Blk b12218 [.int .i64 y12205.f0, .slice A12214 y12205.f1.length c12215] 27 :: Blk b12227 [.int .i64 y12205.f0, .slice A12214 y12205.f1.length c12215] 27 :: Blk b6 [.slice A1 a0.length c2] 22 :: Blk b7 [.bool false] 4 :: Mk (o13261 :: ds5334) :: Ob o13260 (LoopO R13259 .ready none) :: L)) rfl fsz40 rfl rfl rfl rfl rfl (Nat.le_of_ble_eq_true rfl) rfl rfl ?_)
             refine TL.nil ?_
             refine TQ.begin (L' := (Blk b17915 [.int .i64 y17899.f0, .int .i64 y17899.f1, .int .i64 y17899.f2, .int .i64 y17899.f3, .int .i64 y17899.f4, .slice A17908 y17899.f5.length c17909] 40 :: Blk b17912 [.int .i64 y17899.f0, .int .i64 y17899.f1, .int .i64 y17899.f2, .int .i64 y17899.f3, .int .i64 y17899.f4, .slice A17908 y17899.f5.length c17909] 40 :: Blk b12218 [.int .i64 y12205.f0, .slice A12214 y12205.f1.length c12215] 27 :: Blk b12227 [.int .i64 y12205.f0, .slice A12214 y12205.f1.length c12215] 27 :: Blk b6 [.slice A1 a0.length c2] 22 :: Blk b7 [.bool false] 4 :: Mk (o13261 :: ds5334) :: Ob o13260 (LoopO R13259 .busy none) :: L)) 7 rfl rfl ?_
             refine TC.block ?_
             refine TC.seq ?_
             obtain ⟨j18017, hj18017, h⟩ := jn_no h
             refine TC.tail (fun a W => ∃ (x18016 : Bool), j18017 x18016 = some o17468 ∧ Fr 47 a [(2, .pointer (some ⟨b7, 0, none⟩)), (45, .bool x18016)] ∧ Own G (Blk b12218 [.int .i64 y12205.f0, .slice A12214 y12205.f1.length c12215] 27 :: Blk b12227 [.int .i64 y12205.f0, .slice A12214 y12205.f1.length c12215] 27 :: Blk b17912 [.int .i64 y17899.f0, .int .i64 y17899.f1, .int .i64 y17899.f2, .int .i64 y17899.f3, .int .i64 y17899.f4, .slice A17908 y17899.f5.length c17909] 40 :: Blk b6 [.slice A1 a0.length c2] 22 :: Blk b7 [.bool false] 4 :: Mk (o13261 :: ds5334) :: Ob o13260 (LoopO R13259 .busy none) :: L) W) ?_ ?_
             ·
              rintro a W ⟨x18016, h, hF, hO⟩
              rw [hj18017] at h
              refine TQ.use ?_ hF hO
              clear hF hO
              refine TQ.then_ ?_
              refine TC.cond_b rfl h (fun hc18019 h => ?_) (fun hc18019 h => ?_)
              ·
               refine TC.seq ?_
               refine TC.region ?_
               refine TL.cons (TL.store 4 (ds := [.bool false]) (cs' := [.bool false]) (L' := (Blk b12218 [.int .i64 y12205.f0, .slice A12214 y12205.f1.length c12215] 27 :: Blk b12227 [.int .i64 y12205.f0, .slice A12214 y12205.f1.length c12215] 27 :: Blk b17912 [.int .i64 y17899.f0, .int .i64 y17899.f1, .int .i64 y17899.f2, .int .i64 y17899.f3, .int .i64 y17899.f4, .slice A17908 y17899.f5.length c17909] 40 :: Blk b6 [.slice A1 a0.length c2] 22 :: Blk b7 [.bool false] 4 :: Mk (o13261 :: ds5334) :: Ob o13260 (LoopO R13259 .busy none) :: L)) rfl fsz4 rfl rfl rfl rfl rfl (Nat.le_of_ble_eq_true rfl) rfl rfl ?_)
               refine TL.nil ?_
               refine TQ.then_ ?_
               refine TC.ret ?_
               refine TQ.inBR ?_
               refine TQ.roundR (L' := (Blk b12218 [.int .i64 y12205.f0, .slice A12214 y12205.f1.length c12215] 27 :: Blk b12227 [.int .i64 y12205.f0, .slice A12214 y12205.f1.length c12215] 27 :: Blk b17912 [.int .i64 y17899.f0, .int .i64 y17899.f1, .int .i64 y17899.f2, .int .i64 y17899.f3, .int .i64 y17899.f4, .slice A17908 y17899.f5.length c17909] 40 :: Blk b6 [.slice A1 a0.length c2] 22 :: Blk b7 [.bool false] 4 :: Mk (o13261 :: ds5334) :: Ob o13260 (LoopO R13259 .done (some .ret)) :: L)) 6 rfl rfl (After.mk hf17914 rfl ?_)
               refine TL.cons (TO.val rfl rfl rfl (Val.not_ rfl) ?_)
               refine TL.nil ?_
               refine TQ.then_ ?_
               refine TC.condT rfl ?_
               refine TC.ret ?_
               refine TQ.inBR ?_
               refine TQ.thenR ?_
               refine TQ.thenR ?_
               refine TQ.inBR ?_
               refine TQ.thenR ?_
               refine TQ.inBR ?_
               refine TQ.thenR ?_
               refine TQ.thenR ?_
               refine TQ.inBR ?_
               refine TQ.thenR ?_
               refine TQ.fin (v := .tuple #[]) (.inl rfl) rfl Tryd.results77 .nil rfl (RangeP.ret (L' := (Blk b12218 [.int .i64 y12205.f0, .slice A12214 y12205.f1.length c12215] 27 :: Blk b12227 [.int .i64 y12205.f0, .slice A12214 y12205.f1.length c12215] 27 :: Blk b17912 [.int .i64 y17899.f0, .int .i64 y17899.f1, .int .i64 y17899.f2, .int .i64 y17899.f3, .int .i64 y17899.f4, .slice A17908 y17899.f5.length c17909] 40 :: Blk b6 [.slice A1 a0.length c2] 22 :: Blk b7 [.bool false] 4 :: Mk (o13261 :: ds5334) :: Emp :: L)) 6 hf13267 rfl rfl rfl ?_)
               refine TQ.inBR ?_
               refine TQ.inBR ?_
               refine TQ.thenR ?_
               refine TQ.thenR ?_
               refine TQ.inBR ?_
               refine TQ.thenR ?_
               refine TQ.thenR ?_
               refine TQ.finL (ds := List.map mark (o13261 :: ds5334)) (.inl rfl) rfl (fun a_ hx18020 => ?_)
               refine Lv.marks (L' := (Blk b12218 [.int .i64 y12205.f0, .slice A12214 y12205.f1.length c12215] 27 :: Blk b12227 [.int .i64 y12205.f0, .slice A12214 y12205.f1.length c12215] 27 :: Blk b17912 [.int .i64 y17899.f0, .int .i64 y17899.f1, .int .i64 y17899.f2, .int .i64 y17899.f3, .int .i64 y17899.f4, .slice A17908 y17899.f5.length c17909] 40 :: Blk b6 [.slice A1 a0.length c2] 22 :: Blk b7 [.bool false] 4 :: Emp :: Emp :: L)) 5 rfl rfl ?_
               obtain rfl := Option.some.inj h
               have h := ko17468
               obtain rfl := Option.some.inj h
               have h := ko15388
               obtain rfl := Option.some.inj h
               have h := ko7986
               obtain rfl := Option.some.inj h
               exact Lv.nil hx18020 Tryd.results14 (.cell 4 rfl rfl agg4 rfl .nil) rfl (FRel.mk (Ls := []) [] 7 (Gd.le.refl _) rfl rfl rfl ⟨rfl, rfl, rfl⟩)
              ·
               refine TC.skip ?_
               refine TQ.inB ?_
               refine TQ.roundN (L' := (Blk b12218 [.int .i64 y12205.f0, .slice A12214 y12205.f1.length c12215] 27 :: Blk b12227 [.int .i64 y12205.f0, .slice A12214 y12205.f1.length c12215] 27 :: Blk b17912 [.int .i64 y17899.f0, .int .i64 y17899.f1, .int .i64 y17899.f2, .int .i64 y17899.f3, .int .i64 y17899.f4, .slice A17908 y17899.f5.length c17909] 40 :: Blk b6 [.slice A1 a0.length c2] 22 :: Blk b7 [.bool false] 4 :: Mk (o13261 :: ds5334) :: Ob o13260 (LoopO R13259 .ready none) :: L)) 6 rfl rfl (After.mk hf17914 rfl ?_)
               refine TL.cons (TO.val rfl rfl rfl (Val.not_ rfl) ?_)
               refine TL.nil ?_
               refine TQ.then_ ?_
               refine TC.condF rfl ?_
               refine TC.skip ?_
               refine TQ.inB ?_
               refine TQ.then_ ?_
               refine TC.region ?_
               refine TL.cons (TO.val rfl rfl rfl (Val.cmp rfl rfl run_add) ?_)
               refine TL.cons (TO.val rfl rfl rfl (Val.move rfl) ?_)
               refine TL.nil ?_
               exact fun a W hF hO => ⟨IntKind.i64.wrap (x17192 + 1), h, hF.sub ⟨rfl, rfl, rfl, rfl, rfl, rfl, rfl, trivial⟩, hO.selT (Ls := [Blk b12218 [.int .i64 y12205.f0, .slice A12214 y12205.f1.length c12215] 27, Blk b12227 [.int .i64 y12205.f0, .slice A12214 y12205.f1.length c12215] 27, Blk b6 [.slice A1 a0.length c2] 22, Blk b7 [.bool false] 4, Mk (o13261 :: ds5334), Ob o13260 (LoopO R13259 .ready none)]) [0, 1, 3, 4, 5, 6] 7 rfl rfl rfl⟩
             ·
              refine TC.regionAny [] [0, 1, 2, 3, 4, 5, 6, 7, 8, 9, 10, 11, 12, 13, 14] mixed (by kernel_rfl) ?_
              refine TA.take 0 rfl (by kernel_rfl) rfl (PQ.then_ (PQ.then_ (PQ.inB PQ.round))) rfl (Val.fieldAddrB Tryd.underlying40 rfl fsz3 rfl rfl rfl) (fun W hO => hO) ?_
              refine TA.take 1 rfl (by kernel_rfl) rfl (PQ.then_ (PQ.then_ (PQ.inB PQ.round))) rfl (Val.loadB 0 agg3 rfl rfl rfl) (fun W hO => hO) ?_
              refine TA.take 2 rfl (by kernel_rfl) rfl (PQ.then_ (PQ.then_ (PQ.inB PQ.round))) rfl (Val.cmp rfl rfl run_eql) (fun W hO => hO) ?_
              refine TA.take 3 rfl (by kernel_rfl) rfl (PQ.then_ (PQ.then_ (PQ.inB PQ.round))) rfl (Val.move rfl) (fun W hO => hO) ?_
              refine TK.split (p := y17899.f0 = 7) h (fun hg18037 h => ?_) (fun hg18037 h => ?_)
              ·
               have hk18038 : decide (y17899.f0 = 7) = true := decide_eq_true hg18037
               refine TA.take 4 rfl (by kernel_rfl) rfl (PQ.then_ (PQ.then_ (PQ.inB PQ.round))) (Wt.yes rfl rfl rfl hk18038) (Val.fieldAddrB Tryd.underlying40 rfl fsz38 rfl rfl rfl) (fun W hO => hO) ?_
               refine TA.take 5 rfl (by kernel_rfl) rfl (PQ.then_ (PQ.then_ (PQ.inB PQ.round))) (Wt.yes rfl rfl rfl hk18038) (Val.loadB 0 agg38 rfl rfl rfl) (fun W hO => hO) ?_
               refine TA.take 6 rfl (by kernel_rfl) rfl (PQ.then_ (PQ.then_ (PQ.inB PQ.round))) (Wt.yes rfl rfl rfl hk18038) (Val.len Tryd.underlying38 rfl) (fun W hO => hO) ?_
               refine TA.take 7 rfl (by kernel_rfl) rfl (PQ.then_ (PQ.then_ (PQ.inB PQ.round))) (Wt.yes rfl rfl rfl hk18038) (Val.loadB 4 agg22 rfl rfl rfl) (fun W hO => hO) ?_
               refine TA.take 8 rfl (by kernel_rfl) rfl (PQ.then_ (PQ.then_ (PQ.inB PQ.round))) (Wt.yes rfl rfl rfl hk18038) (Val.fieldAddrB Tryd.underlying40 rfl fsz3 rfl rfl rfl) (fun W hO => hO) ?_
               refine TA.take 9 rfl (by kernel_rfl) rfl (PQ.then_ (PQ.then_ (PQ.inB PQ.round))) (Wt.yes rfl rfl rfl hk18038) (Val.loadB 0 agg3 rfl rfl rfl) (fun W hO => hO) ?_
               obtain ⟨y18039, hx18040, h⟩ := bind_no h
               obtain ⟨ad18041, cs18047, hA18042, hi18043, hj18044, hcl18045, hK18046⟩ := Rd.at hr3 hx18040
               obtain ⟨A18048, c18049, rfl, hr18050, hl18051⟩ := k27_openR hK18046
               refine TA.take 10 rfl (by kernel_rfl) rfl (PQ.then_ (PQ.then_ (PQ.inB PQ.round))) (Wt.yes rfl rfl rfl hk18038) (Val.indexAddr Tryd.underlying22 fsz27 rfl hA18042 rfl hi18043 hj18044) (fun W hO => hO) ?_
               refine TA.take 11 rfl (by kernel_rfl) rfl (PQ.then_ (PQ.then_ (PQ.inB PQ.round))) (Wt.yes rfl rfl rfl hk18038) (Val.fieldAddrE Tryd.underlying27 rfl fsz3 rfl rfl) (fun W hO => hO) ?_
               refine TA.take 12 rfl (by kernel_rfl) rfl (PQ.then_ (PQ.then_ (PQ.inB PQ.round))) (Wt.yes rfl rfl rfl hk18038) (Val.loadS agg3 rfl (hcl18045 0 _ rfl)) (fun W hO => hO) ?_
               refine TA.take 13 rfl (by kernel_rfl) rfl (PQ.then_ (PQ.then_ (PQ.inB PQ.round))) (Wt.yes rfl rfl rfl hk18038) (Val.cmp rfl rfl run_neq) (fun W hO => hO) ?_
               refine TA.take 14 rfl (by kernel_rfl) rfl (PQ.then_ (PQ.then_ (PQ.inB PQ.round))) rfl (Val.pickY rfl hk18038 rfl) (fun W hO => hO) ?_
               refine TA.done (by kernel_rfl) ?_
               exact fun a W hF hO => ⟨(!decide ((y17899.f5.length : Int) = y18039.f0)), h, hF.sub ⟨rfl, rfl, trivial⟩, hO.selT (Ls := [Blk b12218 [.int .i64 y12205.f0, .slice A12214 y12205.f1.length c12215] 27, Blk b12227 [.int .i64 y12205.f0, .slice A12214 y12205.f1.length c12215] 27, Blk b17912 [.int .i64 y17899.f0, .int .i64 y17899.f1, .int .i64 y17899.f2, .int .i64 y17899.f3, .int .i64 y17899.f4, .slice A17908 y17899.f5.length c17909] 40, Blk b6 [.slice A1 a0.length c2] 22, Blk b7 [.bool false] 4, Mk (o13261 :: ds5334), Ob o13260 (LoopO R13259 .busy none)]) [2, 3, 1, 4, 5, 6, 7] 8 rfl rfl rfl⟩
              ·
               have hk18052 : decide (y17899.f0 = 7) = false := decide_eq_false hg18037
               refine TA.not 4 rfl (by kernel_rfl) rfl (PQ.then_ (PQ.then_ (PQ.inB PQ.round))) (Wt.no rfl rfl rfl hk18052) (fun W hO => hO) ?_
               refine TA.not 5 rfl (by kernel_rfl) rfl (PQ.then_ (PQ.then_ (PQ.inB PQ.round))) (Wt.no rfl rfl rfl hk18052) (fun W hO => hO) ?_
               refine TA.not 6 rfl (by kernel_rfl) rfl (PQ.then_ (PQ.then_ (PQ.inB PQ.round))) (Wt.no rfl rfl rfl hk18052) (fun W hO => hO) ?_
               refine TA.not 7 rfl (by kernel_rfl) rfl (PQ.then_ (PQ.then_ (PQ.inB PQ.round))) (Wt.no rfl rfl rfl hk18052) (fun W hO => hO) ?_
               refine TA.not 8 rfl (by kernel_rfl) rfl (PQ.then_ (PQ.then_ (PQ.inB PQ.round))) (Wt.no rfl rfl rfl hk18052) (fun W hO => hO) ?_
               refine TA.not 9 rfl (by kernel_rfl) rfl (PQ.then_ (PQ.then_ (PQ.inB PQ.round))) (Wt.no rfl rfl rfl hk18052) (fun W hO => hO) ?_
               refine TA.not 10 rfl (by kernel_rfl) rfl (PQ.then_ (PQ.then_ (PQ.inB PQ.round))) (Wt.no rfl rfl rfl hk18052) (fun W hO => hO) ?_
               refine TA.not 11 rfl (by kernel_rfl) rfl (PQ.then_ (PQ.then_ (PQ.inB PQ.round))) (Wt.no rfl rfl rfl hk18052) (fun W hO => hO) ?_
               refine TA.not 12 rfl (by kernel_rfl) rfl (PQ.then_ (PQ.then_ (PQ.inB PQ.round))) (Wt.no rfl rfl rfl hk18052) (fun W hO => hO) ?_
               refine TA.not 13 rfl (by kernel_rfl) rfl (PQ.then_ (PQ.then_ (PQ.inB PQ.round))) (Wt.no rfl rfl rfl hk18052) (fun W hO => hO) ?_
               refine TA.take 14 rfl (by kernel_rfl) rfl (PQ.then_ (PQ.then_ (PQ.inB PQ.round))) rfl (Val.pickN rfl hk18052 rfl) (fun W hO => hO) ?_
               refine TA.done (by kernel_rfl) ?_
               exact fun a W hF hO => ⟨false, h, hF.sub ⟨rfl, rfl, trivial⟩, hO.selT (Ls := [Blk b12218 [.int .i64 y12205.f0, .slice A12214 y12205.f1.length c12215] 27, Blk b12227 [.int .i64 y12205.f0, .slice A12214 y12205.f1.length c12215] 27, Blk b17912 [.int .i64 y17899.f0, .int .i64 y17899.f1, .int .i64 y17899.f2, .int .i64 y17899.f3, .int .i64 y17899.f4, .slice A17908 y17899.f5.length c17909] 40, Blk b6 [.slice A1 a0.length c2] 22, Blk b7 [.bool false] 4, Mk (o13261 :: ds5334), Ob o13260 (LoopO R13259 .busy none)]) [2, 3, 1, 4, 5, 6, 7] 8 rfl rfl rfl⟩
            ·
             refine TC.exit ?_
             refine TQ.thenX ?_
             refine TQ.thenX ?_
             refine TQ.inBX ?_
             exact fun a W hF hO => ⟨Option.some.inj h, hF.sub ⟨rfl, rfl, rfl, rfl, trivial⟩, hO.selT (Ls := [Blk b12218 [.int .i64 y12205.f0, .slice A12214 y12205.f1.length c12215] 27, Blk b12227 [.int .i64 y12205.f0, .slice A12214 y12205.f1.length c12215] 27, Blk b6 [.slice A1 a0.length c2] 22, Blk b7 [.bool false] 4, Mk (o13261 :: ds5334), Ob o13260 (LoopO R13259 .ready none)]) [0, 1, 2, 3, 4, 5] 6 rfl rfl rfl⟩
         ·
          refine TC.exit ?_
          refine TQ.thenX ?_
          refine TQ.thenX ?_
          refine TQ.inBX ?_
          exact fun a W hF hO => ⟨Option.some.inj h, hF.sub trivial, hO.selT (Ls := [Blk b12218 [.int .i64 y12205.f0, .slice A12214 y12205.f1.length c12215] 27, Blk b12227 [.int .i64 y12205.f0, .slice A12214 y12205.f1.length c12215] 27, Blk b6 [.slice A1 a0.length c2] 22, Blk b7 [.bool false] 4, Mk (o13261 :: ds5334), Ob o13260 (LoopO R13259 .ready none)]) [0, 1, 2, 3, 4, 5] 6 rfl rfl rfl⟩
     ·
      refine TC.exit ?_
      refine TQ.thenX ?_
      refine TQ.thenX ?_
      refine TQ.inBX ?_
      exact fun a W hF hO => ⟨ds5334, Option.some.inj h, hF.sub ⟨rfl, trivial⟩, hO.selT (Ls := [Blk b7 [.bool false] 4, Mk ds5334]) [1, 2] 3 rfl rfl rfl⟩
 ·
  refine TC.region ?_
  refine TL.cons (TO.val rfl rfl rfl (Val.loadB 1 agg22 rfl rfl rfl) ?_)
  refine TL.cons (TO.val rfl rfl rfl (Val.len Tryd.underlying22 rfl) ?_)
  obtain ⟨y18053, hy18054, h⟩ := bind_no h
  refine TL.cons (TL.callV (Lin := []) (args := [.int .i64 (a0.length : Int), .int .i64 1, .int .i64 256]) rfl rfl rfl hbd45 rfl rfl (code_within.calls (a0 := (a0.length : Int)) (a1 := 1) (a2 := 256) hy18054) rfl ?_)
  rintro _ _ _ _ ⟨rfl, rfl, rfl⟩
  refine TL.cons (TO.val rfl rfl rfl (Val.not_ rfl) ?_)
  refine TL.cons (TO.val rfl rfl rfl (Val.move rfl) ?_)
  refine TK.split (p := (!y18053) = true) h (fun hg18055 h => ?_) (fun hg18055 h => ?_)
  ·
   have hk18056 : (!y18053) = true := hg18055
   refine TL.cons (TL.not (Wt.no rfl rfl rfl hk18056) rfl ?_)
   refine TL.cons (TL.not (Wt.no rfl rfl rfl hk18056) rfl ?_)
   refine TL.cons (TL.not (Wt.no rfl rfl rfl hk18056) rfl ?_)
   refine TL.cons (TL.not (Wt.no rfl rfl rfl hk18056) rfl ?_)
   refine TL.cons (TL.not (Wt.no rfl rfl rfl hk18056) rfl ?_)
   refine TL.cons (TO.val rfl rfl rfl (Val.pickY rfl hk18056 rfl) ?_)
   refine TL.nil ?_
   exact fun a W hF hO => ⟨true, h, hF.sub ⟨rfl, rfl, rfl, trivial⟩, hO.selT (Ls := [Blk b6 [.slice A1 a0.length c2] 22, Blk b7 [.bool false] 4, Mk []]) [1, 0, 2] 3 rfl rfl rfl⟩
  ·
   have hk18057 : (!y18053) = false := (by simpa using hg18055)
   refine TL.cons (TO.val (Wt.yes rfl rfl rfl hk18057) rfl rfl (Val.loadB 1 agg22 rfl rfl rfl) ?_)
   obtain ⟨y18058, hx18059, h⟩ := bind_no h
   obtain ⟨ad18060, cs18066, hA18061, hi18062, hj18063, hcl18064, hK18065⟩ := Rd.at hr3 hx18059
   obtain ⟨A18067, c18068, rfl, hr18069, hl18070⟩ := k27_openR hK18065
   refine TL.cons (TO.val (Wt.yes rfl rfl rfl hk18057) rfl rfl (Val.indexAddr Tryd.underlying22 fsz27 rfl hA18061 rfl hi18062 hj18063) ?_)
   refine TL.cons (TO.val (Wt.yes rfl rfl rfl hk18057) rfl rfl (Val.fieldAddrE Tryd.underlying27 rfl fsz3 rfl rfl) ?_)
   refine TL.cons (TO.val (Wt.yes rfl rfl rfl hk18057) rfl rfl (Val.loadS agg3 rfl (hcl18064 0 _ rfl)) ?_)
   refine TL.cons (TO.val (Wt.yes rfl rfl rfl hk18057) rfl rfl (Val.cmp rfl rfl run_neq) ?_)
   refine TL.cons (TO.val rfl rfl rfl (Val.pickN rfl hk18057 rfl) ?_)
   refine TL.nil ?_
   exact fun a W hF hO => ⟨(!decide (y18058.f0 = 0)), h, hF.sub ⟨rfl, rfl, rfl, trivial⟩, hO.selT (Ls := [Blk b6 [.slice A1 a0.length c2] 22, Blk b7 [.bool false] 4, Mk []]) [1, 0, 2] 3 rfl rfl rfl⟩
end Go.Proofs.YtmacdhkfgoahcaaDoor.Sy
set_option linter.unusedVariables false
set_option linter.unusedSimpArgs false
set_option maxRecDepth 100000
set_option maxHeartbeats 4000000
namespace Go.Proofs.YtmacdhkfgoahcaaDoor.Sy
open Go Go.RowKit Go.Proofs.YtmacdhkfgoahcaaDoorW.PrintWords 
def code_Sets.f (a0 : S40) : Option Int := (code_shapeOf.f a0.f0).bind fun (y6 : (S70 × Bool)) => (if (!y6.1.f0) = true then some 0 else some a0.f1)
def code_Sets.post (G : Gd) (r : Int) (v : Value) (G' : Gd) (Lr : List Ch) : Prop := G = G' ∧ v = .int .i64 r ∧ Lr = []
theorem code_Sets.calls {G : Gd} {r : Int} {a0 : S40} {A1 : Option Addr} {c2 : Nat} (hr3 : Rd G (Kd.int .i64) A1 a0.f5) (hl4 : a0.f5.length ≤ c2) (h : code_Sets.f a0 = some r) : Fn Tryd.prog 18 G [] [.agg #[.int .i64 a0.f0, .int .i64 a0.f1, .int .i64 a0.f2, .int .i64 a0.f3, .int .i64 a0.f4, .slice A1 a0.f5.length c2]] (code_Sets.post G r) := by
 refine Fn.intro (e := [(0, .agg #[.int .i64 a0.f0, .int .i64 a0.f1, .int .i64 a0.f2, .int .i64 a0.f3, .int .i64 a0.f4, .slice A1 a0.f5.length c2])]) 16 Tryd.func18 rfl Tryd.ntmps18 rfl rfl (Nat.le_of_ble_eq_true rfl) (fun L => ?_)
 unfold code_Sets.f at h
 refine TC.seq ?_
 refine TC.region ?_
 refine TL.cons (TL.box (cs := [.int .i64 a0.f0, .int .i64 a0.f1, .int .i64 a0.f2, .int .i64 a0.f3, .int .i64 a0.f4, .slice A1 a0.f5.length c2]) rfl rfl rfl rfl (fun b5 => ?_))
 refine TL.cons (TO.val rfl rfl rfl (Val.assign rfl) ?_)
 refine TL.nil ?_
 refine TQ.then_ ?_
 refine TC.seq ?_
 refine TC.seq ?_
 refine TC.region ?_
 refine TL.cons (TO.val rfl rfl rfl (Val.fieldAddrB Tryd.underlying40 rfl fsz3 rfl rfl rfl) ?_)
 refine TL.cons (TO.val rfl rfl rfl (Val.loadB 0 agg3 rfl rfl rfl) ?_)
 obtain ⟨y6, hy7, h⟩ := bind_no h
 refine TL.cons (TL.callV (Lin := []) (args := [.int .i64 a0.f0]) rfl rfl rfl hbd50 rfl rfl (code_shapeOf.calls (a0 := a0.f0) hy7) rfl ?_)
 rintro _ _ _ _ ⟨rfl, rfl, rfl⟩
 refine TL.cons (TO.val rfl rfl rfl (Val.move rfl) ?_)
 refine TL.cons (TO.val rfl rfl rfl (Val.extract rfl rfl) ?_)
 refine TL.cons (TO.val rfl rfl rfl (Val.extract rfl rfl) ?_)
 refine TL.cons (TL.alloc (cs := [.bool false, .bool false, .bool false, .bool false]) rfl rfl zr70 rfl (fun b8 => ?_))
 refine TL.cons (TL.store 0 (ds := [.bool y6.1.f0, .bool y6.1.f1, .bool y6.1.f2, .bool y6.1.f3]) (cs' := [.bool y6.1.f0, .bool y6.1.f1, .bool y6.1.f2, .bool y6.1.f3]) (L' := (Blk b8 [.bool y6.1.f0, .bool y6.1.f1, .bool y6.1.f2, .bool y6.1.f3] 70 :: Blk b5 [.int .i64 a0.f0, .int .i64 a0.f1, .int .i64 a0.f2, .int .i64 a0.f3, .int .i64 a0.f4, .slice A1 a0.f5.length c2] 40 :: L)) rfl fsz70 rfl rfl rfl rfl rfl (Nat.le_of_ble_eq_true rfl) rfl rfl ?_)
 refine TL.cons (TO.val rfl rfl rfl (Val.assign rfl) ?_)
 refine TL.nil ?_
 refine TQ.then_ ?_
 refine TC.seq ?_
 refine TC.region ?_
 refine TL.cons (TO.val rfl rfl rfl (Val.fieldAddrB Tryd.underlying70 rfl fsz4 rfl rfl rfl) ?_)
 refine TL.cons (TO.val rfl rfl rfl (Val.loadB 0 agg4 rfl rfl rfl) ?_)
 refine TL.cons (TO.val rfl rfl rfl (Val.not_ rfl) ?_)
 refine TL.nil ?_
 refine TQ.then_ ?_
 refine TC.cond_b rfl h (fun hc10 h => ?_) (fun hc10 h => ?_)
 ·
  refine TC.seq ?_
  refine TC.region ?_
  refine TL.cons (TO.val rfl rfl rfl (Val.assign rfl) ?_)
  refine TL.nil ?_
  refine TQ.then_ ?_
  refine TC.ret ?_
  refine TQ.thenR ?_
  obtain rfl := Option.some.inj h
  exact TQ.fin (.inl rfl) rfl Tryd.results18 (.tmp rfl .nil) rfl (FRel.mk (Ls := []) [] 2 (Gd.le.refl _) rfl rfl rfl ⟨rfl, rfl, rfl⟩)
 ·
  refine TC.skip ?_
  refine TQ.then_ ?_
  refine TC.seq ?_
  refine TC.region ?_
  refine TL.cons (TO.val rfl rfl rfl (Val.fieldAddrB Tryd.underlying40 rfl fsz3 rfl rfl rfl) ?_)
  refine TL.cons (TO.val rfl rfl rfl (Val.loadB 1 agg3 rfl rfl rfl) ?_)
  refine TL.cons (TO.val rfl rfl rfl (Val.assign rfl) ?_)
  refine TL.nil ?_
  refine TQ.then_ ?_
  refine TC.ret ?_
  obtain rfl := Option.some.inj h
  exact TQ.fin (.inl rfl) rfl Tryd.results18 (.tmp rfl .nil) rfl (FRel.mk (Ls := []) [] 2 (Gd.le.refl _) rfl rfl rfl ⟨rfl, rfl, rfl⟩)
end Go.Proofs.YtmacdhkfgoahcaaDoor.Sy
set_option linter.unusedVariables false
set_option linter.unusedSimpArgs false
set_option maxRecDepth 100000
set_option maxHeartbeats 4000000
namespace Go.Proofs.YtmacdhkfgoahcaaDoor.Sy
open Go Go.RowKit Go.Proofs.YtmacdhkfgoahcaaDoorW.PrintWords 
def code_Uses.f (a0 : S40) : Option (List Int) := (code_shapeOf.f a0.f0).bind fun (y6 : (S70 × Bool)) => jn (γ := (List Int)) (fun (x12 : Bool) => jn (γ := (List Int)) (fun (l20 : (List Int)) => jn (γ := (List Int)) (fun (x28 : Bool) => jn (γ := (List Int)) (fun (l35 : (List Int)) => jn (γ := (List Int)) (fun (l44 : (List Int)) => some l44) (fun (j48 : ((List Int) → Option (List Int))) => (if a0.f0 = 7 then (if l35.length + a0.f5.length ≤ 17592186044416 then j48 (l35 ++ a0.f5) else none) else j48 l35))) (fun (j39 : ((List Int) → Option (List Int))) => (if x28 = true then (if l20.length < 17592186044416 then j39 (l20 ++ [a0.f3]) else none) else j39 l20))) (fun (j29 : (Bool → Option (List Int))) => (if y6.2 = true then j29 y6.1.f2 else j29 false))) (fun (j24 : ((List Int) → Option (List Int))) => (if x12 = true then (if ([] : List Int).length < 17592186044416 then j24 (([] : List Int) ++ [a0.f2]) else none) else j24 []))) (fun (j13 : (Bool → Option (List Int))) => (if y6.2 = true then j13 y6.1.f1 else j13 false))
def code_Uses.post (G : Gd) (r : (List Int)) (v : Value) (G' : Gd) (Lr : List Ch) : Prop := G = G' ∧ ∃ (A_1 : Option Addr) (c_1 : Nat), v = .slice A_1 r.length c_1 ∧ Lr = [Row (Kd.int .i64) 3 (.slice A_1 r.length c_1) r]
theorem code_Uses.calls {G : Gd} {r : (List Int)} {a0 : S40} {A1 : Option Addr} {c2 : Nat} (hr3 : Rd G (Kd.int .i64) A1 a0.f5) (hl4 : a0.f5.length ≤ c2) (h : code_Uses.f a0 = some r) : Fn Tryd.prog 19 G [] [.agg #[.int .i64 a0.f0, .int .i64 a0.f1, .int .i64 a0.f2, .int .i64 a0.f3, .int .i64 a0.f4, .slice A1 a0.f5.length c2]] (code_Uses.post G r) := by
 refine Fn.intro (e := [(0, .agg #[.int .i64 a0.f0, .int .i64 a0.f1, .int .i64 a0.f2, .int .i64 a0.f3, .int .i64 a0.f4, .slice A1 a0.f5.length c2])]) 40 Tryd.func19 rfl Tryd.ntmps19 rfl rfl (Nat.le_of_ble_eq_true rfl) (fun L => ?_)
 unfold code_Uses.f at h
 refine TC.seq ?_
 refine TC.region ?_
 refine TL.cons (TL.box (cs := [.int .i64 a0.f0, .int .i64 a0.f1, .int .i64 a0.f2, .int .i64 a0.f3, .int .i64 a0.f4, .slice A1 a0.f5.length c2]) rfl rfl rfl rfl (fun b5 => ?_))
 refine TL.cons (TO.val rfl rfl rfl (Val.assign rfl) ?_)
 refine TL.nil ?_
 refine TQ.then_ ?_
 refine TC.seq ?_
 refine TC.region ?_
 refine TL.cons (TO.val rfl rfl rfl (Val.fieldAddrB Tryd.underlying40 rfl fsz3 rfl rfl rfl) ?_)
 refine TL.cons (TO.val rfl rfl rfl (Val.loadB 0 agg3 rfl rfl rfl) ?_)
 obtain ⟨y6, hy7, h⟩ := bind_no h
 refine TL.cons (TL.callV (Lin := []) (args := [.int .i64 a0.f0]) rfl rfl rfl hbd50 rfl rfl (code_shapeOf.calls (a0 := a0.f0) hy7) rfl ?_)
 rintro _ _ _ _ ⟨rfl, rfl, rfl⟩
 refine TL.cons (TO.val rfl rfl rfl (Val.move rfl) ?_)
 refine TL.cons (TO.val rfl rfl rfl (Val.extract rfl rfl) ?_)
 refine TL.cons (TO.val rfl rfl rfl (Val.extract rfl rfl) ?_)
 refine TL.cons (TL.alloc (cs := [.bool false, .bool false, .bool false, .bool false]) rfl rfl zr70 rfl (fun b8 => ?_))
 refine TL.cons (TL.store 0 (ds := [.bool y6.1.f0, .bool y6.1.f1, .bool y6.1.f2, .bool y6.1.f3]) (cs' := [.bool y6.1.f0, .bool y6.1.f1, .bool y6.1.f2, .bool y6.1.f3]) (L' := (Blk b8 [.bool y6.1.f0, .bool y6.1.f1, .bool y6.1.f2, .bool y6.1.f3] 70 :: Blk b5 [.int .i64 a0.f0, .int .i64 a0.f1, .int .i64 a0.f2, .int .i64 a0.f3, .int .i64 a0.f4, .slice A1 a0.f5.length c2] 40 :: L)) rfl fsz70 rfl rfl rfl rfl rfl (Nat.le_of_ble_eq_true rfl) rfl rfl ?_)
 refine TL.cons (TO.val rfl rfl rfl (Val.assign rfl) ?_)
 refine TL.nil ?_
 refine TQ.then_ ?_
 refine TC.seq ?_
 refine TC.region ?_
 refine TL.cons (TO.val rfl rfl rfl (Val.assign rfl) ?_)
 refine TL.nil ?_
 refine TQ.then_ ?_
 refine TC.seq ?_
 refine TC.seq ?_
 obtain ⟨j13, hj13, h⟩ := jn_no h
 refine TC.tail (fun a W => ∃ (x12 : Bool), j13 x12 = some r ∧ Fr 40 a [(1, .pointer (some ⟨b5, 0, none⟩)), (3, .pointer (some ⟨b8, 0, none⟩)), (4, .bool y6.2), (5, .slice none 0 0), (16, .bool x12)] ∧ Own G (Blk b5 [.int .i64 a0.f0, .int .i64 a0.f1, .int .i64 a0.f2, .int .i64 a0.f3, .int .i64 a0.f4, .slice A1 a0.f5.length c2] 40 :: Blk b8 [.bool y6.1.f0, .bool y6.1.f1, .bool y6.1.f2, .bool y6.1.f3] 70 :: L) W) ?_ ?_
 ·
  rintro a W ⟨x12, h, hF, hO⟩
  rw [hj13] at h
  refine TQ.use ?_ hF hO
  clear hF hO
  refine TQ.then_ ?_
  obtain ⟨j24, hj24, h⟩ := jn_no h
  refine TC.tail (fun a W => ∃ (l20 : (List Int)) (A21 : Option Addr) (c22 : Nat), j24 l20 = some r ∧ Fr 40 a [(1, .pointer (some ⟨b5, 0, none⟩)), (3, .pointer (some ⟨b8, 0, none⟩)), (4, .bool y6.2), (5, .slice A21 l20.length c22)] ∧ Own G (Blk b5 [.int .i64 a0.f0, .int .i64 a0.f1, .int .i64 a0.f2, .int .i64 a0.f3, .int .i64 a0.f4, .slice A1 a0.f5.length c2] 40 :: Blk b8 [.bool y6.1.f0, .bool y6.1.f1, .bool y6.1.f2, .bool y6.1.f3] 70 :: Row (Kd.int .i64) 3 (.slice A21 l20.length c22) l20 :: L) W) ?_ ?_
  ·
   rintro a W ⟨l20, A21, c22, h, hF, hO⟩
   rw [hj24] at h
   refine TQ.use ?_ hF hO
   clear hF hO
   refine TQ.then_ ?_
   refine TC.seq ?_
   refine TC.seq ?_
   obtain ⟨j29, hj29, h⟩ := jn_no h
   refine TC.tail (fun a W => ∃ (x28 : Bool), j29 x28 = some r ∧ Fr 40 a [(1, .pointer (some ⟨b5, 0, none⟩)), (5, .slice A21 l20.length c22), (26, .bool x28)] ∧ Own G (Blk b5 [.int .i64 a0.f0, .int .i64 a0.f1, .int .i64 a0.f2, .int .i64 a0.f3, .int .i64 a0.f4, .slice A1 a0.f5.length c2] 40 :: Row (Kd.int .i64) 3 (.slice A21 l20.length c22) l20 :: L) W) ?_ ?_
   ·
    rintro a W ⟨x28, h, hF, hO⟩
    rw [hj29] at h
    refine TQ.use ?_ hF hO
    clear hF hO
    refine TQ.then_ ?_
    obtain ⟨j39, hj39, h⟩ := jn_no h
    refine TC.tail (fun a W => ∃ (l35 : (List Int)) (A36 : Option Addr) (c37 : Nat), j39 l35 = some r ∧ Fr 40 a [(1, .pointer (some ⟨b5, 0, none⟩)), (5, .slice A36 l35.length c37)] ∧ Own G (Blk b5 [.int .i64 a0.f0, .int .i64 a0.f1, .int .i64 a0.f2, .int .i64 a0.f3, .int .i64 a0.f4, .slice A1 a0.f5.length c2] 40 :: Row (Kd.int .i64) 3 (.slice A36 l35.length c37) l35 :: L) W) ?_ ?_
    ·
     rintro a W ⟨l35, A36, c37, h, hF, hO⟩
     rw [hj39] at h
     refine TQ.use ?_ hF hO
     clear hF hO
     refine TQ.then_ ?_
     refine TC.seq ?_
     refine TC.seq ?_
     refine TC.region ?_
     refine TL.cons (TO.val rfl rfl rfl (Val.fieldAddrB Tryd.underlying40 rfl fsz3 rfl rfl rfl) ?_)
     refine TL.cons (TO.val rfl rfl rfl (Val.loadB 0 agg3 rfl rfl rfl) ?_)
     refine TL.cons (TO.val rfl rfl rfl (Val.cmp rfl rfl run_eql) ?_)
     refine TL.nil ?_
     refine TQ.then_ ?_
     obtain ⟨j48, hj48, h⟩ := jn_no h
     refine TC.tail (fun a W => ∃ (l44 : (List Int)) (A45 : Option Addr) (c46 : Nat), j48 l44 = some r ∧ Fr 40 a [(5, .slice A45 l44.length c46)] ∧ Own G (Row (Kd.int .i64) 3 (.slice A45 l44.length c46) l44 :: L) W) ?_ ?_
     ·
      rintro a W ⟨l44, A45, c46, h, hF, hO⟩
      rw [hj48] at h
      refine TQ.use ?_ hF hO
      clear hF hO
      refine TQ.then_ ?_
      refine TC.seq ?_
      refine TC.region ?_
      refine TL.cons (TO.val rfl rfl rfl (Val.move rfl) ?_)
      refine TL.cons (TO.val rfl rfl rfl (Val.assign rfl) ?_)
      refine TL.nil ?_
      refine TQ.then_ ?_
      refine TC.ret ?_
      obtain rfl := Option.some.inj h
      exact TQ.fin (.inl rfl) rfl Tryd.results19 (.tmp rfl .nil) rfl (FRel.mk (Ls := [Row (Kd.int .i64) 3 (.slice A45 l44.length c46) l44]) [0] 1 (Gd.le.refl _) rfl rfl rfl ⟨rfl, A45, c46, rfl, rfl⟩)
     ·
      refine TC.cond_p rfl h (fun hc49 h => ?_) (fun hc49 h => ?_)
      ·
       refine TC.region ?_
       refine TL.cons (TO.val rfl rfl rfl (Val.move rfl) ?_)
       refine TL.cons (TO.val rfl rfl rfl (Val.fieldAddrB Tryd.underlying40 rfl fsz38 rfl rfl rfl) ?_)
       refine TL.cons (TO.val rfl rfl rfl (Val.loadB 0 agg38 rfl rfl rfl) ?_)
       refine TK.sel (Ls := [Row (Kd.int .i64) 3 (.slice A36 l35.length c37) l35, Blk b5 [.int .i64 a0.f0, .int .i64 a0.f1, .int .i64 a0.f2, .int .i64 a0.f3, .int .i64 a0.f4, .slice A1 a0.f5.length c2] 40]) [1, 0] 2 rfl rfl rfl ?_
       obtain ⟨ha50, h⟩ := ite_no h
       refine TL.cons (TL.appendR (xs := l35) (ys := a0.f5) (Kd.int .i64) (Kd.int .i64) rfl rfl Tryd.underlying38 inf3 rfl (Nat.le_of_ble_eq_true rfl) (Nat.le_of_ble_eq_true rfl) rfl rfl (by omega) hr3 rfl (fun _ _ _ _ _ h => h) (fun A51 c52 => ?_))
       refine TL.cons (TO.val rfl rfl rfl (Val.assign rfl) ?_)
       refine TL.nil ?_
       exact fun a W hF hO => ⟨(l35 ++ a0.f5), A51, c52, h, hF.sub ⟨rfl, trivial⟩, hO.selT (Ls := [Row (Kd.int .i64) 3 (.slice A51 (l35 ++ a0.f5).length c52) (l35 ++ a0.f5)]) [0] 2 rfl rfl rfl⟩
      ·
       refine TC.skip ?_
       exact fun a W hF hO => ⟨l35, A36, c37, h, hF.sub ⟨rfl, trivial⟩, hO.selT (Ls := [Row (Kd.int .i64) 3 (.slice A36 l35.length c37) l35]) [1] 2 rfl rfl rfl⟩
    ·
     refine TC.cond_b rfl h (fun hc53 h => ?_) (fun hc53 h => ?_)
     ·
      refine TC.region ?_
      refine TL.cons (TO.val rfl rfl rfl (Val.move rfl) ?_)
      refine TL.cons (TO.val rfl rfl rfl (Val.fieldAddrB Tryd.underlying40 rfl fsz3 rfl rfl rfl) ?_)
      refine TL.cons (TO.val rfl rfl rfl (Val.loadB 0 agg3 rfl rfl rfl) ?_)
      refine TL.cons (TL.buildSlice (xs := [.tmp 29]) (vs := [.int .i64 a0.f3]) (cs := [.int .i64 a0.f3]) rfl rfl Tryd.underlying38 zs3 rfl rfl rfl rfl rfl rfl rfl rfl (fun b54 => ?_))
      refine TK.new (El.of (k := (Kd.int .i64)) (xv := a0.f3) (cs := [.int .i64 a0.f3]) (fun W B => rfl)) ?_
      refine TK.sel (Ls := [Row (Kd.int .i64) 3 (.slice A21 l20.length c22) l20, El (Kd.int .i64) a0.f3 [.int .i64 a0.f3], Blk b54 [.int .i64 a0.f3] 3, Blk b5 [.int .i64 a0.f0, .int .i64 a0.f1, .int .i64 a0.f2, .int .i64 a0.f3, .int .i64 a0.f4, .slice A1 a0.f5.length c2] 40]) [3, 0, 1, 2] 4 rfl rfl rfl ?_
      obtain ⟨ha55, h⟩ := ite_no h
      refine TL.cons (TL.append (xs := l20) (Kd.int .i64) rfl rfl Tryd.underlying38 inf3 rfl (Nat.le_of_ble_eq_true rfl) (Nat.le_of_ble_eq_true rfl) rfl rfl (by omega) (fun A56 c57 => ?_))
      refine TL.cons (TO.val rfl rfl rfl (Val.assign rfl) ?_)
      refine TL.nil ?_
      exact fun a W hF hO => ⟨(l20 ++ [a0.f3]), A56, c57, h, hF.sub ⟨rfl, rfl, trivial⟩, hO.selT (Ls := [Blk b5 [.int .i64 a0.f0, .int .i64 a0.f1, .int .i64 a0.f2, .int .i64 a0.f3, .int .i64 a0.f4, .slice A1 a0.f5.length c2] 40, Row (Kd.int .i64) 3 (.slice A56 (l20 ++ [a0.f3]).length c57) (l20 ++ [a0.f3])]) [1, 0] 2 rfl rfl rfl⟩
     ·
      refine TC.skip ?_
      exact fun a W hF hO => ⟨l20, A21, c22, h, hF.sub ⟨rfl, rfl, trivial⟩, hO.selT (Ls := [Blk b5 [.int .i64 a0.f0, .int .i64 a0.f1, .int .i64 a0.f2, .int .i64 a0.f3, .int .i64 a0.f4, .slice A1 a0.f5.length c2] 40, Row (Kd.int .i64) 3 (.slice A21 l20.length c22) l20]) [0, 1] 2 rfl rfl rfl⟩
   ·
    refine TC.region ?_
    refine TL.cons (TO.val rfl rfl rfl (Val.move rfl) ?_)
    refine TL.cons (TO.val rfl rfl rfl (Val.move rfl) ?_)
    refine TK.split (p := y6.2 = true) h (fun hg58 h => ?_) (fun hg58 h => ?_)
    ·
     have hk59 : y6.2 = true := hg58
     refine TL.cons (TO.val (Wt.yes rfl rfl rfl hk59) rfl rfl (Val.fieldAddrB Tryd.underlying70 rfl fsz4 rfl rfl rfl) ?_)
     refine TL.cons (TO.val (Wt.yes rfl rfl rfl hk59) rfl rfl (Val.loadB 1 agg4 rfl rfl rfl) ?_)
     refine TL.cons (TO.val rfl rfl rfl (Val.pickY rfl hk59 rfl) ?_)
     refine TL.nil ?_
     exact fun a W hF hO => ⟨y6.1.f2, h, hF.sub ⟨rfl, rfl, rfl, trivial⟩, hO.selT (Ls := [Blk b5 [.int .i64 a0.f0, .int .i64 a0.f1, .int .i64 a0.f2, .int .i64 a0.f3, .int .i64 a0.f4, .slice A1 a0.f5.length c2] 40, Row (Kd.int .i64) 3 (.slice A21 l20.length c22) l20]) [0, 2] 3 rfl rfl rfl⟩
    ·
     have hk60 : y6.2 = false := (by simpa using hg58)
     refine TL.cons (TL.not (Wt.no rfl rfl rfl hk60) rfl ?_)
     refine TL.cons (TL.not (Wt.no rfl rfl rfl hk60) rfl ?_)
     refine TL.cons (TO.val rfl rfl rfl (Val.pickN rfl hk60 rfl) ?_)
     refine TL.nil ?_
     exact fun a W hF hO => ⟨false, h, hF.sub ⟨rfl, rfl, rfl, trivial⟩, hO.selT (Ls := [Blk b5 [.int .i64 a0.f0, .int .i64 a0.f1, .int .i64 a0.f2, .int .i64 a0.f3, .int .i64 a0.f4, .slice A1 a0.f5.length c2] 40, Row (Kd.int .i64) 3 (.slice A21 l20.length c22) l20]) [0, 2] 3 rfl rfl rfl⟩
  ·
   refine TC.cond_b rfl h (fun hc61 h => ?_) (fun hc61 h => ?_)
   ·
    refine TC.region ?_
    refine TL.cons (TO.val rfl rfl rfl (Val.move rfl) ?_)
    refine TL.cons (TO.val rfl rfl rfl (Val.fieldAddrB Tryd.underlying40 rfl fsz3 rfl rfl rfl) ?_)
    refine TL.cons (TO.val rfl rfl rfl (Val.loadB 0 agg3 rfl rfl rfl) ?_)
    refine TL.cons (TL.buildSlice (xs := [.tmp 19]) (vs := [.int .i64 a0.f2]) (cs := [.int .i64 a0.f2]) rfl rfl Tryd.underlying38 zs3 rfl rfl rfl rfl rfl rfl rfl rfl (fun b62 => ?_))
    refine TK.new (Row.nil (Kd.int .i64) 3) ?_
    refine TK.new (El.of (k := (Kd.int .i64)) (xv := a0.f2) (cs := [.int .i64 a0.f2]) (fun W B => rfl)) ?_
    refine TK.sel (Ls := [Row (Kd.int .i64) 3 (.slice none 0 0) ([] : List Int), El (Kd.int .i64) a0.f2 [.int .i64 a0.f2], Blk b62 [.int .i64 a0.f2] 3, Blk b5 [.int .i64 a0.f0, .int .i64 a0.f1, .int .i64 a0.f2, .int .i64 a0.f3, .int .i64 a0.f4, .slice A1 a0.f5.length c2] 40, Blk b8 [.bool y6.1.f0, .bool y6.1.f1, .bool y6.1.f2, .bool y6.1.f3] 70]) [1, 0, 2, 3, 4] 5 rfl rfl rfl ?_
    obtain ⟨ha64, h⟩ := ite_no h
    refine TL.cons (TL.append (xs := ([] : List Int)) (Kd.int .i64) rfl rfl Tryd.underlying38 inf3 rfl (Nat.le_of_ble_eq_true rfl) (Nat.le_of_ble_eq_true rfl) rfl rfl (by omega) (fun A65 c66 => ?_))
    refine TL.cons (TO.val rfl rfl rfl (Val.assign rfl) ?_)
    refine TL.nil ?_
    exact fun a W hF hO => ⟨(([] : List Int) ++ [a0.f2]), A65, c66, h, hF.sub ⟨rfl, rfl, rfl, rfl, trivial⟩, hO.selT (Ls := [Blk b5 [.int .i64 a0.f0, .int .i64 a0.f1, .int .i64 a0.f2, .int .i64 a0.f3, .int .i64 a0.f4, .slice A1 a0.f5.length c2] 40, Blk b8 [.bool y6.1.f0, .bool y6.1.f1, .bool y6.1.f2, .bool y6.1.f3] 70, Row (Kd.int .i64) 3 (.slice A65 (([] : List Int) ++ [a0.f2]).length c66) (([] : List Int) ++ [a0.f2])]) [1, 2, 0] 3 rfl rfl rfl⟩
   ·
    refine TC.skip ?_
    exact fun a W hF hO => ⟨[], none, 0, h, hF.sub ⟨rfl, rfl, rfl, rfl, trivial⟩, (Own.nilRow (Kd.int .i64) 3 hO).selT (Ls := [Blk b5 [.int .i64 a0.f0, .int .i64 a0.f1, .int .i64 a0.f2, .int .i64 a0.f3, .int .i64 a0.f4, .slice A1 a0.f5.length c2] 40, Blk b8 [.bool y6.1.f0, .bool y6.1.f1, .bool y6.1.f2, .bool y6.1.f3] 70, Row (Kd.int .i64) 3 (.slice none ([] : List Int).length 0) ([] : List Int)]) [1, 2, 0] 3 rfl rfl rfl⟩
 ·
  refine TC.region ?_
  refine TL.cons (TO.val rfl rfl rfl (Val.move rfl) ?_)
  refine TL.cons (TO.val rfl rfl rfl (Val.move rfl) ?_)
  refine TK.split (p := y6.2 = true) h (fun hg67 h => ?_) (fun hg67 h => ?_)
  ·
   have hk68 : y6.2 = true := hg67
   refine TL.cons (TO.val (Wt.yes rfl rfl rfl hk68) rfl rfl (Val.fieldAddrB Tryd.underlying70 rfl fsz4 rfl rfl rfl) ?_)
   refine TL.cons (TO.val (Wt.yes rfl rfl rfl hk68) rfl rfl (Val.loadB 0 agg4 rfl rfl rfl) ?_)
   refine TL.cons (TO.val rfl rfl rfl (Val.pickY rfl hk68 rfl) ?_)
   refine TL.nil ?_
   exact fun a W hF hO => ⟨y6.1.f1, h, hF.sub ⟨rfl, rfl, rfl, rfl, rfl, trivial⟩, hO.selT (Ls := [Blk b5 [.int .i64 a0.f0, .int .i64 a0.f1, .int .i64 a0.f2, .int .i64 a0.f3, .int .i64 a0.f4, .slice A1 a0.f5.length c2] 40, Blk b8 [.bool y6.1.f0, .bool y6.1.f1, .bool y6.1.f2, .bool y6.1.f3] 70]) [1, 0] 2 rfl rfl rfl⟩
  ·
   have hk69 : y6.2 = false := (by simpa using hg67)
   refine TL.cons (TL.not (Wt.no rfl rfl rfl hk69) rfl ?_)
   refine TL.cons (TL.not (Wt.no rfl rfl rfl hk69) rfl ?_)
   refine TL.cons (TO.val rfl rfl rfl (Val.pickN rfl hk69 rfl) ?_)
   refine TL.nil ?_
   exact fun a W hF hO => ⟨false, h, hF.sub ⟨rfl, rfl, rfl, rfl, rfl, trivial⟩, hO.selT (Ls := [Blk b5 [.int .i64 a0.f0, .int .i64 a0.f1, .int .i64 a0.f2, .int .i64 a0.f3, .int .i64 a0.f4, .slice A1 a0.f5.length c2] 40, Blk b8 [.bool y6.1.f0, .bool y6.1.f1, .bool y6.1.f2, .bool y6.1.f3] 70]) [1, 0] 2 rfl rfl rfl⟩
end Go.Proofs.YtmacdhkfgoahcaaDoor.Sy
set_option linter.unusedVariables false
set_option linter.unusedSimpArgs false
set_option maxRecDepth 100000
set_option maxHeartbeats 4000000
namespace Go.Proofs.YtmacdhkfgoahcaaDoor.Sy
open Go Go.RowKit Go.Proofs.YtmacdhkfgoahcaaDoorW.PrintWords 
def slices_Index_int_int.l0 (a0 : (List Int)) (a1 : Int) : Nat → Int → Option (Sum Int (Unit))
 | 0, _ => none
 | n80 + 1, x54 => (if x54 < (a0.length : Int) then (at? a0 x54).bind fun y118 => (if a1 = y118 then some (.inl x54) else slices_Index_int_int.l0 a0 a1 n80 (IntKind.i64.wrap (x54 + 1))) else some (.inr ()))
def slices_Index_int_int.f (a0 : (List Int)) (a1 : Int) : Option Int := (slices_Index_int_int.l0 a0 a1 (a0.length + 1) 0).bind fun | .inl q_ => some q_ | .inr _ => (some (-1))
def slices_Index_int_int.post (G : Gd) (r : Int) (v : Value) (G' : Gd) (Lr : List Ch) : Prop := G = G' ∧ v = .int .i64 r ∧ Lr = []
theorem slices_Index_int_int.calls {G : Gd} {r : Int} {a0 : (List Int)} {a1 : Int} {A1 : Option Addr} {c2 : Nat} (hr3 : Rd G (Kd.int .i64) A1 a0) (hl4 : a0.length ≤ c2) (h : slices_Index_int_int.f a0 a1 = some r) : Fn Tryd.prog 82 G [] [.slice A1 a0.length c2, .int .i64 a1] (slices_Index_int_int.post G r) := by
 refine Fn.intro (e := [(0, .slice A1 a0.length c2), (1, .int .i64 a1)]) 19 Tryd.func82 rfl Tryd.ntmps82 rfl rfl (Nat.le_of_ble_eq_true rfl) (fun L => ?_)
 unfold slices_Index_int_int.f at h
 refine TC.seq ?_
 refine TC.region ?_
 refine TL.cons (TO.val rfl rfl rfl (Val.assign rfl) ?_)
 refine TL.nil ?_
 refine TQ.then_ ?_
 refine TC.seq ?_
 refine TC.seq ?_
 refine TC.region ?_
 refine TL.cons (TO.val rfl rfl rfl (Val.move rfl) ?_)
 refine TL.cons (TO.val rfl rfl rfl (Val.len Tryd.underlying38 rfl) ?_)
 refine TL.cons (TO.val rfl rfl rfl (Val.move rfl) ?_)
 refine TL.nil ?_
 refine TQ.then_ ?_
 obtain ⟨o79, ho79, ko79⟩ := bind_no h
 clear h
 refine TC.tail (fun a W => (.inr ()) = o79 ∧ Fr 19 a [] ∧ Own G (L) W) ?_ ?_
 ·
  rintro a W ⟨rfl, hF, hO⟩
  have h := ko79
  clear ko79 ho79
  refine TQ.use ?_ hF hO
  clear hF hO
  refine TQ.then_ ?_
  refine TC.seq ?_
  refine TC.region ?_
  refine TL.cons (TO.val rfl rfl rfl (Val.assign rfl) ?_)
  refine TL.nil ?_
  refine TQ.then_ ?_
  refine TC.ret ?_
  obtain rfl := Option.some.inj h
  exact TQ.fin (.inl rfl) rfl Tryd.results82 (.tmp rfl .nil) rfl (FRel.mk (Ls := []) [] 0 (Gd.le.refl _) rfl rfl rfl ⟨rfl, rfl, rfl⟩)
 ·
  refine TC.block ?_
  intro a W hF hO
  have hS : ∃ (x54 : Int), slices_Index_int_int.l0 a0 a1 (a0.length + 1) x54 = some o79 ∧ Fr 19 a [(0, .slice A1 a0.length c2), (1, .int .i64 a1), (7, .int .i64 (a0.length : Int)), (8, .int .i64 x54)] ∧ Own G (L) W := by
   exact ⟨0, ho79, hF.sub ⟨rfl, rfl, rfl, rfl, trivial⟩, hO.selT (Ls := []) [] 0 rfl rfl rfl⟩
  clear hF hO ho79
  refine TC.loop (fun n80 a W => ∃ (x54 : Int), slices_Index_int_int.l0 a0 a1 n80 x54 = some o79 ∧ Fr 19 a [(0, .slice A1 a0.length c2), (1, .int .i64 a1), (7, .int .i64 (a0.length : Int)), (8, .int .i64 x54)] ∧ Own G (L) W) ?_ ?_ hS
  ·
   rintro a W ⟨x54, h, hF, hO⟩
   exact none_no h
  ·
   clear hS
   rintro n80 a W ⟨x54, h, hF, hO⟩
   rw [slices_Index_int_int.l0] at h
   refine TC.use ?_ hF hO
   clear hF hO
   refine TC.seq ?_
   refine TC.region ?_
   refine TL.cons (TO.val rfl rfl rfl (Val.cmp rfl rfl run_lss) ?_)
   refine TL.nil ?_
   refine TQ.then_ ?_
   refine TC.seq ?_
   refine TC.cond_p rfl h (fun hc106 h => ?_) (fun hc106 h => ?_)
   ·
    refine TC.skip ?_
    refine TQ.then_ ?_
    refine TC.seq ?_
    refine TC.block ?_
    refine TC.seq ?_
    refine TC.region ?_
    refine TL.cons (TO.val rfl rfl rfl (Val.move rfl) ?_)
    refine TL.cons (TO.val rfl rfl rfl (Val.assign rfl) ?_)
    refine TL.nil ?_
    refine TQ.then_ ?_
    refine TC.seq ?_
    refine TC.region ?_
    refine TL.cons (TO.val rfl rfl rfl (Val.move rfl) ?_)
    refine TL.cons (TO.val rfl rfl rfl (Val.move rfl) ?_)
    refine TL.cons (TO.val rfl rfl rfl (Val.move rfl) ?_)
    obtain ⟨y118, hx119, h⟩ := bind_no h
    obtain ⟨ad120, cs126, hA121, hi122, hj123, hcl124, hK125⟩ := Rd.at hr3 hx119
    obtain rfl := RdK.int hK125
    refine TL.cons (TO.val rfl rfl rfl (Val.indexAddr Tryd.underlying38 fsz3 rfl hA121 rfl hi122 hj123) ?_)
    refine TL.cons (TO.val rfl rfl rfl (Val.loadS agg3 rfl (hcl124 0 _ rfl)) ?_)
    refine TL.cons (TO.val rfl rfl rfl (Val.cmp rfl rfl run_eql) ?_)
    refine TL.nil ?_
    refine TQ.then_ ?_
    refine TC.cond_p rfl h (fun hc128 h => ?_) (fun hc128 h => ?_)
    ·
     refine TC.seq ?_
     refine TC.region ?_
     refine TL.cons (TO.val rfl rfl rfl (Val.move rfl) ?_)
     refine TL.cons (TO.val rfl rfl rfl (Val.assign rfl) ?_)
     refine TL.nil ?_
     refine TQ.then_ ?_
     refine TC.ret ?_
     refine TQ.inBR ?_
     refine TQ.thenR ?_
     refine TQ.thenR ?_
     refine TQ.inBR ?_
     refine TQ.thenR ?_
     refine TQ.thenR ?_
     obtain rfl := Option.some.inj h
     have h := ko79
     obtain rfl := Option.some.inj h
     exact TQ.fin (.inl rfl) rfl Tryd.results82 (.tmp rfl .nil) rfl (FRel.mk (Ls := []) [] 0 (Gd.le.refl _) rfl rfl rfl ⟨rfl, rfl, rfl⟩)
    ·
     refine TC.skip ?_
     refine TQ.inB ?_
     refine TQ.then_ ?_
     refine TC.region ?_
     refine TL.cons (TO.val rfl rfl rfl (Val.cmp rfl rfl run_add) ?_)
     refine TL.cons (TO.val rfl rfl rfl (Val.move rfl) ?_)
     refine TL.nil ?_
     exact fun a W hF hO => ⟨IntKind.i64.wrap (x54 + 1), h, hF.sub ⟨rfl, rfl, rfl, rfl, trivial⟩, hO.selT (Ls := []) [] 0 rfl rfl rfl⟩
   ·
    refine TC.exit ?_
    refine TQ.thenX ?_
    refine TQ.thenX ?_
    refine TQ.inBX ?_
    exact fun a W hF hO => ⟨Option.some.inj h, hF.sub trivial, hO.selT (Ls := []) [] 0 rfl rfl rfl⟩
end Go.Proofs.YtmacdhkfgoahcaaDoor.Sy
set_option linter.unusedVariables false
set_option linter.unusedSimpArgs false
set_option maxRecDepth 100000
set_option maxHeartbeats 4000000
namespace Go.Proofs.YtmacdhkfgoahcaaDoor.Sy
open Go Go.RowKit Go.Proofs.YtmacdhkfgoahcaaDoorW.PrintWords 
def slices_Contains_int_int.f (a0 : (List Int)) (a1 : Int) : Option Bool := (slices_Index_int_int.f a0 a1).bind fun (y5 : Int) => some (decide (0 ≤ y5))
def slices_Contains_int_int.post (G : Gd) (r : Bool) (v : Value) (G' : Gd) (Lr : List Ch) : Prop := G = G' ∧ v = .bool r ∧ Lr = []
theorem slices_Contains_int_int.calls {G : Gd} {r : Bool} {a0 : (List Int)} {a1 : Int} {A1 : Option Addr} {c2 : Nat} (hr3 : Rd G (Kd.int .i64) A1 a0) (hl4 : a0.length ≤ c2) (h : slices_Contains_int_int.f a0 a1 = some r) : Fn Tryd.prog 56 G [] [.slice A1 a0.length c2, .int .i64 a1] (slices_Contains_int_int.post G r) := by
 refine Fn.intro (e := [(0, .slice A1 a0.length c2), (1, .int .i64 a1)]) 9 Tryd.func56 rfl Tryd.ntmps56 rfl rfl (Nat.le_of_ble_eq_true rfl) (fun L => ?_)
 unfold slices_Contains_int_int.f at h
 refine TC.seq ?_
 refine TC.region ?_
 refine TL.cons (TO.val rfl rfl rfl (Val.assign rfl) ?_)
 refine TL.nil ?_
 refine TQ.then_ ?_
 refine TC.seq ?_
 refine TC.region ?_
 refine TL.cons (TO.val rfl rfl rfl (Val.move rfl) ?_)
 refine TL.cons (TO.val rfl rfl rfl (Val.move rfl) ?_)
 obtain ⟨y5, hy6, h⟩ := bind_no h
 refine TL.cons (TL.callV (Lin := []) (args := [.slice A1 a0.length c2, .int .i64 a1]) rfl rfl rfl hbd82 rfl rfl (slices_Index_int_int.calls (a0 := a0) (a1 := a1) hr3 hl4 hy6) rfl ?_)
 rintro _ _ _ _ ⟨rfl, rfl, rfl⟩
 refine TL.cons (TO.val rfl rfl rfl (Val.cmp rfl rfl run_geq) ?_)
 refine TL.cons (TO.val rfl rfl rfl (Val.assign rfl) ?_)
 refine TL.nil ?_
 refine TQ.then_ ?_
 refine TC.ret ?_
 obtain rfl := Option.some.inj h
 exact TQ.fin (.inl rfl) rfl Tryd.results56 (.tmp rfl .nil) rfl (FRel.mk (Ls := []) [] 0 (Gd.le.refl _) rfl rfl rfl ⟨rfl, rfl, rfl⟩)
end Go.Proofs.YtmacdhkfgoahcaaDoor.Sy
set_option linter.unusedVariables false
set_option linter.unusedSimpArgs false
set_option maxRecDepth 100000
set_option maxHeartbeats 4000000
namespace Go.Proofs.YtmacdhkfgoahcaaDoor.Sy
open Go Go.RowKit Go.Proofs.YtmacdhkfgoahcaaDoorW.PrintWords 
def code_Pure.f (a0 : S40) : Option Bool := jn (γ := Bool) (fun (x46 : Bool) => (if x46 = true then some true else (if a0.f0 = 2 then (slices_Contains_int_int.f ([4, 5, 9, 10] : List Int) a0.f4).bind fun (y81 : Bool) => some (!y81) else some false))) (fun (j47 : (Bool → Option Bool)) => (if a0.f0 = 1 then j47 (decide (a0.f0 = 1)) else j47 (decide (a0.f0 = 3))))
def code_Pure.post (G : Gd) (r : Bool) (v : Value) (G' : Gd) (Lr : List Ch) : Prop := G = G' ∧ v = .bool r ∧ Lr = []
theorem code_Pure.calls {G : Gd} {r : Bool} {a0 : S40} {A1 : Option Addr} {c2 : Nat} (hr3 : Rd G (Kd.int .i64) A1 a0.f5) (hl4 : a0.f5.length ≤ c2) (h : code_Pure.f a0 = some r) : Fn Tryd.prog 20 G [] [.agg #[.int .i64 a0.f0, .int .i64 a0.f1, .int .i64 a0.f2, .int .i64 a0.f3, .int .i64 a0.f4, .slice A1 a0.f5.length c2]] (code_Pure.post G r) := by
 refine Fn.intro (e := [(0, .agg #[.int .i64 a0.f0, .int .i64 a0.f1, .int .i64 a0.f2, .int .i64 a0.f3, .int .i64 a0.f4, .slice A1 a0.f5.length c2])]) 15 Tryd.func20 rfl Tryd.ntmps20 rfl rfl (Nat.le_of_ble_eq_true rfl) (fun L => ?_)
 unfold code_Pure.f at h
 refine TC.seq ?_
 refine TC.region ?_
 refine TL.cons (TL.box (cs := [.int .i64 a0.f0, .int .i64 a0.f1, .int .i64 a0.f2, .int .i64 a0.f3, .int .i64 a0.f4, .slice A1 a0.f5.length c2]) rfl rfl rfl rfl (fun b5 => ?_))
 refine TL.cons (TO.val rfl rfl rfl (Val.assign rfl) ?_)
 refine TL.nil ?_
 refine TQ.then_ ?_
 refine TC.seq ?_
 refine TC.seq ?_
 refine TC.region ?_
 refine TL.cons (TO.val rfl rfl rfl (Val.fieldAddrB Tryd.underlying40 rfl fsz3 rfl rfl rfl) ?_)
 refine TL.cons (TO.val rfl rfl rfl (Val.loadB 0 agg3 rfl rfl rfl) ?_)
 refine TL.nil ?_
 refine TQ.then_ ?_
 refine TC.block ?_
 refine TC.seq ?_
 refine TC.seq ?_
 refine TC.region ?_
 refine TL.cons (TO.val rfl rfl rfl (Val.cmp rfl rfl run_eql) ?_)
 refine TL.cons (TO.val rfl rfl rfl (Val.assign rfl) ?_)
 refine TL.nil ?_
 refine TQ.then_ ?_
 obtain ⟨j47, hj47, h⟩ := jn_no h
 refine TC.tail (fun a W => ∃ (x46 : Bool), j47 x46 = some r ∧ Fr 15 a [(1, .pointer (some ⟨b5, 0, none⟩)), (4, .int .i64 a0.f0), (5, .bool x46)] ∧ Own G (Blk b5 [.int .i64 a0.f0, .int .i64 a0.f1, .int .i64 a0.f2, .int .i64 a0.f3, .int .i64 a0.f4, .slice A1 a0.f5.length c2] 40 :: L) W) ?_ ?_
 ·
  rintro a W ⟨x46, h, hF, hO⟩
  rw [hj47] at h
  refine TQ.use ?_ hF hO
  clear hF hO
  refine TQ.then_ ?_
  refine TC.cond_b rfl h (fun hc60 h => ?_) (fun hc60 h => ?_)
  ·
   refine TC.seq ?_
   refine TC.region ?_
   refine TL.cons (TO.val rfl rfl rfl (Val.assign rfl) ?_)
   refine TL.nil ?_
   refine TQ.then_ ?_
   refine TC.ret ?_
   refine TQ.inBR ?_
   refine TQ.thenR ?_
   obtain rfl := Option.some.inj h
   exact TQ.fin (.inl rfl) rfl Tryd.results20 (.tmp rfl .nil) rfl (FRel.mk (Ls := []) [] 1 (Gd.le.refl _) rfl rfl rfl ⟨rfl, rfl, rfl⟩)
  ·
   refine TC.seq ?_
   refine TC.region ?_
   refine TL.cons (TO.val rfl rfl rfl (Val.cmp rfl rfl run_eql) ?_)
   refine TL.cons (TO.val rfl rfl rfl (Val.assign rfl) ?_)
   refine TL.nil ?_
   refine TQ.then_ ?_
   refine TC.cond_p rfl h (fun hc72 h => ?_) (fun hc72 h => ?_)
   ·
    refine TC.seq ?_
    refine TC.region ?_
    refine TL.cons (TL.buildSlice (xs := [.const (.int .i64 4), .const (.int .i64 5), .const (.int .i64 9), .const (.int .i64 10)]) (vs := [.int .i64 4, .int .i64 5, .int .i64 9, .int .i64 10]) (cs := [.int .i64 4, .int .i64 5, .int .i64 9, .int .i64 10]) rfl rfl Tryd.underlying38 zs3 rfl rfl rfl rfl rfl rfl rfl rfl (fun b73 => ?_))
    refine TL.cons (TO.val rfl rfl rfl (Val.fieldAddrB Tryd.underlying40 rfl fsz3 rfl rfl rfl) ?_)
    refine TL.cons (TO.val rfl rfl rfl (Val.loadB 1 agg3 rfl rfl rfl) ?_)
    refine TK.new (Els.nil (Kd.int .i64)) ?_
    refine TK.new (El.of (k := (Kd.int .i64)) (xv := 4) (cs := [.int .i64 4]) (fun W B => rfl)) ?_
    refine TK.sel (Ls := [Els (Kd.int .i64) [] [], El (Kd.int .i64) 4 [.int .i64 4], Blk b73 [.int .i64 4, .int .i64 5, .int .i64 9, .int .i64 10] 3, Blk b5 [.int .i64 a0.f0, .int .i64 a0.f1, .int .i64 a0.f2, .int .i64 a0.f3, .int .i64 a0.f4, .slice A1 a0.f5.length c2] 40]) [1, 0, 2, 3] 4 rfl rfl rfl ?_
    refine TK.two (ch := Els (Kd.int .i64) [4] [.int .i64 4]) (Els.snoc (Kd.int .i64)) ?_
    refine TK.new (El.of (k := (Kd.int .i64)) (xv := 5) (cs := [.int .i64 5]) (fun W B => rfl)) ?_
    refine TK.sel (Ls := [Els (Kd.int .i64) [4] [.int .i64 4], El (Kd.int .i64) 5 [.int .i64 5], Blk b73 [.int .i64 4, .int .i64 5, .int .i64 9, .int .i64 10] 3, Blk b5 [.int .i64 a0.f0, .int .i64 a0.f1, .int .i64 a0.f2, .int .i64 a0.f3, .int .i64 a0.f4, .slice A1 a0.f5.length c2] 40]) [1, 0, 2, 3] 4 rfl rfl rfl ?_
    refine TK.two (ch := Els (Kd.int .i64) [4, 5] [.int .i64 4, .int .i64 5]) (Els.snoc (Kd.int .i64)) ?_
    refine TK.new (El.of (k := (Kd.int .i64)) (xv := 9) (cs := [.int .i64 9]) (fun W B => rfl)) ?_
    refine TK.sel (Ls := [Els (Kd.int .i64) [4, 5] [.int .i64 4, .int .i64 5], El (Kd.int .i64) 9 [.int .i64 9], Blk b73 [.int .i64 4, .int .i64 5, .int .i64 9, .int .i64 10] 3, Blk b5 [.int .i64 a0.f0, .int .i64 a0.f1, .int .i64 a0.f2, .int .i64 a0.f3, .int .i64 a0.f4, .slice A1 a0.f5.length c2] 40]) [1, 0, 2, 3] 4 rfl rfl rfl ?_
    refine TK.two (ch := Els (Kd.int .i64) [4, 5, 9] [.int .i64 4, .int .i64 5, .int .i64 9]) (Els.snoc (Kd.int .i64)) ?_
    refine TK.new (El.of (k := (Kd.int .i64)) (xv := 10) (cs := [.int .i64 10]) (fun W B => rfl)) ?_
    refine TK.sel (Ls := [Els (Kd.int .i64) [4, 5, 9] [.int .i64 4, .int .i64 5, .int .i64 9], El (Kd.int .i64) 10 [.int .i64 10], Blk b73 [.int .i64 4, .int .i64 5, .int .i64 9, .int .i64 10] 3, Blk b5 [.int .i64 a0.f0, .int .i64 a0.f1, .int .i64 a0.f2, .int .i64 a0.f3, .int .i64 a0.f4, .slice A1 a0.f5.length c2] 40]) [1, 0, 2, 3] 4 rfl rfl rfl ?_
    refine TK.two (ch := Els (Kd.int .i64) [4, 5, 9, 10] [.int .i64 4, .int .i64 5, .int .i64 9, .int .i64 10]) (Els.snoc (Kd.int .i64)) ?_
    refine TK.sel (Ls := [Blk b73 [.int .i64 4, .int .i64 5, .int .i64 9, .int .i64 10] 3, Els (Kd.int .i64) [4, 5, 9, 10] [.int .i64 4, .int .i64 5, .int .i64 9, .int .i64 10], Blk b5 [.int .i64 a0.f0, .int .i64 a0.f1, .int .i64 a0.f2, .int .i64 a0.f3, .int .i64 a0.f4, .slice A1 a0.f5.length c2] 40]) [1, 0, 2] 3 rfl rfl rfl ?_
    refine TK.two (ch := Row (Kd.int .i64) 3 (.slice (some ⟨b73, 0, none⟩) 4 4) ([4, 5, 9, 10] : List Int)) (Row.lit (Kd.int .i64) rfl rfl) ?_
    refine TK.share (fun G75 e76 hs77 hb78 => ?_)
    have rd79 : Rd G75 (Kd.int .i64) (some ⟨b73, 0, none⟩) ([4, 5, 9, 10] : List Int) := Rd.row hs77
    have le80 : ([4, 5, 9, 10] : List Int).length ≤ 4 := Row.le hs77
    obtain ⟨y81, hy82, h⟩ := bind_no h
    refine TL.cons (TL.callV (Lin := []) (args := [.slice (some ⟨b73, 0, none⟩) 4 4, .int .i64 a0.f4]) rfl rfl rfl hbd56 rfl rfl (slices_Contains_int_int.calls (a0 := ([4, 5, 9, 10] : List Int)) (a1 := a0.f4) rd79 le80 hy82) rfl ?_)
    rintro _ _ _ _ ⟨rfl, rfl, rfl⟩
    refine TL.cons (TO.val rfl rfl rfl (Val.not_ rfl) ?_)
    refine TL.cons (TO.val rfl rfl rfl (Val.assign rfl) ?_)
    refine TL.nil ?_
    refine TQ.then_ ?_
    refine TC.ret ?_
    refine TQ.inBR ?_
    refine TQ.thenR ?_
    refine TQ.back hb78 ?_
    obtain rfl := Option.some.inj h
    exact TQ.fin (.inl rfl) rfl Tryd.results20 (.tmp rfl .nil) rfl (FRel.mk (Ls := []) [] 2 (Gd.le.refl _) rfl rfl rfl ⟨rfl, rfl, rfl⟩)
   ·
    refine TC.skip ?_
    refine TQ.inB ?_
    refine TQ.then_ ?_
    refine TC.seq ?_
    refine TC.region ?_
    refine TL.cons (TO.val rfl rfl rfl (Val.assign rfl) ?_)
    refine TL.nil ?_
    refine TQ.then_ ?_
    refine TC.ret ?_
    obtain rfl := Option.some.inj h
    exact TQ.fin (.inl rfl) rfl Tryd.results20 (.tmp rfl .nil) rfl (FRel.mk (Ls := []) [] 1 (Gd.le.refl _) rfl rfl rfl ⟨rfl, rfl, rfl⟩)
 ·
  refine TC.cond_p rfl h (fun hc83 h => ?_) (fun hc83 h => ?_)
  ·
   refine TC.skip ?_
   exact fun a W hF hO => ⟨decide (a0.f0 = 1), h, hF.sub ⟨rfl, rfl, rfl, trivial⟩, hO.selT (Ls := [Blk b5 [.int .i64 a0.f0, .int .i64 a0.f1, .int .i64 a0.f2, .int .i64 a0.f3, .int .i64 a0.f4, .slice A1 a0.f5.length c2] 40]) [0] 1 rfl rfl rfl⟩
  ·
   refine TC.region ?_
   refine TL.cons (TO.val rfl rfl rfl (Val.cmp rfl rfl run_eql) ?_)
   refine TL.cons (TO.val rfl rfl rfl (Val.assign rfl) ?_)
   refine TL.nil ?_
   exact fun a W hF hO => ⟨decide (a0.f0 = 3), h, hF.sub ⟨rfl, rfl, rfl, trivial⟩, hO.selT (Ls := [Blk b5 [.int .i64 a0.f0, .int .i64 a0.f1, .int .i64 a0.f2, .int .i64 a0.f3, .int .i64 a0.f4, .slice A1 a0.f5.length c2] 40]) [0] 1 rfl rfl rfl⟩
end Go.Proofs.YtmacdhkfgoahcaaDoor.Sy
set_option linter.unusedVariables false
set_option linter.unusedSimpArgs false
set_option maxRecDepth 100000
set_option maxHeartbeats 4000000
namespace Go.Proofs.YtmacdhkfgoahcaaDoor.Sy
open Go Go.RowKit Go.Proofs.YtmacdhkfgoahcaaDoorW.PrintWords 
def swageref02_Ints.l0 (a0 : (List Int)) (a1 : (List Int)) : Nat → Int → Option (Sum Bool (Unit))
 | 0, _ => none
 | n248 + 1, x168 => (if x168 < (a0.length : Int) then (at? a0 x168).bind fun y385 => (at? a1 x168).bind fun y394 => (if (!decide (y385 = y394)) = true then some (.inl false) else swageref02_Ints.l0 a0 a1 n248 (IntKind.i64.wrap (x168 + 1))) else some (.inr ()))
def swageref02_Ints.f (a0 : (List Int)) (a1 : (List Int)) : Option Bool := (if (!decide ((a0.length : Int) = (a1.length : Int))) = true then some false else (swageref02_Ints.l0 a0 a1 (a0.length + 1) 0).bind fun | .inl q_ => some q_ | .inr _ => (some true))
def swageref02_Ints.post (G : Gd) (r : Bool) (v : Value) (G' : Gd) (Lr : List Ch) : Prop := G = G' ∧ v = .bool r ∧ Lr = []
theorem swageref02_Ints.calls {G : Gd} {r : Bool} {a0 : (List Int)} {a1 : (List Int)} {A1 : Option Addr} {c2 : Nat} {A5 : Option Addr} {c6 : Nat} (hr3 : Rd G (Kd.int .i64) A1 a0) (hl4 : a0.length ≤ c2) (hr7 : Rd G (Kd.int .i64) A5 a1) (hl8 : a1.length ≤ c6) (h : swageref02_Ints.f a0 a1 = some r) : Fn Tryd.prog 21 G [] [.slice A1 a0.length c2, .slice A5 a1.length c6] (swageref02_Ints.post G r) := by
 refine Fn.intro (e := [(0, .slice A1 a0.length c2), (1, .slice A5 a1.length c6)]) 26 Tryd.func21 rfl Tryd.ntmps21 rfl rfl (Nat.le_of_ble_eq_true rfl) (fun L => ?_)
 unfold swageref02_Ints.f at h
 refine TC.seq ?_
 refine TC.region ?_
 refine TL.cons (TO.val rfl rfl rfl (Val.assign rfl) ?_)
 refine TL.nil ?_
 refine TQ.then_ ?_
 refine TC.seq ?_
 refine TC.seq ?_
 refine TC.region ?_
 refine TL.cons (TO.val rfl rfl rfl (Val.move rfl) ?_)
 refine TL.cons (TO.val rfl rfl rfl (Val.len Tryd.underlying38 rfl) ?_)
 refine TL.cons (TO.val rfl rfl rfl (Val.move rfl) ?_)
 refine TL.cons (TO.val rfl rfl rfl (Val.len Tryd.underlying38 rfl) ?_)
 refine TL.cons (TO.val rfl rfl rfl (Val.cmp rfl rfl run_neq) ?_)
 refine TL.nil ?_
 refine TQ.then_ ?_
 refine TC.cond_b rfl h (fun hc10 h => ?_) (fun hc10 h => ?_)
 ·
  refine TC.seq ?_
  refine TC.region ?_
  refine TL.cons (TO.val rfl rfl rfl (Val.assign rfl) ?_)
  refine TL.nil ?_
  refine TQ.then_ ?_
  refine TC.ret ?_
  refine TQ.thenR ?_
  obtain rfl := Option.some.inj h
  exact TQ.fin (.inl rfl) rfl Tryd.results21 (.tmp rfl .nil) rfl (FRel.mk (Ls := []) [] 0 (Gd.le.refl _) rfl rfl rfl ⟨rfl, rfl, rfl⟩)
 ·
  refine TC.skip ?_
  refine TQ.then_ ?_
  refine TC.seq ?_
  refine TC.seq ?_
  refine TC.region ?_
  refine TL.cons (TO.val rfl rfl rfl (Val.assign rfl) ?_)
  refine TL.nil ?_
  refine TQ.then_ ?_
  obtain ⟨o247, ho247, ko247⟩ := bind_no h
  clear h
  refine TC.tail (fun a W => (.inr ()) = o247 ∧ Fr 26 a [] ∧ Own G (L) W) ?_ ?_
  ·
   rintro a W ⟨rfl, hF, hO⟩
   have h := ko247
   clear ko247 ho247
   refine TQ.use ?_ hF hO
   clear hF hO
   refine TQ.then_ ?_
   refine TC.seq ?_
   refine TC.region ?_
   refine TL.cons (TO.val rfl rfl rfl (Val.assign rfl) ?_)
   refine TL.nil ?_
   refine TQ.then_ ?_
   refine TC.ret ?_
   obtain rfl := Option.some.inj h
   exact TQ.fin (.inl rfl) rfl Tryd.results21 (.tmp rfl .nil) rfl (FRel.mk (Ls := []) [] 0 (Gd.le.refl _) rfl rfl rfl ⟨rfl, rfl, rfl⟩)
  ·
   refine TC.block ?_
   intro a W hF hO
   have hS : ∃ (x168 : Int), swageref02_Ints.l0 a0 a1 (a0.length + 1) x168 = some o247 ∧ Fr 26 a [(0, .slice A1 a0.length c2), (1, .slice A5 a1.length c6), (5, .int .i64 x168)] ∧ Own G (L) W := by
    exact ⟨0, ho247, hF.sub ⟨rfl, rfl, rfl, trivial⟩, hO.selT (Ls := []) [] 0 rfl rfl rfl⟩
   clear hF hO ho247
   refine TC.loop (fun n248 a W => ∃ (x168 : Int), swageref02_Ints.l0 a0 a1 n248 x168 = some o247 ∧ Fr 26 a [(0, .slice A1 a0.length c2), (1, .slice A5 a1.length c6), (5, .int .i64 x168)] ∧ Own G (L) W) ?_ ?_ hS
   ·
    rintro a W ⟨x168, h, hF, hO⟩
    exact none_no h
   ·
    clear hS
    rintro n248 a W ⟨x168, h, hF, hO⟩
    rw [swageref02_Ints.l0] at h
    refine TC.use ?_ hF hO
    clear hF hO
    refine TC.seq ?_
    refine TC.seq ?_
    refine TC.region ?_
    refine TL.cons (TO.val rfl rfl rfl (Val.move rfl) ?_)
    refine TL.cons (TO.val rfl rfl rfl (Val.move rfl) ?_)
    refine TL.cons (TO.val rfl rfl rfl (Val.len Tryd.underlying38 rfl) ?_)
    refine TL.cons (TO.val rfl rfl rfl (Val.cmp rfl rfl run_lss) ?_)
    refine TL.nil ?_
    refine TQ.then_ ?_
    refine TC.cond_p rfl h (fun hc328 h => ?_) (fun hc328 h => ?_)
    ·
     refine TC.skip ?_
     refine TQ.then_ ?_
     refine TC.seq ?_
     refine TC.block ?_
     refine TC.seq ?_
     refine TC.regionAny [] [0, 1, 2, 3, 4, 5, 6, 7, 8] mixed (by kernel_rfl) ?_
     refine TA.take 0 rfl (by kernel_rfl) rfl (PQ.then_ (PQ.inB (PQ.then_ (PQ.then_ (PQ.inB (PQ.then_ (PQ.then_ PQ.body))))))) rfl (Val.move rfl) (fun W hO => hO) ?_
     refine TA.take 1 rfl (by kernel_rfl) rfl (PQ.then_ (PQ.inB (PQ.then_ (PQ.then_ (PQ.inB (PQ.then_ (PQ.then_ PQ.body))))))) rfl (Val.move rfl) (fun W hO => hO) ?_
     obtain ⟨y385, hx386, h⟩ := bind_no h
     obtain ⟨ad387, cs393, hA388, hi389, hj390, hcl391, hK392⟩ := Rd.at hr3 hx386
     obtain rfl := RdK.int hK392
     refine TA.take 2 rfl (by kernel_rfl) rfl (PQ.then_ (PQ.inB (PQ.then_ (PQ.then_ (PQ.inB (PQ.then_ (PQ.then_ PQ.body))))))) rfl (Val.indexAddr Tryd.underlying38 fsz3 rfl hA388 rfl hi389 hj390) (fun W hO => hO) ?_
     refine TA.take 3 rfl (by kernel_rfl) rfl (PQ.then_ (PQ.inB (PQ.then_ (PQ.then_ (PQ.inB (PQ.then_ (PQ.then_ PQ.body))))))) rfl (Val.loadS agg3 rfl (hcl391 0 _ rfl)) (fun W hO => hO) ?_
     refine TA.take 4 rfl (by kernel_rfl) rfl (PQ.then_ (PQ.inB (PQ.then_ (PQ.then_ (PQ.inB (PQ.then_ (PQ.then_ PQ.body))))))) rfl (Val.move rfl) (fun W hO => hO) ?_
     refine TA.take 5 rfl (by kernel_rfl) rfl (PQ.then_ (PQ.inB (PQ.then_ (PQ.then_ (PQ.inB (PQ.then_ (PQ.then_ PQ.body))))))) rfl (Val.move rfl) (fun W hO => hO) ?_
     obtain ⟨y394, hx395, h⟩ := bind_no h
     obtain ⟨ad396, cs402, hA397, hi398, hj399, hcl400, hK401⟩ := Rd.at hr7 hx395
     obtain rfl := RdK.int hK401
     refine TA.take 6 rfl (by kernel_rfl) rfl (PQ.then_ (PQ.inB (PQ.then_ (PQ.then_ (PQ.inB (PQ.then_ (PQ.then_ PQ.body))))))) rfl (Val.indexAddr Tryd.underlying38 fsz3 rfl hA397 rfl hi398 hj399) (fun W hO => hO) ?_
     refine TA.take 7 rfl (by kernel_rfl) rfl (PQ.then_ (PQ.inB (PQ.then_ (PQ.then_ (PQ.inB (PQ.then_ (PQ.then_ PQ.body))))))) rfl (Val.loadS agg3 rfl (hcl400 0 _ rfl)) (fun W hO => hO) ?_
     refine TA.take 8 rfl (by kernel_rfl) rfl (PQ.then_ (PQ.inB (PQ.then_ (PQ.then_ (PQ.inB (PQ.then_ (PQ.then_ PQ.body))))))) rfl (Val.cmp rfl rfl run_neq) (fun W hO => hO) ?_
     refine TA.done (by kernel_rfl) ?_
     refine TQ.then_ ?_
     refine TC.cond_b rfl h (fun hc404 h => ?_) (fun hc404 h => ?_)
     ·
      refine TC.seq ?_
      refine TC.region ?_
      refine TL.cons (TO.val rfl rfl rfl (Val.assign rfl) ?_)
      refine TL.nil ?_
      refine TQ.then_ ?_
      refine TC.ret ?_
      refine TQ.inBR ?_
      refine TQ.thenR ?_
      refine TQ.thenR ?_
      refine TQ.inBR ?_
      refine TQ.thenR ?_
      refine TQ.thenR ?_
      obtain rfl := Option.some.inj h
      have h := ko247
      obtain rfl := Option.some.inj h
      exact TQ.fin (.inl rfl) rfl Tryd.results21 (.tmp rfl .nil) rfl (FRel.mk (Ls := []) [] 0 (Gd.le.refl _) rfl rfl rfl ⟨rfl, rfl, rfl⟩)
     ·
      refine TC.skip ?_
      refine TQ.inB ?_
      refine TQ.then_ ?_
      refine TC.region ?_
      refine TL.cons (TO.val rfl rfl rfl (Val.move rfl) ?_)
      refine TL.cons (TO.val rfl rfl rfl (Val.cmp rfl rfl run_add) ?_)
      refine TL.cons (TO.val rfl rfl rfl (Val.assign rfl) ?_)
      refine TL.nil ?_
      exact fun a W hF hO => ⟨IntKind.i64.wrap (x168 + 1), h, hF.sub ⟨rfl, rfl, rfl, trivial⟩, hO.selT (Ls := []) [] 0 rfl rfl rfl⟩
    ·
     refine TC.exit ?_
     refine TQ.thenX ?_
     refine TQ.thenX ?_
     refine TQ.inBX ?_
     exact fun a W hF hO => ⟨Option.some.inj h, hF.sub trivial, hO.selT (Ls := []) [] 0 rfl rfl rfl⟩
end Go.Proofs.YtmacdhkfgoahcaaDoor.Sy
set_option linter.unusedVariables false
set_option linter.unusedSimpArgs false
set_option maxRecDepth 100000
set_option maxHeartbeats 4000000
namespace Go.Proofs.YtmacdhkfgoahcaaDoor.Sy
open Go Go.RowKit Go.Proofs.YtmacdhkfgoahcaaDoorW.PrintWords 
def code_TermUses.f (a0 : S35) : Option (List Int) := jn (γ := (List Int)) (fun (x5 : Bool) => (if x5 = true then some ([a0.f1] : List Int) else some ([] : List Int))) (fun (j6 : (Bool → Option (List Int))) => (if a0.f0 = 2 then j6 true else j6 (decide (a0.f0 = 3))))
def code_TermUses.post (G : Gd) (r : (List Int)) (v : Value) (G' : Gd) (Lr : List Ch) : Prop := G = G' ∧ ∃ (A_1 : Option Addr) (c_1 : Nat), v = .slice A_1 r.length c_1 ∧ Lr = [Row (Kd.int .i64) 3 (.slice A_1 r.length c_1) r]
theorem code_TermUses.calls {G : Gd} {r : (List Int)} {a0 : S35} (h : code_TermUses.f a0 = some r) : Fn Tryd.prog 22 G [] [.agg #[.int .i64 a0.f0, .int .i64 a0.f1, .int .i64 a0.f2, .int .i64 a0.f3]] (code_TermUses.post G r) := by
 refine Fn.intro (e := [(0, .agg #[.int .i64 a0.f0, .int .i64 a0.f1, .int .i64 a0.f2, .int .i64 a0.f3])]) 14 Tryd.func22 rfl Tryd.ntmps22 rfl rfl (Nat.le_of_ble_eq_true rfl) (fun L => ?_)
 unfold code_TermUses.f at h
 refine TC.seq ?_
 refine TC.region ?_
 refine TL.cons (TL.box (cs := [.int .i64 a0.f0, .int .i64 a0.f1, .int .i64 a0.f2, .int .i64 a0.f3]) rfl rfl rfl rfl (fun b1 => ?_))
 refine TL.cons (TO.val rfl rfl rfl (Val.assign rfl) ?_)
 refine TL.nil ?_
 refine TQ.then_ ?_
 refine TC.seq ?_
 refine TC.seq ?_
 obtain ⟨j6, hj6, h⟩ := jn_no h
 refine TC.tail (fun a W => ∃ (x5 : Bool), j6 x5 = some r ∧ Fr 14 a [(1, .pointer (some ⟨b1, 0, none⟩)), (10, .bool x5)] ∧ Own G (Blk b1 [.int .i64 a0.f0, .int .i64 a0.f1, .int .i64 a0.f2, .int .i64 a0.f3] 35 :: L) W) ?_ ?_
 ·
  rintro a W ⟨x5, h, hF, hO⟩
  rw [hj6] at h
  refine TQ.use ?_ hF hO
  clear hF hO
  refine TQ.then_ ?_
  refine TC.cond_b rfl h (fun hc9 h => ?_) (fun hc9 h => ?_)
  ·
   refine TC.seq ?_
   refine TC.region ?_
   refine TL.cons (TO.val rfl rfl rfl (Val.fieldAddrB Tryd.underlying35 rfl fsz3 rfl rfl rfl) ?_)
   refine TL.cons (TO.val rfl rfl rfl (Val.loadB 0 agg3 rfl rfl rfl) ?_)
   refine TL.cons (TL.buildSlice (xs := [.tmp 12]) (vs := [.int .i64 a0.f1]) (cs := [.int .i64 a0.f1]) rfl rfl Tryd.underlying38 zs3 rfl rfl rfl rfl rfl rfl rfl rfl (fun b10 => ?_))
   refine TL.cons (TO.val rfl rfl rfl (Val.assign rfl) ?_)
   refine TL.nil ?_
   refine TQ.then_ ?_
   refine TC.ret ?_
   refine TQ.thenR ?_
   refine TQ.new (Els.nil (Kd.int .i64)) ?_
   refine TQ.new (El.of (k := (Kd.int .i64)) (xv := a0.f1) (cs := [.int .i64 a0.f1]) (fun W B => rfl)) ?_
   refine TQ.sel (Ls := [Els (Kd.int .i64) [] [], El (Kd.int .i64) a0.f1 [.int .i64 a0.f1], Blk b10 [.int .i64 a0.f1] 3, Blk b1 [.int .i64 a0.f0, .int .i64 a0.f1, .int .i64 a0.f2, .int .i64 a0.f3] 35]) [1, 0, 2, 3] 4 rfl rfl rfl ?_
   refine TQ.two (ch := Els (Kd.int .i64) [a0.f1] [.int .i64 a0.f1]) (Els.snoc (Kd.int .i64)) ?_
   refine TQ.sel (Ls := [Blk b10 [.int .i64 a0.f1] 3, Els (Kd.int .i64) [a0.f1] [.int .i64 a0.f1], Blk b1 [.int .i64 a0.f0, .int .i64 a0.f1, .int .i64 a0.f2, .int .i64 a0.f3] 35]) [1, 0, 2] 3 rfl rfl rfl ?_
   refine TQ.two (ch := Row (Kd.int .i64) 3 (.slice (some ⟨b10, 0, none⟩) 1 1) ([a0.f1] : List Int)) (Row.lit (Kd.int .i64) rfl rfl) ?_
   obtain rfl := Option.some.inj h
   exact TQ.fin (.inl rfl) rfl Tryd.results22 (.tmp rfl .nil) rfl (FRel.mk (Ls := [Row (Kd.int .i64) 3 (.slice (some ⟨b10, 0, none⟩) 1 1) ([a0.f1] : List Int)]) [0] 2 (Gd.le.refl _) rfl rfl rfl ⟨rfl, (some ⟨b10, 0, none⟩), 1, rfl, rfl⟩)
  ·
   refine TC.skip ?_
   refine TQ.then_ ?_
   refine TC.seq ?_
   refine TC.region ?_
   refine TL.cons (TO.val rfl rfl rfl (Val.assign rfl) ?_)
   refine TL.nil ?_
   refine TQ.then_ ?_
   refine TC.ret ?_
   refine TQ.nilRow (Kd.int .i64) 3 ?_
   obtain rfl := Option.some.inj h
   exact TQ.fin (.inl rfl) rfl Tryd.results22 (.tmp rfl .nil) rfl (FRel.mk (Ls := [Row (Kd.int .i64) 3 (.slice none 0 0) ([] : List Int)]) [0] 2 (Gd.le.refl _) rfl rfl rfl ⟨rfl, none, 0, rfl, rfl⟩)
 ·
  refine TC.region ?_
  refine TL.cons (TO.val rfl rfl rfl (Val.fieldAddrB Tryd.underlying35 rfl fsz3 rfl rfl rfl) ?_)
  refine TL.cons (TO.val rfl rfl rfl (Val.loadB 0 agg3 rfl rfl rfl) ?_)
  refine TL.cons (TO.val rfl rfl rfl (Val.cmp rfl rfl run_eql) ?_)
  refine TL.cons (TO.val rfl rfl rfl (Val.move rfl) ?_)
  refine TK.split (p := a0.f0 = 2) h (fun hg13 h => ?_) (fun hg13 h => ?_)
  ·
   have hk14 : decide (a0.f0 = 2) = true := decide_eq_true hg13
   refine TL.cons (TL.not (Wt.no rfl rfl rfl hk14) rfl ?_)
   refine TL.cons (TL.not (Wt.no rfl rfl rfl hk14) rfl ?_)
   refine TL.cons (TL.not (Wt.no rfl rfl rfl hk14) rfl ?_)
   refine TL.cons (TO.val rfl rfl rfl (Val.pickY rfl hk14 rfl) ?_)
   refine TL.nil ?_
   exact fun a W hF hO => ⟨true, h, hF.sub ⟨rfl, rfl, trivial⟩, hO.selT (Ls := [Blk b1 [.int .i64 a0.f0, .int .i64 a0.f1, .int .i64 a0.f2, .int .i64 a0.f3] 35]) [0] 1 rfl rfl rfl⟩
  ·
   have hk15 : decide (a0.f0 = 2) = false := decide_eq_false hg13
   refine TL.cons (TO.val (Wt.yes rfl rfl rfl hk15) rfl rfl (Val.fieldAddrB Tryd.underlying35 rfl fsz3 rfl rfl rfl) ?_)
   refine TL.cons (TO.val (Wt.yes rfl rfl rfl hk15) rfl rfl (Val.loadB 0 agg3 rfl rfl rfl) ?_)
   refine TL.cons (TO.val (Wt.yes rfl rfl rfl hk15) rfl rfl (Val.cmp rfl rfl run_eql) ?_)
   refine TL.cons (TO.val rfl rfl rfl (Val.pickN rfl hk15 rfl) ?_)
   refine TL.nil ?_
   exact fun a W hF hO => ⟨decide (a0.f0 = 3), h, hF.sub ⟨rfl, rfl, trivial⟩, hO.selT (Ls := [Blk b1 [.int .i64 a0.f0, .int .i64 a0.f1, .int .i64 a0.f2, .int .i64 a0.f3] 35]) [0] 1 rfl rfl rfl⟩
end Go.Proofs.YtmacdhkfgoahcaaDoor.Sy
set_option linter.unusedVariables false
set_option linter.unusedSimpArgs false
set_option maxRecDepth 100000
set_option maxHeartbeats 4000000
namespace Go.Proofs.YtmacdhkfgoahcaaDoor.Sy
open Go Go.RowKit Go.Proofs.YtmacdhkfgoahcaaDoorW.PrintWords 
def code_Regs.l2 (y6304 : (List Int)) : Nat → Int → Int → Option (Int)
 | 0, _, _ => none
 | n6411 + 1, x6375, x6376 => (if x6375 < (y6304.length : Int) then (at? y6304 x6375).bind fun y6467 => code_Regs.l2 y6304 n6411 (IntKind.i64.wrap (x6375 + 1)) (if x6376 < y6467 then y6467 else x6376) else some x6376)
def code_Regs.l1 (a0 : S27) : Nat → Int → Int → Option (Int)
 | 0, _, _ => none
 | n5974 + 1, x5776, x5777 => (if x5776 < (a0.f1.length : Int) then (at? a0.f1 x5776).bind fun y6290 => (code_TermUses.f y6290.f1).bind fun (y6304 : (List Int)) => (code_Regs.l2 y6304 (y6304.length + 1) 0 x5777).bind fun (x6409 : Int) => code_Regs.l1 a0 n5974 (IntKind.i64.wrap (x5776 + 1)) x6409 else some x5777)
def code_Regs.l4 (y8834 : (List Int)) : Nat → Int → Int → Option (Int)
 | 0, _, _ => none
 | n8941 + 1, x8905, x8906 => (if x8905 < (y8834.length : Int) then (at? y8834 x8905).bind fun y8997 => code_Regs.l4 y8834 n8941 (IntKind.i64.wrap (x8905 + 1)) (if x8906 < y8997 then y8997 else x8906) else some x8906)
def code_Regs.l3 (y7163 : S37) : Nat → Int → Int → Option (Int)
 | 0, _, _ => none
 | n8179 + 1, x7843, x7844 => (if x7843 < (y7163.f0.length : Int) then (at? y7163.f0 x7843).bind fun y8703 => (code_Sets.f y8703).bind fun (y8832 : Int) => (code_Uses.f y8703).bind fun (y8834 : (List Int)) => (code_Regs.l4 y8834 (y8834.length + 1) 0 (if x7844 < y8832 then y8832 else x7844)).bind fun (x8939 : Int) => code_Regs.l3 y7163 n8179 (IntKind.i64.wrap (x7843 + 1)) x8939 else some x7844)
def code_Regs.l0 (a0 : S27) : Nat → Int → Int → Option (Int)
 | 0, _, _ => none
 | n4439 + 1, x3489, x3490 => (if x3489 < (a0.f1.length : Int) then (at? a0.f1 x3489).bind fun y7163 => (code_Regs.l3 y7163 (y7163.f0.length + 1) 0 x3490).bind fun (x8177 : Int) => code_Regs.l0 a0 n4439 (IntKind.i64.wrap (x3489 + 1)) x8177 else some x3490)
def code_Regs.f (a0 : S27) : Option Int := (code_Regs.l0 a0 (a0.f1.length + 1) 0 (if 0 < a0.f0 then a0.f0 else 0)).bind fun (x4437 : Int) => (code_Regs.l1 a0 (a0.f1.length + 1) 0 x4437).bind fun (x5972 : Int) => some x5972
def code_Regs.post (G : Gd) (r : Int) (v : Value) (G' : Gd) (Lr : List Ch) : Prop := G = G' ∧ v = .int .i64 r ∧ Lr = []
theorem code_Regs.calls {G : Gd} {r : Int} {a0 : S27} {A1 : Option Addr} {c2 : Nat} (hr3 : Rd G k37 A1 a0.f1) (hl4 : a0.f1.length ≤ c2) (h : code_Regs.f a0 = some r) : Fn Tryd.prog 32 G [] [.agg #[.int .i64 a0.f0, .slice A1 a0.f1.length c2]] (code_Regs.post G r) := by
 refine Fn.intro (e := [(0, .agg #[.int .i64 a0.f0, .slice A1 a0.f1.length c2])]) 53 Tryd.func32 rfl Tryd.ntmps32 rfl rfl (Nat.le_of_ble_eq_true rfl) (fun L => ?_)
 unfold code_Regs.f at h
 refine TC.new (ch := Mk []) Mk.nil ?_
 refine TC.seq ?_
 refine TC.region ?_
 refine TL.cons (TL.box (cs := [.int .i64 a0.f0, .slice A1 a0.f1.length c2]) rfl rfl rfl rfl (fun b6 => ?_))
 refine TL.cons (TO.val rfl rfl rfl (Val.assign rfl) ?_)
 refine TL.nil ?_
 refine TQ.then_ ?_
 refine TC.seq ?_
 refine TC.region ?_
 refine TL.cons (TO.val rfl rfl rfl (Val.fieldAddrB Tryd.underlying27 rfl fsz3 rfl rfl rfl) ?_)
 refine TL.cons (TO.val rfl rfl rfl (Val.loadB 0 agg3 rfl rfl rfl) ?_)
 refine TL.cons (TO.val rfl rfl rfl (Val.max2 rfl rfl) ?_)
 refine TL.cons (TL.alloc (cs := [.int .i64 0]) rfl rfl zr3 rfl (fun b7 => ?_))
 refine TL.cons (TL.store 0 (ds := [.int .i64 (if 0 < a0.f0 then a0.f0 else 0)]) (cs' := [.int .i64 (if 0 < a0.f0 then a0.f0 else 0)]) (L' := (Blk b7 [.int .i64 (if 0 < a0.f0 then a0.f0 else 0)] 3 :: Blk b6 [.int .i64 a0.f0, .slice A1 a0.f1.length c2] 27 :: Mk [] :: L)) rfl fsz3 rfl rfl rfl rfl rfl (Nat.le_of_ble_eq_true rfl) rfl rfl ?_)
 refine TL.nil ?_
 refine TQ.then_ ?_
 refine TC.seq ?_
 refine TC.seq ?_
 refine TC.region ?_
 refine TL.cons (TO.val rfl rfl rfl (Val.loadsB 1 (cs := [.int .i64 a0.f0, .slice A1 a0.f1.length c2]) agg27 fsz27 rfl rfl rfl rfl) ?_)
 refine TL.cons (TO.inl (args := [.agg #[.int .i64 a0.f0, .slice A1 a0.f1.length c2]]) (e' := [(0, .agg #[.int .i64 a0.f0, .slice A1 a0.f1.length c2])]) 4 rfl rfl hbd46 rfl rfl Tryd.func46 rfl Tryd.ntmps46 rfl rfl (Nat.le_of_ble_eq_true rfl) (fun a8 hf9 => ?_))
 refine TC.seq ?_
 refine TC.region ?_
 refine TL.cons (TL.box (cs := [.int .i64 a0.f0, .slice A1 a0.f1.length c2]) rfl rfl rfl rfl (fun b11 => ?_))
 refine TL.cons (TO.val rfl rfl rfl (Val.assign rfl) ?_)
 refine TL.nil ?_
 refine TQ.then_ ?_
 refine TC.seq ?_
 refine TC.region ?_
 refine TL.cons (TO.val rfl rfl rfl (Val.makeFunc (xs := []) (ys := [.pointer (some ⟨b11, 0, none⟩)]) rfl rfl) ?_)
 refine TL.cons (TO.val rfl rfl rfl (Val.assign rfl) ?_)
 refine TL.nil ?_
 refine TQ.then_ ?_
 refine TC.ret ?_
 refine TQ.fin (v := .func (.func 77) #[] #[.pointer (some ⟨b11, 0, none⟩)]) (.inl rfl) rfl Tryd.results46 (.tmp rfl .nil) rfl (After.mk hf9 rfl ?_)
 refine TL.nil ?_
 refine TQ.then_ ?_
 refine TC.block ?_
 refine TC.rangeFunc (e1 := fun l_ => [(0, .func (.yield l_) #[] #[]), (1, .pointer (some ⟨b11, 0, none⟩))]) 27 rfl hbd77 Tryd.func77 rfl Tryd.ntmps77 rfl (fun _ => rfl) (Nat.le_of_ble_eq_true rfl) (fun a1589 R1586 o1587 o1588 hp1590 ha1591 hb1592 hf1593 hf1594 => ?_)
 refine TC.sel (Ls := [Ob o1588 (.deferred (some [])), Mk [], Ob o1587 (LoopO R1586 .ready none), Blk b11 [.int .i64 a0.f0, .slice A1 a0.f1.length c2] 27, Blk b7 [.int .i64 (if 0 < a0.f0 then a0.f0 else 0)] 3, Blk b6 [.int .i64 a0.f0, .slice A1 a0.f1.length c2] 27]) [1, 5, 0, 2, 3, 4] 6 rfl rfl rfl ?_
 refine TC.two (ch := Mk (o1588 :: [])) Mk.cons ?_
 refine TC.seq ?_
 refine TC.region ?_
 refine TL.cons (TO.val rfl rfl rfl (Val.fieldAddrB Tryd.underlying27 rfl fsz25 rfl rfl rfl) ?_)
 refine TL.cons (TO.val rfl rfl rfl (Val.loadB 2 agg25 rfl rfl rfl) ?_)
 refine TL.cons (TO.val rfl rfl rfl (Val.len Tryd.underlying25 rfl) ?_)
 refine TL.cons (TO.val rfl rfl rfl (Val.move rfl) ?_)
 refine TL.nil ?_
 refine TQ.then_ ?_
 obtain ⟨o4438, ho4438, ko4438⟩ := bind_no h
 clear h
 refine TC.tail (fun a W => ∃ (x4437 : Int), x4437 = o4438 ∧ Fr 27 a [] ∧ Own G (Blk b11 [.int .i64 a0.f0, .slice A1 a0.f1.length c2] 27 :: Blk b6 [.int .i64 a0.f0, .slice A1 a0.f1.length c2] 27 :: Blk b7 [.int .i64 x4437] 3 :: Mk (o1588 :: []) :: Ob o1587 (LoopO R1586 .ready none) :: L) W) ?_ ?_
 ·
  rintro a W ⟨x4437, rfl, hF, hO⟩
  have h := ko4438
  clear ko4438 ho4438
  refine TQ.use ?_ hF hO
  clear hF hO
  refine TQ.fin (v := .tuple #[]) (.inr rfl) rfl Tryd.results77 .nil rfl (RangeP.normal (L' := (Blk b11 [.int .i64 a0.f0, .slice A1 a0.f1.length c2] 27 :: Blk b6 [.int .i64 a0.f0, .slice A1 a0.f1.length c2] 27 :: Blk b7 [.int .i64 x4437] 3 :: Mk (o1588 :: []) :: Emp :: L)) 4 hf1594 rfl rfl rfl ?_)
  refine TQ.inB ?_
  refine TQ.then_ ?_
  refine TC.seq ?_
  refine TC.seq ?_
  refine TC.region ?_
  refine TL.cons (TO.val rfl rfl rfl (Val.fieldAddrB Tryd.underlying27 rfl fsz25 rfl rfl rfl) ?_)
  refine TL.cons (TO.val rfl rfl rfl (Val.loadB 1 agg25 rfl rfl rfl) ?_)
  refine TL.cons (TO.val rfl rfl rfl (Val.len Tryd.underlying25 rfl) ?_)
  refine TL.cons (TO.val rfl rfl rfl (Val.move rfl) ?_)
  refine TL.nil ?_
  refine TQ.then_ ?_
  obtain ⟨o5973, ho5973, ko5973⟩ := bind_no h
  clear h
  refine TC.tail (fun a W => ∃ (x5972 : Int), x5972 = o5973 ∧ Fr (⟨53, List.map mark (o1588 :: [])⟩ : Nd) a [(3, .pointer (some ⟨b7, 0, none⟩))] ∧ Own G (Blk b7 [.int .i64 x5972] 3 :: Mk (o1588 :: []) :: L) W) ?_ ?_
  ·
   rintro a W ⟨x5972, rfl, hF, hO⟩
   have h := ko5973
   clear ko5973 ho5973
   refine TQ.use ?_ hF hO
   clear hF hO
   refine TQ.then_ ?_
   refine TC.seq ?_
   refine TC.region ?_
   refine TL.cons (TO.val rfl rfl rfl (Val.loadB 0 agg3 rfl rfl rfl) ?_)
   refine TL.cons (TO.val rfl rfl rfl (Val.assign rfl) ?_)
   refine TL.nil ?_
   refine TQ.then_ ?_
   refine TC.ret ?_
   refine TQ.finL (ds := List.map mark (o1588 :: [])) (.inl rfl) rfl (fun a_ hx6167 => ?_)
   refine Lv.marks (L' := (Blk b7 [.int .i64 x5972] 3 :: Emp :: L)) 1 rfl rfl ?_
   obtain rfl := Option.some.inj h
   exact Lv.nil hx6167 Tryd.results32 (.tmp rfl .nil) rfl (FRel.mk (Ls := []) [] 2 (Gd.le.refl _) rfl rfl rfl ⟨rfl, rfl, rfl⟩)
  ·
   refine TC.block ?_
   intro a W hF hO
   have hS : ∃ (x5776 : Int) (x5777 : Int), code_Regs.l1 a0 (a0.f1.length + 1) x5776 x5777 = some o5973 ∧ Fr (⟨53, List.map mark (o1588 :: [])⟩ : Nd) a [(3, .pointer (some ⟨b7, 0, none⟩)), (33, .slice A1 a0.f1.length c2), (34, .int .i64 (a0.f1.length : Int)), (35, .int .i64 x5776)] ∧ Own G (Blk b7 [.int .i64 x5777] 3 :: Mk (o1588 :: []) :: L) W := by
    exact ⟨0, x4437, ho5973, hF.sub ⟨rfl, rfl, rfl, rfl, trivial⟩, hO.selT (Ls := [Blk b7 [.int .i64 x4437] 3, Mk (o1588 :: [])]) [2, 3] 5 rfl rfl rfl⟩
   clear hF hO ho5973 ko5973
   refine TC.loop (fun n5974 a W => ∃ (x5776 : Int) (x5777 : Int), code_Regs.l1 a0 n5974 x5776 x5777 = some o5973 ∧ Fr (⟨53, List.map mark (o1588 :: [])⟩ : Nd) a [(3, .pointer (some ⟨b7, 0, none⟩)), (33, .slice A1 a0.f1.length c2), (34, .int .i64 (a0.f1.length : Int)), (35, .int .i64 x5776)] ∧ Own G (Blk b7 [.int .i64 x5777] 3 :: Mk (o1588 :: []) :: L) W) ?_ ?_ hS
   ·
    rintro a W ⟨x5776, x5777, h, hF, hO⟩
    exact none_no h
   ·
    clear hS
    rintro n5974 a W ⟨x5776, x5777, h, hF, hO⟩
    rw [code_Regs.l1] at h
    refine TC.use ?_ hF hO
    clear hF hO
    refine TC.seq ?_
    refine TC.region ?_
    refine TL.cons (TO.val rfl rfl rfl (Val.cmp rfl rfl run_lss) ?_)
    refine TL.nil ?_
    refine TQ.then_ ?_
    refine TC.seq ?_
    refine TC.cond_p rfl h (fun hc6169 h => ?_) (fun hc6169 h => ?_)
    ·
     refine TC.skip ?_
     refine TQ.then_ ?_
     refine TC.seq ?_
     refine TC.block ?_
     refine TC.seq ?_
     refine TC.region ?_
     obtain ⟨y6290, hx6291, h⟩ := bind_no h
     obtain ⟨ad6292, cs6298, hA6293, hi6294, hj6295, hcl6296, hK6297⟩ := Rd.at hr3 hx6291
     obtain ⟨A6299, c6300, rfl, hr6301, hl6302⟩ := k37_openR hK6297
     refine TL.cons (TO.val rfl rfl rfl (Val.indexAddr Tryd.underlying25 fsz37 rfl hA6293 rfl hi6294 hj6295) ?_)
     refine TL.cons (TO.val rfl rfl rfl (Val.loadsS (cs := [.slice A6299 y6290.f0.length c6300, .int .i64 y6290.f1.f0, .int .i64 y6290.f1.f1, .int .i64 y6290.f1.f2, .int .i64 y6290.f1.f3]) agg37 fsz37 rfl rfl (Cl.sub (off := 0) (n := 5) hcl6296 rfl)) ?_)
     refine TL.cons (TL.alloc (cs := [.slice none 0 0, .int .i64 0, .int .i64 0, .int .i64 0, .int .i64 0]) rfl rfl zr37 rfl (fun b6303 => ?_))
     refine TL.cons (TL.store 0 (ds := [.slice A6299 y6290.f0.length c6300, .int .i64 y6290.f1.f0, .int .i64 y6290.f1.f1, .int .i64 y6290.f1.f2, .int .i64 y6290.f1.f3]) (cs' := [.slice A6299 y6290.f0.length c6300, .int .i64 y6290.f1.f0, .int .i64 y6290.f1.f1, .int .i64 y6290.f1.f2, .int .i64 y6290.f1.f3]) (L' := (Blk b6303 [.slice A6299 y6290.f0.length c6300, .int .i64 y6290.f1.f0, .int .i64 y6290.f1.f1, .int .i64 y6290.f1.f2, .int .i64 y6290.f1.f3] 37 :: Blk b7 [.int .i64 x5777] 3 :: Mk (o1588 :: []) :: L)) rfl fsz37 rfl rfl rfl rfl rfl (Nat.le_of_ble_eq_true rfl) rfl rfl ?_)
     refine TL.nil ?_
     refine TQ.then_ ?_
     refine TC.seq ?_
     refine TC.region ?_
     refine TL.cons (TO.val rfl rfl rfl (Val.fieldAddrB Tryd.underlying37 rfl fsz35 rfl rfl rfl) ?_)
     refine TL.cons (TO.val rfl rfl rfl (Val.loadsB 0 (cs := [.int .i64 y6290.f1.f0, .int .i64 y6290.f1.f1, .int .i64 y6290.f1.f2, .int .i64 y6290.f1.f3]) agg35 fsz35 rfl rfl rfl rfl) ?_)
     obtain ⟨y6304, hy6305, h⟩ := bind_no h
     refine TL.cons (TL.callV (Lin := []) (args := [.agg #[.int .i64 y6290.f1.f0, .int .i64 y6290.f1.f1, .int .i64 y6290.f1.f2, .int .i64 y6290.f1.f3]]) rfl rfl rfl hbd22 rfl rfl (code_TermUses.calls (a0 := y6290.f1) hy6305) rfl ?_)
     rintro _ _ _ _ ⟨rfl, A6306, c6307, rfl, rfl⟩
     refine TL.cons (TO.val rfl rfl rfl (Val.len Tryd.underlying38 rfl) ?_)
     refine TL.cons (TO.val rfl rfl rfl (Val.move rfl) ?_)
     refine TL.nil ?_
     refine TQ.then_ ?_
     obtain ⟨o6410, ho6410, ko6410⟩ := bind_no h
     clear h
     refine TC.tail (fun a W => ∃ (x6409 : Int), x6409 = o6410 ∧ Fr (⟨53, List.map mark (o1588 :: [])⟩ : Nd) a [(3, .pointer (some ⟨b7, 0, none⟩)), (33, .slice A1 a0.f1.length c2), (34, .int .i64 (a0.f1.length : Int)), (35, .int .i64 x5776)] ∧ Own G (Blk b7 [.int .i64 x6409] 3 :: Mk (o1588 :: []) :: L) W) ?_ ?_
     ·
      rintro a W ⟨x6409, rfl, hF, hO⟩
      have h := ko6410
      clear ko6410 ho6410
      refine TQ.use ?_ hF hO
      clear hF hO
      refine TQ.inB ?_
      refine TQ.then_ ?_
      refine TC.region ?_
      refine TL.cons (TO.val rfl rfl rfl (Val.cmp rfl rfl run_add) ?_)
      refine TL.cons (TO.val rfl rfl rfl (Val.move rfl) ?_)
      refine TL.nil ?_
      exact fun a W hF hO => ⟨IntKind.i64.wrap (x5776 + 1), x6409, h, hF.sub ⟨rfl, rfl, rfl, rfl, trivial⟩, hO.selT (Ls := [Blk b7 [.int .i64 x6409] 3, Mk (o1588 :: [])]) [0, 1] 2 rfl rfl rfl⟩
     ·
      refine TC.block ?_
      intro a W hF hO
      have hS : ∃ (x6375 : Int) (x6376 : Int), code_Regs.l2 y6304 (y6304.length + 1) x6375 x6376 = some o6410 ∧ Fr (⟨53, List.map mark (o1588 :: [])⟩ : Nd) a [(3, .pointer (some ⟨b7, 0, none⟩)), (33, .slice A1 a0.f1.length c2), (34, .int .i64 (a0.f1.length : Int)), (35, .int .i64 x5776), (41, .slice A6306 y6304.length c6307), (42, .int .i64 (y6304.length : Int)), (43, .int .i64 x6375)] ∧ Own G (Blk b7 [.int .i64 x6376] 3 :: Mk (o1588 :: []) :: Row (Kd.int .i64) 3 (.slice A6306 y6304.length c6307) y6304 :: L) W := by
       exact ⟨0, x5777, ho6410, hF.sub ⟨rfl, rfl, rfl, rfl, rfl, rfl, rfl, trivial⟩, hO.selT (Ls := [Blk b7 [.int .i64 x5777] 3, Mk (o1588 :: []), Row (Kd.int .i64) 3 (.slice A6306 y6304.length c6307) y6304]) [2, 3, 0] 4 rfl rfl rfl⟩
      clear hF hO ho6410 ko6410
      refine TC.loop (fun n6411 a W => ∃ (x6375 : Int) (x6376 : Int), code_Regs.l2 y6304 n6411 x6375 x6376 = some o6410 ∧ Fr (⟨53, List.map mark (o1588 :: [])⟩ : Nd) a [(3, .pointer (some ⟨b7, 0, none⟩)), (33, .slice A1 a0.f1.length c2), (34, .int .i64 (a0.f1.length : Int)), (35, .int .i64 x5776), (41, .slice A6306 y6304.length c6307), (42, .int .i64 (y6304.length : Int)), (43, .int .i64 x6375)] ∧ Own G (Blk b7 [.int .i64 x6376] 3 :: Mk (o1588 :: []) :: Row (Kd.int .i64) 3 (.slice A6306 y6304.length c6307) y6304 :: L) W) ?_ ?_ hS
      ·
       rintro a W ⟨x6375, x6376, h, hF, hO⟩
       exact none_no h
      ·
       clear hS
       rintro n6411 a W ⟨x6375, x6376, h, hF, hO⟩
       rw [code_Regs.l2] at h
       refine TC.use ?_ hF hO
       clear hF hO
       refine TC.seq ?_
       refine TC.region ?_
       refine TL.cons (TO.val rfl rfl rfl (Val.cmp rfl rfl run_lss) ?_)
       refine TL.nil ?_
       refine TQ.then_ ?_
       refine TC.seq ?_
       refine TC.cond_p rfl h (fun hc6445 h => ?_) (fun hc6445 h => ?_)
       ·
        refine TC.skip ?_
        refine TQ.then_ ?_
        refine TC.seq ?_
        refine TC.block ?_
        refine TC.seq ?_
        refine TC.region ?_
        refine TK.sel (Ls := [Row (Kd.int .i64) 3 (.slice A6306 y6304.length c6307) y6304, Blk b7 [.int .i64 x6376] 3, Mk (o1588 :: [])]) [2, 0, 1] 3 rfl rfl rfl ?_
        refine TK.share (fun G6461 e6462 hs6463 hb6464 => ?_)
        have rd6465 : Rd G6461 (Kd.int .i64) A6306 y6304 := Rd.row hs6463
        have le6466 : y6304.length ≤ c6307 := Row.le hs6463
        obtain ⟨y6467, hx6468, h⟩ := bind_no h
        obtain ⟨ad6469, cs6475, hA6470, hi6471, hj6472, hcl6473, hK6474⟩ := Rd.at rd6465 hx6468
        obtain rfl := RdK.int hK6474
        refine TL.cons (TO.val rfl rfl rfl (Val.indexAddr Tryd.underlying38 fsz3 rfl hA6470 rfl hi6471 hj6472) ?_)
        refine TL.cons (TO.val rfl rfl rfl (Val.loadS agg3 rfl (hcl6473 0 _ rfl)) ?_)
        refine TL.cons (TO.val rfl rfl rfl (Val.assign rfl) ?_)
        refine TL.nil ?_
        refine TQ.then_ ?_
        refine TC.region ?_
        refine TL.cons (TO.val rfl rfl rfl (Val.loadB 0 agg3 rfl rfl rfl) ?_)
        refine TL.cons (TO.val rfl rfl rfl (Val.move rfl) ?_)
        refine TL.cons (TO.val rfl rfl rfl (Val.max2 rfl rfl) ?_)
        refine TL.cons (TL.store 0 (ds := [.int .i64 (if x6376 < y6467 then y6467 else x6376)]) (cs' := [.int .i64 (if x6376 < y6467 then y6467 else x6376)]) (L' := (Blk b7 [.int .i64 (if x6376 < y6467 then y6467 else x6376)] 3 :: Mk (o1588 :: []) :: L)) rfl fsz3 rfl rfl rfl rfl rfl (Nat.le_of_ble_eq_true rfl) rfl rfl ?_)
        refine TL.nil ?_
        refine TQ.inB ?_
        refine TQ.then_ ?_
        refine TC.region ?_
        refine TL.cons (TO.val rfl rfl rfl (Val.cmp rfl rfl run_add) ?_)
        refine TL.cons (TO.val rfl rfl rfl (Val.move rfl) ?_)
        refine TL.nil ?_
        refine TQ.back hb6464 ?_
        exact fun a W hF hO => ⟨IntKind.i64.wrap (x6375 + 1), (if x6376 < y6467 then y6467 else x6376), h, hF.sub ⟨rfl, rfl, rfl, rfl, rfl, rfl, rfl, trivial⟩, hO.selT (Ls := [Blk b7 [.int .i64 (if x6376 < y6467 then y6467 else x6376)] 3, Mk (o1588 :: []), Row (Kd.int .i64) 3 (.slice A6306 y6304.length c6307) y6304]) [1, 2, 0] 3 rfl rfl rfl⟩
       ·
        refine TC.exit ?_
        refine TQ.thenX ?_
        refine TQ.thenX ?_
        refine TQ.inBX ?_
        exact fun a W hF hO => ⟨x6376, Option.some.inj h, hF.sub ⟨rfl, rfl, rfl, rfl, trivial⟩, hO.selT (Ls := [Blk b7 [.int .i64 x6376] 3, Mk (o1588 :: [])]) [0, 1] 3 rfl rfl rfl⟩
    ·
     refine TC.exit ?_
     refine TQ.thenX ?_
     refine TQ.thenX ?_
     refine TQ.inBX ?_
     exact fun a W hF hO => ⟨x5777, Option.some.inj h, hF.sub ⟨rfl, trivial⟩, hO.selT (Ls := [Blk b7 [.int .i64 x5777] 3, Mk (o1588 :: [])]) [0, 1] 2 rfl rfl rfl⟩
 ·
  refine TC.block ?_
  intro a W hF hO
  have hS : ∃ (x3489 : Int) (x3490 : Int), code_Regs.l0 a0 (a0.f1.length + 1) x3489 x3490 = some o4438 ∧ Fr 27 a [(0, .func (.yield o1587) #[] #[]), (8, .slice A1 a0.f1.length c2), (9, .int .i64 (a0.f1.length : Int)), (10, .int .i64 x3489)] ∧ Own G (Blk b11 [.int .i64 a0.f0, .slice A1 a0.f1.length c2] 27 :: Blk b6 [.int .i64 a0.f0, .slice A1 a0.f1.length c2] 27 :: Blk b7 [.int .i64 x3490] 3 :: Mk (o1588 :: []) :: Ob o1587 (LoopO R1586 .ready none) :: L) W := by
   exact ⟨0, (if 0 < a0.f0 then a0.f0 else 0), ho4438, hF.sub ⟨rfl, rfl, rfl, rfl, trivial⟩, hO.selT (Ls := [Blk b11 [.int .i64 a0.f0, .slice A1 a0.f1.length c2] 27, Blk b6 [.int .i64 a0.f0, .slice A1 a0.f1.length c2] 27, Blk b7 [.int .i64 (if 0 < a0.f0 then a0.f0 else 0)] 3, Mk (o1588 :: []), Ob o1587 (LoopO R1586 .ready none)]) [2, 4, 3, 0, 1] 5 rfl rfl rfl⟩
  clear hF hO ho4438 ko4438
  refine TC.loop (fun n4439 a W => ∃ (x3489 : Int) (x3490 : Int), code_Regs.l0 a0 n4439 x3489 x3490 = some o4438 ∧ Fr 27 a [(0, .func (.yield o1587) #[] #[]), (8, .slice A1 a0.f1.length c2), (9, .int .i64 (a0.f1.length : Int)), (10, .int .i64 x3489)] ∧ Own G (Blk b11 [.int .i64 a0.f0, .slice A1 a0.f1.length c2] 27 :: Blk b6 [.int .i64 a0.f0, .slice A1 a0.f1.length c2] 27 :: Blk b7 [.int .i64 x3490] 3 :: Mk (o1588 :: []) :: Ob o1587 (LoopO R1586 .ready none) :: L) W) ?_ ?_ hS
  ·
   rintro a W ⟨x3489, x3490, h, hF, hO⟩
   exact none_no h
  ·
   clear hS
   rintro n4439 a W ⟨x3489, x3490, h, hF, hO⟩
   rw [code_Regs.l0] at h
   refine TC.use ?_ hF hO
   clear hF hO
   refine TC.seq ?_
   refine TC.region ?_
   refine TL.cons (TO.val rfl rfl rfl (Val.cmp rfl rfl run_lss) ?_)
   refine TL.nil ?_
   refine TQ.then_ ?_
   refine TC.seq ?_
   refine TC.cond_p rfl h (fun hc6477 h => ?_) (fun hc6477 h => ?_)
   ·
    refine TC.skip ?_
    refine TQ.then_ ?_
    refine TC.seq ?_
    refine TC.block ?_
    refine TC.seq ?_
    refine TC.region ?_
    obtain ⟨y7163, hx7164, h⟩ := bind_no h
    obtain ⟨ad7165, cs7171, hA7166, hi7167, hj7168, hcl7169, hK7170⟩ := Rd.at hr3 hx7164
    obtain ⟨A7172, c7173, rfl, hr7174, hl7175⟩ := k37_openR hK7170
    refine TL.cons (TO.val rfl rfl rfl (Val.indexAddr Tryd.underlying25 fsz37 rfl hA7166 rfl hi7167 hj7168) ?_)
    refine TL.cons (TO.val rfl rfl rfl (Val.loadsS (cs := [.slice A7172 y7163.f0.length c7173, .int .i64 y7163.f1.f0, .int .i64 y7163.f1.f1, .int .i64 y7163.f1.f2, .int .i64 y7163.f1.f3]) agg37 fsz37 rfl rfl (Cl.sub (off := 0) (n := 5) hcl7169 rfl)) ?_)
    refine TL.cons (TL.alloc (cs := [.slice none 0 0, .int .i64 0, .int .i64 0, .int .i64 0, .int .i64 0]) rfl rfl zr37 rfl (fun b7176 => ?_))
    refine TL.cons (TL.store 0 (ds := [.slice A7172 y7163.f0.length c7173, .int .i64 y7163.f1.f0, .int .i64 y7163.f1.f1, .int .i64 y7163.f1.f2, .int .i64 y7163.f1.f3]) (cs' := [.slice A7172 y7163.f0.length c7173, .int .i64 y7163.f1.f0, .int .i64 y7163.f1.f1, .int .i64 y7163.f1.f2, .int .i64 y7163.f1.f3]) (L' := (Blk b7176 [.slice A7172 y7163.f0.length c7173, .int .i64 y7163.f1.f0, .int .i64 y7163.f1.f1, .int .i64 y7163.f1.f2, .int .i64 y7163.f1.f3] 37 :: Blk b11 [.int .i64 a0.f0, .slice A1 a0.f1.length c2] 27 :: Blk b6 [.int .i64 a0.f0, .slice A1 a0.f1.length c2] 27 :: Blk b7 [.int .i64 x3490] 3 :: Mk (o1588 :: []) :: Ob o1587 (LoopO R1586 .ready none) :: L)) rfl fsz37 rfl rfl rfl rfl rfl (Nat.le_of_ble_eq_true rfl) rfl rfl ?_)
    refine TL.nil ?_
    refine TQ.then_ ?_
    refine TC.seq ?_
    refine TC.region ?_
    refine TL.cons (TO.val rfl rfl rfl (Val.fieldAddrB Tryd.underlying37 rfl fsz33 rfl rfl rfl) ?_)
    refine TL.cons (TO.val rfl rfl rfl (Val.loadB 0 agg33 rfl rfl rfl) ?_)
    refine TL.cons (TO.val rfl rfl rfl (Val.len Tryd.underlying33 rfl) ?_)
    refine TL.cons (TO.val rfl rfl rfl (Val.move rfl) ?_)
    refine TL.nil ?_
    refine TQ.then_ ?_
    obtain ⟨o8178, ho8178, ko8178⟩ := bind_no h
    clear h
    refine TC.tail (fun a W => ∃ (x8177 : Int), x8177 = o8178 ∧ Fr 27 a [(0, .func (.yield o1587) #[] #[]), (8, .slice A1 a0.f1.length c2), (9, .int .i64 (a0.f1.length : Int)), (10, .int .i64 x3489)] ∧ Own G (Blk b11 [.int .i64 a0.f0, .slice A1 a0.f1.length c2] 27 :: Blk b6 [.int .i64 a0.f0, .slice A1 a0.f1.length c2] 27 :: Blk b7 [.int .i64 x8177] 3 :: Mk (o1588 :: []) :: Ob o1587 (LoopO R1586 .ready none) :: L) W) ?_ ?_
    ·
     rintro a W ⟨x8177, rfl, hF, hO⟩
     have h := ko8178
     clear ko8178 ho8178
     refine TQ.use ?_ hF hO
     clear hF hO
     refine TQ.inB ?_
     refine TQ.then_ ?_
     refine TC.region ?_
     refine TL.cons (TO.val rfl rfl rfl (Val.cmp rfl rfl run_add) ?_)
     refine TL.cons (TO.val rfl rfl rfl (Val.move rfl) ?_)
     refine TL.nil ?_
     exact fun a W hF hO => ⟨IntKind.i64.wrap (x3489 + 1), x8177, h, hF.sub ⟨rfl, rfl, rfl, rfl, trivial⟩, hO.selT (Ls := [Blk b11 [.int .i64 a0.f0, .slice A1 a0.f1.length c2] 27, Blk b6 [.int .i64 a0.f0, .slice A1 a0.f1.length c2] 27, Blk b7 [.int .i64 x8177] 3, Mk (o1588 :: []), Ob o1587 (LoopO R1586 .ready none)]) [0, 1, 2, 3, 4] 5 rfl rfl rfl⟩
    ·
     refine TC.block ?_
     intro a W hF hO
     have hS : ∃ (x7843 : Int) (x7844 : Int), code_Regs.l3 y7163 (y7163.f0.length + 1) x7843 x7844 = some o8178 ∧ Fr 27 a [(0, .func (.yield o1587) #[] #[]), (8, .slice A1 a0.f1.length c2), (9, .int .i64 (a0.f1.length : Int)), (10, .int .i64 x3489), (15, .slice A7172 y7163.f0.length c7173), (16, .int .i64 (y7163.f0.length : Int)), (17, .int .i64 x7843)] ∧ Own G (Blk b11 [.int .i64 a0.f0, .slice A1 a0.f1.length c2] 27 :: Blk b6 [.int .i64 a0.f0, .slice A1 a0.f1.length c2] 27 :: Blk b7 [.int .i64 x7844] 3 :: Mk (o1588 :: []) :: Ob o1587 (LoopO R1586 .ready none) :: L) W := by
      exact ⟨0, x3490, ho8178, hF.sub ⟨rfl, rfl, rfl, rfl, rfl, rfl, rfl, trivial⟩, hO.selT (Ls := [Blk b11 [.int .i64 a0.f0, .slice A1 a0.f1.length c2] 27, Blk b6 [.int .i64 a0.f0, .slice A1 a0.f1.length c2] 27, Blk b7 [.int .i64 x3490] 3, Mk (o1588 :: []), Ob o1587 (LoopO R1586 .ready none)]) [1, 2, 3, 4, 5] 6 rfl rfl rfl⟩
     clear hF hO ho8178 ko8178
     refine TC.loop (fun n8179 a W => ∃ (x7843 : Int) (x7844 : Int), code_Regs.l3 y7163 n8179 x7843 x7844 = some o8178 ∧ Fr 27 a [(0, .func (.yield o1587) #[] #[]), (8, .slice A1 a0.f1.length c2), (9, .int .i64 (a0.f1.length : Int)), (10, .int .i64 x3489), (15, .slice A7172 y7163.f0.length c7173), (16, .int .i64 (y7163.f0.length : Int)), (17, .int .i64 x7843)] ∧ Own G (Blk b11 [.int .i64 a0.f0, .slice A1 a0.f1.length c2] 27 :: Blk b6 [.int .i64 a0.f0, .slice A1 a0.f1.length c2] 27 :: Blk b7 [.int .i64 x7844] 3 :: Mk (o1588 :: []) :: Ob o1587 (LoopO R1586 .ready none) :: L) W) ?_ ?_ hS
     ·
      rintro a W ⟨x7843, x7844, h, hF, hO⟩
      exact none_no h
     ·
      clear hS
      rintro n8179 a W ⟨x7843, x7844, h, hF, hO⟩
      rw [code_Regs.l3] at h
      refine TC.use ?_ hF hO
      clear hF hO
      refine TC.seq ?_
      refine TC.region ?_
      refine TL.cons (TO.val rfl rfl rfl (Val.cmp rfl rfl run_lss) ?_)
      refine TL.nil ?_
      refine TQ.then_ ?_
      refine TC.seq ?_
      refine TC.cond_p rfl h (fun hc8513 h => ?_) (fun hc8513 h => ?_)
      ·
       refine TC.skip ?_
       refine TQ.then_ ?_
       refine TC.seq ?_
       refine TC.block ?_
       refine TC.seq ?_
       refine TC.region ?_
       obtain ⟨y8703, hx8704, h⟩ := bind_no h
       obtain ⟨ad8705, cs8711, hA8706, hi8707, hj8708, hcl8709, hK8710⟩ := Rd.at hr7174 hx8704
       obtain ⟨A8712, c8713, rfl, hr8714, hl8715⟩ := k40_openR hK8710
       refine TL.cons (TO.val rfl rfl rfl (Val.indexAddr Tryd.underlying33 fsz40 rfl hA8706 rfl hi8707 hj8708) ?_)
       refine TL.cons (TO.val rfl rfl rfl (Val.loadsS (cs := [.int .i64 y8703.f0, .int .i64 y8703.f1, .int .i64 y8703.f2, .int .i64 y8703.f3, .int .i64 y8703.f4, .slice A8712 y8703.f5.length c8713]) agg40 fsz40 rfl rfl (Cl.sub (off := 0) (n := 6) hcl8709 rfl)) ?_)
       refine TL.cons (TL.alloc (cs := [.int .i64 0, .int .i64 0, .int .i64 0, .int .i64 0, .int .i64 0, .slice none 0 0]) rfl rfl zr40 rfl (fun b8716 => ?_))
       refine TL.cons (TL.store 0 (ds := [.int .i64 y8703.f0, .int .i64 y8703.f1, .int .i64 y8703.f2, .int .i64 y8703.f3, .int .i64 y8703.f4, .slice A8712 y8703.f5.length c8713]) (cs' := [.int .i64 y8703.f0, .int .i64 y8703.f1, .int .i64 y8703.f2, .int .i64 y8703.f3, .int .i64 y8703.f4, .slice A8712 y8703.f5.length c8713]) (L' := (Blk b8716 [.int .i64 y8703.f0, .int .i64 y8703.f1, .int .i64 y8703.f2, .int .i64 y8703.f3, .int .i64 y8703.f4, .slice A8712 y8703.f5.length c8713] 40 :: Blk b11 [.int .i64 a0.f0, .slice A1 a0.f1.length c2] 27 :: Blk b6 [.int .i64 a0.f0, .slice A1 a0.f1.length c2] 27 :: Blk b7 [.int .i64 x7844] 3 :: Mk (o1588 :: []) :: Ob o1587 (LoopO R1586 .ready none) :: L)) rfl fsz40 rfl rfl rfl rfl rfl (Nat.le_of_ble_eq_true rfl) rfl rfl ?_)
       refine TL.nil ?_
       refine TQ.then_ ?_
       refine TC.seq ?_
       refine TC.region ?_
       refine TL.cons (TO.val rfl rfl rfl (Val.move rfl) ?_)
       refine TL.cons (TO.val rfl rfl rfl (Val.loadsB 0 (cs := [.int .i64 y8703.f0, .int .i64 y8703.f1, .int .i64 y8703.f2, .int .i64 y8703.f3, .int .i64 y8703.f4, .slice A8712 y8703.f5.length c8713]) agg40 fsz40 rfl rfl rfl rfl) ?_)
       refine TL.cons (TO.yield 5 rfl rfl rfl rfl hp1590 ha1591 hb1592 rfl hf1593 rfl rfl (fun a8717 hf8718 => ?_))
       refine TC.region ?_
       refine TL.cons (TL.alloc (cs := [.int .i64 0, .int .i64 0, .int .i64 0, .int .i64 0, .int .i64 0, .slice none 0 0]) rfl rfl zr40 rfl (fun b8719 => ?_))
       refine TL.cons (TL.store 0 (ds := [.int .i64 y8703.f0, .int .i64 y8703.f1, .int .i64 y8703.f2, .int .i64 y8703.f3, .int .i64 y8703.f4, .slice A8712 y8703.f5.length c8713]) (cs' := [.int .i64 y8703.f0, .int .i64 y8703.f1, .int .i64 y8703.f2, .int .i64 y8703.f3, .int .i64 y8703.f4, .slice A8712 y8703.f5.length c8713]) (L' := (Blk b8719 [.int .i64 y8703.f0, .int .i64 y8703.f1, .int .i64 y8703.f2, .int .i64 y8703.f3, .int .i64 y8703.f4, .slice A8712 y8703.f5.length c8713] 40 :: Blk b8716 [.int .i64 y8703.f0, .int .i64 y8703.f1, .int .i64 y8703.f2, .int .i64 y8703.f3, .int .i64 y8703.f4, .slice A8712 y8703.f5.length c8713] 40 :: Blk b11 [.int .i64 a0.f0, .slice A1 a0.f1.length c2] 27 :: Blk b6 [.int .i64 a0.f0, .slice A1 a0.f1.length c2] 27 :: Blk b7 [.int .i64 x7844] 3 :: Mk (o1588 :: []) :: Ob o1587 (LoopO R1586 .ready none) :: L)) rfl fsz40 rfl rfl rfl rfl rfl (Nat.le_of_ble_eq_true rfl) rfl rfl ?_)
       refine TL.nil ?_
       refine TQ.begin (L' := (Blk b8719 [.int .i64 y8703.f0, .int .i64 y8703.f1, .int .i64 y8703.f2, .int .i64 y8703.f3, .int .i64 y8703.f4, .slice A8712 y8703.f5.length c8713] 40 :: Blk b8716 [.int .i64 y8703.f0, .int .i64 y8703.f1, .int .i64 y8703.f2, .int .i64 y8703.f3, .int .i64 y8703.f4, .slice A8712 y8703.f5.length c8713] 40 :: Blk b11 [.int .i64 a0.f0, .slice A1 a0.f1.length c2] 27 :: Blk b6 [.int .i64 a0.f0, .slice A1 a0.f1.length c2] 27 :: Blk b7 [.int .i64 x7844] 3 :: Mk (o1588 :: []) :: Ob o1587 (LoopO R1586 .busy none) :: L)) 6 rfl rfl ?_
       refine TC.block ?_
       refine TC.seq ?_
       refine TC.regionAny [4] [0, 1, 3] mixed (by kernel_rfl) ?_
       refine TA.take 0 rfl (by kernel_rfl) rfl (PQ.then_ (PQ.inB PQ.round)) rfl (Val.loadB 4 agg3 rfl rfl rfl) (fun W hO => hO) ?_
       refine TA.take 1 rfl (by kernel_rfl) rfl (PQ.then_ (PQ.inB PQ.round)) rfl (Val.loadsB 0 (cs := [.int .i64 y8703.f0, .int .i64 y8703.f1, .int .i64 y8703.f2, .int .i64 y8703.f3, .int .i64 y8703.f4, .slice A8712 y8703.f5.length c8713]) agg40 fsz40 rfl rfl rfl rfl) (fun W hO => hO) ?_
       obtain ⟨y8832, hy8833, h⟩ := bind_no h
       refine TA.eff 2 rfl (by kernel_rfl) rfl (TL.callV (Lin := []) (args := [.agg #[.int .i64 y8703.f0, .int .i64 y8703.f1, .int .i64 y8703.f2, .int .i64 y8703.f3, .int .i64 y8703.f4, .slice A8712 y8703.f5.length c8713]]) rfl rfl rfl hbd18 rfl rfl (code_Sets.calls (a0 := y8703) hr8714 hl8715 hy8833) rfl ?_)
       rintro _ _ _ _ ⟨rfl, rfl, rfl⟩
       refine TA.next (fun W hO => hO) ?_
       refine TA.take 3 rfl (by kernel_rfl) rfl (PQ.then_ (PQ.inB PQ.round)) rfl (Val.max2 rfl rfl) (fun W hO => hO) ?_
       refine TA.eff 4 rfl (by kernel_rfl) rfl (TL.store 4 (ds := [.int .i64 (if x7844 < y8832 then y8832 else x7844)]) (cs' := [.int .i64 (if x7844 < y8832 then y8832 else x7844)]) (L' := (Blk b8719 [.int .i64 y8703.f0, .int .i64 y8703.f1, .int .i64 y8703.f2, .int .i64 y8703.f3, .int .i64 y8703.f4, .slice A8712 y8703.f5.length c8713] 40 :: Blk b8716 [.int .i64 y8703.f0, .int .i64 y8703.f1, .int .i64 y8703.f2, .int .i64 y8703.f3, .int .i64 y8703.f4, .slice A8712 y8703.f5.length c8713] 40 :: Blk b11 [.int .i64 a0.f0, .slice A1 a0.f1.length c2] 27 :: Blk b6 [.int .i64 a0.f0, .slice A1 a0.f1.length c2] 27 :: Blk b7 [.int .i64 (if x7844 < y8832 then y8832 else x7844)] 3 :: Mk (o1588 :: []) :: Ob o1587 (LoopO R1586 .busy none) :: L)) rfl fsz3 rfl rfl rfl rfl rfl (Nat.le_of_ble_eq_true rfl) rfl rfl ?_)
       refine TA.last rfl ?_
       refine TA.done (by kernel_rfl) ?_
       refine TQ.then_ ?_
       refine TC.seq ?_
       refine TC.region ?_
       refine TL.cons (TO.val rfl rfl rfl (Val.loadsB 0 (cs := [.int .i64 y8703.f0, .int .i64 y8703.f1, .int .i64 y8703.f2, .int .i64 y8703.f3, .int .i64 y8703.f4, .slice A8712 y8703.f5.length c8713]) agg40 fsz40 rfl rfl rfl rfl) ?_)
       obtain ⟨y8834, hy8835, h⟩ := bind_no h
       refine TL.cons (TL.callV (Lin := []) (args := [.agg #[.int .i64 y8703.f0, .int .i64 y8703.f1, .int .i64 y8703.f2, .int .i64 y8703.f3, .int .i64 y8703.f4, .slice A8712 y8703.f5.length c8713]]) rfl rfl rfl hbd19 rfl rfl (code_Uses.calls (a0 := y8703) hr8714 hl8715 hy8835) rfl ?_)
       rintro _ _ _ _ ⟨rfl, A8836, c8837, rfl, rfl⟩
       refine TL.cons (TO.val rfl rfl rfl (Val.len Tryd.underlying38 rfl) ?_)
       refine TL.cons (TO.val rfl rfl rfl (Val.move rfl) ?_)
       refine TL.nil ?_
       refine TQ.then_ ?_
       obtain ⟨o8940, ho8940, ko8940⟩ := bind_no h
       clear h
       refine TC.tail (fun a W => ∃ (x8939 : Int), x8939 = o8940 ∧ Fr 53 a [] ∧ Own G (Blk b11 [.int .i64 a0.f0, .slice A1 a0.f1.length c2] 27 :: Blk b6 [.int .i64 a0.f0, .slice A1 a0.f1.length c2] 27 :: Blk b7 [.int .i64 x8939] 3 :: Blk b8716 [.int .i64 y8703.f0, .int .i64 y8703.f1, .int .i64 y8703.f2, .int .i64 y8703.f3, .int .i64 y8703.f4, .slice A8712 y8703.f5.length c8713] 40 :: Mk (o1588 :: []) :: Ob o1587 (LoopO R1586 .busy none) :: L) W) ?_ ?_
       ·
        rintro a W ⟨x8939, rfl, hF, hO⟩
        have h := ko8940
        clear ko8940 ho8940
        refine TQ.use ?_ hF hO
        clear hF hO
        refine TQ.inB ?_
        refine TQ.roundN (L' := (Blk b11 [.int .i64 a0.f0, .slice A1 a0.f1.length c2] 27 :: Blk b6 [.int .i64 a0.f0, .slice A1 a0.f1.length c2] 27 :: Blk b7 [.int .i64 x8939] 3 :: Blk b8716 [.int .i64 y8703.f0, .int .i64 y8703.f1, .int .i64 y8703.f2, .int .i64 y8703.f3, .int .i64 y8703.f4, .slice A8712 y8703.f5.length c8713] 40 :: Mk (o1588 :: []) :: Ob o1587 (LoopO R1586 .ready none) :: L)) 5 rfl rfl (After.mk hf8718 rfl ?_)
        refine TL.cons (TO.val rfl rfl rfl (Val.not_ rfl) ?_)
        refine TL.nil ?_
        refine TQ.then_ ?_
        refine TC.condF rfl ?_
        refine TC.skip ?_
        refine TQ.inB ?_
        refine TQ.then_ ?_
        refine TC.region ?_
        refine TL.cons (TO.val rfl rfl rfl (Val.cmp rfl rfl run_add) ?_)
        refine TL.cons (TO.val rfl rfl rfl (Val.move rfl) ?_)
        refine TL.nil ?_
        exact fun a W hF hO => ⟨IntKind.i64.wrap (x7843 + 1), x8939, h, hF.sub ⟨rfl, rfl, rfl, rfl, rfl, rfl, rfl, trivial⟩, hO.selT (Ls := [Blk b11 [.int .i64 a0.f0, .slice A1 a0.f1.length c2] 27, Blk b6 [.int .i64 a0.f0, .slice A1 a0.f1.length c2] 27, Blk b7 [.int .i64 x8939] 3, Mk (o1588 :: []), Ob o1587 (LoopO R1586 .ready none)]) [0, 1, 2, 4, 5] 6 rfl rfl rfl⟩
       ·
        refine TC.block ?_
        intro a W hF hO
        have hS : ∃ (x8905 : Int) (x8906 : Int), code_Regs.l4 y8834 (y8834.length + 1) x8905 x8906 = some o8940 ∧ Fr 53 a [(3, .pointer (some ⟨b7, 0, none⟩)), (22, .slice A8836 y8834.length c8837), (23, .int .i64 (y8834.length : Int)), (24, .int .i64 x8905)] ∧ Own G (Blk b11 [.int .i64 a0.f0, .slice A1 a0.f1.length c2] 27 :: Blk b6 [.int .i64 a0.f0, .slice A1 a0.f1.length c2] 27 :: Blk b7 [.int .i64 x8906] 3 :: Blk b8716 [.int .i64 y8703.f0, .int .i64 y8703.f1, .int .i64 y8703.f2, .int .i64 y8703.f3, .int .i64 y8703.f4, .slice A8712 y8703.f5.length c8713] 40 :: Mk (o1588 :: []) :: Ob o1587 (LoopO R1586 .busy none) :: Row (Kd.int .i64) 3 (.slice A8836 y8834.length c8837) y8834 :: L) W := by
         exact ⟨0, (if x7844 < y8832 then y8832 else x7844), ho8940, hF.sub ⟨rfl, rfl, rfl, rfl, trivial⟩, hO.selT (Ls := [Blk b11 [.int .i64 a0.f0, .slice A1 a0.f1.length c2] 27, Blk b6 [.int .i64 a0.f0, .slice A1 a0.f1.length c2] 27, Blk b7 [.int .i64 (if x7844 < y8832 then y8832 else x7844)] 3, Blk b8716 [.int .i64 y8703.f0, .int .i64 y8703.f1, .int .i64 y8703.f2, .int .i64 y8703.f3, .int .i64 y8703.f4, .slice A8712 y8703.f5.length c8713] 40, Mk (o1588 :: []), Ob o1587 (LoopO R1586 .busy none), Row (Kd.int .i64) 3 (.slice A8836 y8834.length c8837) y8834]) [3, 4, 5, 2, 6, 7, 0] 8 rfl rfl rfl⟩
        clear hF hO ho8940 ko8940
        refine TC.loop (fun n8941 a W => ∃ (x8905 : Int) (x8906 : Int), code_Regs.l4 y8834 n8941 x8905 x8906 = some o8940 ∧ Fr 53 a [(3, .pointer (some ⟨b7, 0, none⟩)), (22, .slice A8836 y8834.length c8837), (23, .int .i64 (y8834.length : Int)), (24, .int .i64 x8905)] ∧ Own G (Blk b11 [.int .i64 a0.f0, .slice A1 a0.f1.length c2] 27 :: Blk b6 [.int .i64 a0.f0, .slice A1 a0.f1.length c2] 27 :: Blk b7 [.int .i64 x8906] 3 :: Blk b8716 [.int .i64 y8703.f0, .int .i64 y8703.f1, .int .i64 y8703.f2, .int .i64 y8703.f3, .int .i64 y8703.f4, .slice A8712 y8703.f5.length c8713] 40 :: Mk (o1588 :: []) :: Ob o1587 (LoopO R1586 .busy none) :: Row (Kd.int .i64) 3 (.slice A8836 y8834.length c8837) y8834 :: L) W) ?_ ?_ hS
        ·
         rintro a W ⟨x8905, x8906, h, hF, hO⟩
         exact none_no h
        ·
         clear hS
         rintro n8941 a W ⟨x8905, x8906, h, hF, hO⟩
         rw [code_Regs.l4] at h
         refine TC.use ?_ hF hO
         clear hF hO
         refine TC.seq ?_
         refine TC.region ?_
         refine TL.cons (TO.val rfl rfl rfl (Val.cmp rfl rfl run_lss) ?_)
         refine TL.nil ?_
         refine TQ.then_ ?_
         refine TC.seq ?_
         refine TC.cond_p rfl h (fun hc8975 h => ?_) (fun hc8975 h => ?_)
         ·
          refine TC.skip ?_
          refine TQ.then_ ?_
          refine TC.seq ?_
          refine TC.block ?_
          refine TC.seq ?_
          refine TC.region ?_
          refine TK.sel (Ls := [Row (Kd.int .i64) 3 (.slice A8836 y8834.length c8837) y8834, Blk b11 [.int .i64 a0.f0, .slice A1 a0.f1.length c2] 27, Blk b6 [.int .i64 a0.f0, .slice A1 a0.f1.length c2] 27, Blk b7 [.int .i64 x8906] 3, Blk b8716 [.int .i64 y8703.f0, .int .i64 y8703.f1, .int .i64 y8703.f2, .int .i64 y8703.f3, .int .i64 y8703.f4, .slice A8712 y8703.f5.length c8713] 40, Mk (o1588 :: []), Ob o1587 (LoopO R1586 .busy none)]) [6, 0, 1, 2, 3, 4, 5] 7 rfl rfl rfl ?_
          refine TK.share (fun G8991 e8992 hs8993 hb8994 => ?_)
          have rd8995 : Rd G8991 (Kd.int .i64) A8836 y8834 := Rd.row hs8993
          have le8996 : y8834.length ≤ c8837 := Row.le hs8993
          obtain ⟨y8997, hx8998, h⟩ := bind_no h
          obtain ⟨ad8999, cs9005, hA9000, hi9001, hj9002, hcl9003, hK9004⟩ := Rd.at rd8995 hx8998
          obtain rfl := RdK.int hK9004
          refine TL.cons (TO.val rfl rfl rfl (Val.indexAddr Tryd.underlying38 fsz3 rfl hA9000 rfl hi9001 hj9002) ?_)
          refine TL.cons (TO.val rfl rfl rfl (Val.loadS agg3 rfl (hcl9003 0 _ rfl)) ?_)
          refine TL.cons (TO.val rfl rfl rfl (Val.assign rfl) ?_)
          refine TL.nil ?_
          refine TQ.then_ ?_
          refine TC.region ?_
          refine TL.cons (TO.val rfl rfl rfl (Val.loadB 2 agg3 rfl rfl rfl) ?_)
          refine TL.cons (TO.val rfl rfl rfl (Val.move rfl) ?_)
          refine TL.cons (TO.val rfl rfl rfl (Val.max2 rfl rfl) ?_)
          refine TL.cons (TL.store 2 (ds := [.int .i64 (if x8906 < y8997 then y8997 else x8906)]) (cs' := [.int .i64 (if x8906 < y8997 then y8997 else x8906)]) (L' := (Blk b11 [.int .i64 a0.f0, .slice A1 a0.f1.length c2] 27 :: Blk b6 [.int .i64 a0.f0, .slice A1 a0.f1.length c2] 27 :: Blk b7 [.int .i64 (if x8906 < y8997 then y8997 else x8906)] 3 :: Blk b8716 [.int .i64 y8703.f0, .int .i64 y8703.f1, .int .i64 y8703.f2, .int .i64 y8703.f3, .int .i64 y8703.f4, .slice A8712 y8703.f5.length c8713] 40 :: Mk (o1588 :: []) :: Ob o1587 (LoopO R1586 .busy none) :: L)) rfl fsz3 rfl rfl rfl rfl rfl (Nat.le_of_ble_eq_true rfl) rfl rfl ?_)
          refine TL.nil ?_
          refine TQ.inB ?_
          refine TQ.then_ ?_
          refine TC.region ?_
          refine TL.cons (TO.val rfl rfl rfl (Val.cmp rfl rfl run_add) ?_)
          refine TL.cons (TO.val rfl rfl rfl (Val.move rfl) ?_)
          refine TL.nil ?_
          refine TQ.back hb8994 ?_
          exact fun a W hF hO => ⟨IntKind.i64.wrap (x8905 + 1), (if x8906 < y8997 then y8997 else x8906), h, hF.sub ⟨rfl, rfl, rfl, rfl, trivial⟩, hO.selT (Ls := [Blk b11 [.int .i64 a0.f0, .slice A1 a0.f1.length c2] 27, Blk b6 [.int .i64 a0.f0, .slice A1 a0.f1.length c2] 27, Blk b7 [.int .i64 (if x8906 < y8997 then y8997 else x8906)] 3, Blk b8716 [.int .i64 y8703.f0, .int .i64 y8703.f1, .int .i64 y8703.f2, .int .i64 y8703.f3, .int .i64 y8703.f4, .slice A8712 y8703.f5.length c8713] 40, Mk (o1588 :: []), Ob o1587 (LoopO R1586 .busy none), Row (Kd.int .i64) 3 (.slice A8836 y8834.length c8837) y8834]) [1, 2, 3, 4, 5, 6, 0] 7 rfl rfl rfl⟩
         ·
          refine TC.exit ?_
          refine TQ.thenX ?_
          refine TQ.thenX ?_
          refine TQ.inBX ?_
          exact fun a W hF hO => ⟨x8906, Option.some.inj h, hF.sub trivial, hO.selT (Ls := [Blk b11 [.int .i64 a0.f0, .slice A1 a0.f1.length c2] 27, Blk b6 [.int .i64 a0.f0, .slice A1 a0.f1.length c2] 27, Blk b7 [.int .i64 x8906] 3, Blk b8716 [.int .i64 y8703.f0, .int .i64 y8703.f1, .int .i64 y8703.f2, .int .i64 y8703.f3, .int .i64 y8703.f4, .slice A8712 y8703.f5.length c8713] 40, Mk (o1588 :: []), Ob o1587 (LoopO R1586 .busy none)]) [0, 1, 2, 3, 4, 5] 7 rfl rfl rfl⟩
      ·
       refine TC.exit ?_
       refine TQ.thenX ?_
       refine TQ.thenX ?_
       refine TQ.inBX ?_
       exact fun a W hF hO => ⟨x7844, Option.some.inj h, hF.sub ⟨rfl, rfl, rfl, rfl, trivial⟩, hO.selT (Ls := [Blk b11 [.int .i64 a0.f0, .slice A1 a0.f1.length c2] 27, Blk b6 [.int .i64 a0.f0, .slice A1 a0.f1.length c2] 27, Blk b7 [.int .i64 x7844] 3, Mk (o1588 :: []), Ob o1587 (LoopO R1586 .ready none)]) [0, 1, 2, 3, 4] 5 rfl rfl rfl⟩
   ·
    refine TC.exit ?_
    refine TQ.thenX ?_
    refine TQ.thenX ?_
    refine TQ.inBX ?_
    exact fun a W hF hO => ⟨x3490, Option.some.inj h, hF.sub trivial, hO.selT (Ls := [Blk b11 [.int .i64 a0.f0, .slice A1 a0.f1.length c2] 27, Blk b6 [.int .i64 a0.f0, .slice A1 a0.f1.length c2] 27, Blk b7 [.int .i64 x3490] 3, Mk (o1588 :: []), Ob o1587 (LoopO R1586 .ready none)]) [0, 1, 2, 3, 4] 5 rfl rfl rfl⟩
end Go.Proofs.YtmacdhkfgoahcaaDoor.Sy
set_option linter.unusedVariables false
set_option linter.unusedSimpArgs false
set_option maxRecDepth 100000
set_option maxHeartbeats 4000000
namespace Go.Proofs.YtmacdhkfgoahcaaDoor.Sy
open Go Go.RowKit Go.Proofs.YtmacdhkfgoahcaaDoorW.PrintWords 
def code_n.f (a0 : Int) : Option ByteArray := (strconv_Itoa.f a0).bind fun (y1 : ByteArray) => some y1
def code_n.post (G : Gd) (r : ByteArray) (v : Value) (G' : Gd) (Lr : List Ch) : Prop := G = G' ∧ v = .string r ∧ Lr = []
theorem code_n.calls {G : Gd} {r : ByteArray} {a0 : Int} (ht : Tab G) (h : code_n.f a0 = some r) : Fn Tryd.prog 65 G [] [.int .i64 a0] (code_n.post G r) := by
 refine Fn.intro (e := [(0, .int .i64 a0)]) 5 Tryd.func65 rfl Tryd.ntmps65 rfl rfl (Nat.le_of_ble_eq_true rfl) (fun L => ?_)
 unfold code_n.f at h
 refine TC.seq ?_
 refine TC.region ?_
 refine TL.cons (TO.val rfl rfl rfl (Val.assign rfl) ?_)
 refine TL.nil ?_
 refine TQ.then_ ?_
 refine TC.seq ?_
 refine TC.region ?_
 refine TL.cons (TO.val rfl rfl rfl (Val.move rfl) ?_)
 obtain ⟨y1, hy2, h⟩ := bind_no h
 refine TL.cons (TL.callV (Lin := []) (args := [.int .i64 a0]) rfl rfl rfl hbd85 rfl rfl (strconv_Itoa.calls (a0 := a0) ht hy2) rfl ?_)
 rintro _ _ _ _ ⟨rfl, rfl, rfl⟩
 refine TL.cons (TO.val rfl rfl rfl (Val.assign rfl) ?_)
 refine TL.nil ?_
 refine TQ.then_ ?_
 refine TC.ret ?_
 obtain rfl := Option.some.inj h
 exact TQ.fin (.inl rfl) rfl Tryd.results65 (.tmp rfl .nil) rfl (FRel.mk (Ls := []) [] 0 (Gd.le.refl _) rfl rfl rfl ⟨rfl, rfl, rfl⟩)
end Go.Proofs.YtmacdhkfgoahcaaDoor.Sy
set_option linter.unusedVariables false
set_option linter.unusedSimpArgs false
set_option maxRecDepth 100000
set_option maxHeartbeats 4000000
namespace Go.Proofs.YtmacdhkfgoahcaaDoor.Sy
open Go Go.RowKit Go.Proofs.YtmacdhkfgoahcaaDoorW.PrintWords 
def code_b.f (a0 : Int) : Option ByteArray := (strconv_Itoa.f a0).bind fun (y1 : ByteArray) => (if (⟨#[98]⟩ : ByteArray).size + y1.size ≤ 9223372036854775807 then some (cat (⟨#[98]⟩ : ByteArray) y1) else none)
def code_b.post (G : Gd) (r : ByteArray) (v : Value) (G' : Gd) (Lr : List Ch) : Prop := G = G' ∧ v = .string r ∧ Lr = []
theorem code_b.calls {G : Gd} {r : ByteArray} {a0 : Int} (ht : Tab G) (h : code_b.f a0 = some r) : Fn Tryd.prog 66 G [] [.int .i64 a0] (code_b.post G r) := by
 refine Fn.intro (e := [(0, .int .i64 a0)]) 6 Tryd.func66 rfl Tryd.ntmps66 rfl rfl (Nat.le_of_ble_eq_true rfl) (fun L => ?_)
 unfold code_b.f at h
 refine TC.seq ?_
 refine TC.region ?_
 refine TL.cons (TO.val rfl rfl rfl (Val.assign rfl) ?_)
 refine TL.nil ?_
 refine TQ.then_ ?_
 refine TC.seq ?_
 refine TC.region ?_
 refine TL.cons (TO.val rfl rfl rfl (Val.move rfl) ?_)
 obtain ⟨y1, hy2, h⟩ := bind_no h
 refine TL.cons (TL.callV (Lin := []) (args := [.int .i64 a0]) rfl rfl rfl hbd85 rfl rfl (strconv_Itoa.calls (a0 := a0) ht hy2) rfl ?_)
 rintro _ _ _ _ ⟨rfl, rfl, rfl⟩
 obtain ⟨hz3, h⟩ := ite_no h
 refine TL.cons (TO.val rfl rfl rfl (Val.addS rfl rfl hz3) ?_)
 refine TL.cons (TO.val rfl rfl rfl (Val.assign rfl) ?_)
 refine TL.nil ?_
 refine TQ.then_ ?_
 refine TC.ret ?_
 obtain rfl := Option.some.inj h
 exact TQ.fin (.inl rfl) rfl Tryd.results66 (.tmp rfl .nil) rfl (FRel.mk (Ls := []) [] 0 (Gd.le.refl _) rfl rfl rfl ⟨rfl, rfl, rfl⟩)
end Go.Proofs.YtmacdhkfgoahcaaDoor.Sy
set_option linter.unusedVariables false
set_option linter.unusedSimpArgs false
set_option maxRecDepth 100000
set_option maxHeartbeats 4000000
namespace Go.Proofs.YtmacdhkfgoahcaaDoor.Sy
open Go Go.RowKit Go.Proofs.YtmacdhkfgoahcaaDoorW.PrintWords 
def code_v.f (a0 : Int) : Option ByteArray := (strconv_Itoa.f a0).bind fun (y1 : ByteArray) => (if (⟨#[118]⟩ : ByteArray).size + y1.size ≤ 9223372036854775807 then some (cat (⟨#[118]⟩ : ByteArray) y1) else none)
def code_v.post (G : Gd) (r : ByteArray) (v : Value) (G' : Gd) (Lr : List Ch) : Prop := G = G' ∧ v = .string r ∧ Lr = []
theorem code_v.calls {G : Gd} {r : ByteArray} {a0 : Int} (ht : Tab G) (h : code_v.f a0 = some r) : Fn Tryd.prog 86 G [] [.int .i64 a0] (code_v.post G r) := by
 refine Fn.intro (e := [(0, .int .i64 a0)]) 6 Tryd.func86 rfl Tryd.ntmps86 rfl rfl (Nat.le_of_ble_eq_true rfl) (fun L => ?_)
 unfold code_v.f at h
 refine TC.seq ?_
 refine TC.region ?_
 refine TL.cons (TO.val rfl rfl rfl (Val.assign rfl) ?_)
 refine TL.nil ?_
 refine TQ.then_ ?_
 refine TC.seq ?_
 refine TC.region ?_
 refine TL.cons (TO.val rfl rfl rfl (Val.move rfl) ?_)
 obtain ⟨y1, hy2, h⟩ := bind_no h
 refine TL.cons (TL.callV (Lin := []) (args := [.int .i64 a0]) rfl rfl rfl hbd85 rfl rfl (strconv_Itoa.calls (a0 := a0) ht hy2) rfl ?_)
 rintro _ _ _ _ ⟨rfl, rfl, rfl⟩
 obtain ⟨hz3, h⟩ := ite_no h
 refine TL.cons (TO.val rfl rfl rfl (Val.addS rfl rfl hz3) ?_)
 refine TL.cons (TO.val rfl rfl rfl (Val.assign rfl) ?_)
 refine TL.nil ?_
 refine TQ.then_ ?_
 refine TC.ret ?_
 obtain rfl := Option.some.inj h
 exact TQ.fin (.inl rfl) rfl Tryd.results86 (.tmp rfl .nil) rfl (FRel.mk (Ls := []) [] 0 (Gd.le.refl _) rfl rfl rfl ⟨rfl, rfl, rfl⟩)
end Go.Proofs.YtmacdhkfgoahcaaDoor.Sy
