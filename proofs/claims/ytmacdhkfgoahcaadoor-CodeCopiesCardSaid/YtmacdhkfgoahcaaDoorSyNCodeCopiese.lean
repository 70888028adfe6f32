/- Texts of this work, joined: SyF3, CcF. -/
import Derived.Test.YtmacdhkfgoahcaaDoorSyNCodeCopiesd
set_option linter.unusedVariables false
set_option linter.unusedSimpArgs false
set_option maxRecDepth 100000
set_option maxHeartbeats 4000000
namespace Go.Proofs.YtmacdhkfgoahcaaDoor.Sy
open Go Go.RowKit Go.Proofs.YtmacdhkfgoahcaaDoorW.PrintWords 
def swagelaw14_CodeCopies.l3 (a0 : (List S27)) (x32916 : Int) : Nat → Int → Option (Sum (Sum Bool (Unit)) (Unit))
 | 0, _ => none
 | n93480 + 1, x93352 => (if x93352 < x32916 then (at? a0 x32916).bind fun y93701 => (at? a0 x93352).bind fun y93714 => (code_Same.f y93701 y93714).bind fun (y93727 : Bool) => (swageref14_Same.f y93701 y93714).bind fun (y93729 : Bool) => (if (!(y93727 == y93729)) = true then some (.inl (.inl false)) else swagelaw14_CodeCopies.l3 a0 x32916 n93480 (IntKind.i64.wrap (x93352 + 1))) else some (.inr ()))
def swagelaw14_CodeCopies.l5 (y75634 : S27) (x88577 : Int) (x96475 : Int) : Nat → Int → Option (Unit)
 | 0, _ => none
 | n97721 + 1, x97669 => (at? y75634.f1 x88577).bind fun y97800 => (at? y97800.f0 x96475).bind fun y97814 => (if x97669 < (y97814.f5.length : Int) then (at? y97814.f5 x97669).bind fun y97840 => swagelaw14_CodeCopies.l5 y75634 x88577 x96475 n97721 (IntKind.i64.wrap (x97669 + 1)) else some ())
def swagelaw14_CodeCopies.l4 (y75634 : S27) (x88577 : Int) : Nat → Int → Option (Unit)
 | 0, _ => none
 | n96881 + 1, x96475 => (at? y75634.f1 x88577).bind fun y97300 => (if x96475 < (y97300.f0.length : Int) then (swagelaw14_CodeCopies.l5 y75634 x88577 x96475 100000 0).bind fun _ => (at? y75634.f1 x88577).bind fun y97772 => (at? y97772.f0 x96475).bind fun y97786 => swagelaw14_CodeCopies.l4 y75634 x88577 n96881 (IntKind.i64.wrap (x96475 + 1)) else some ())
def swagelaw14_CodeCopies.l2 (y75634 : S27) : Nat → Int → Option (Unit)
 | 0, _ => none
 | n90801 + 1, x88577 => (if x88577 < (y75634.f1.length : Int) then (swagelaw14_CodeCopies.l4 y75634 x88577 100000 0).bind fun _ => (at? y75634.f1 x88577).bind fun y97286 => swagelaw14_CodeCopies.l2 y75634 n90801 (IntKind.i64.wrap (x88577 + 1)) else some ())
def swagelaw14_CodeCopies.l1 (a0 : (List S27)) : Nat → Int → Option (Sum Bool (Unit))
 | 0, _ => none
 | n49336 + 1, x32916 => (if x32916 < (a0.length : Int) then (at? a0 x32916).bind fun y75615 => (swageref14_Copy.f y75615).bind fun (y75628 : S27) => (code_Copy.f y75615).bind fun (y75634 : S27) => (at? a0 x32916).bind fun y75654 => (swageref14_Same.f y75634 y75654).bind fun (y75667 : Bool) => (swagelaw14_CodeCopies.l2 y75634 (y75634.f1.length + 1) 0).bind fun _ => jn (γ := (Sum Bool (Unit))) (fun (x93095 : Bool) => (if x93095 = true then some (.inl false) else (swagelaw14_CodeCopies.l3 a0 x32916 (x32916.toNat + 1) 0).bind fun | .inl q_ => some q_ | .inr _ => (swagelaw14_CodeCopies.l1 a0 n49336 (IntKind.i64.wrap (x32916 + 1))))) (fun (j93096 : (Bool → Option (Sum Bool (Unit)))) => (if (!y75667) = true then j93096 true else (at? a0 x32916).bind fun y93784 => (swageref14_Same.f y93784 y75628).bind fun (y93797 : Bool) => (if (!y93797) = true then j93096 true else (code_Same.f y93784 y75628).bind fun (y93802 : Bool) => j93096 (!y93802)))) else some (.inr ()))
def swagelaw14_CodeCopies.l0 (a0 : (List S27)) (y5 : Bool) : Nat → Int → Option (Sum Bool (Unit))
 | 0, _ => none
 | n120 + 1, x82 => (if x82 < (a0.length : Int) then (at? a0 x82).bind fun y97869 => (swagelaw14_Few.f y97869).bind fun (y97882 : Bool) => (if (!y97882) = true then some (.inl y5) else swagelaw14_CodeCopies.l0 a0 y5 n120 (IntKind.i64.wrap (x82 + 1))) else some (.inr ()))
def swagelaw14_CodeCopies.f (a0 : (List S27)) : Option Bool := (swagelaw14_small.f).bind fun (y5 : Bool) => (if 10 < (a0.length : Int) then some y5 else (swagelaw14_CodeCopies.l0 a0 y5 (a0.length + 1) 0).bind fun | .inl q_ => some q_ | .inr _ => ((swagelaw14_CodeCopies.l1 a0 (a0.length + 1) 0).bind fun | .inl q_ => some q_ | .inr _ => (if y5 = true then (code_Program.f a0).bind fun (y65764 : Bool) => (swageref14_Program.f a0).bind fun (y65766 : Bool) => some (y65764 == y65766) else some false)))
def swagelaw14_CodeCopies.post (G : Gd)  (r : Bool) (v : Value) (G' : Gd) (Lr : List Ch) : Prop := G = G' ∧ v = .bool r ∧ Lr = []
theorem swagelaw14_CodeCopies.calls {G : Gd} {r : Bool} {a0 : (List S27)} {A1 : Option Addr} {c2 : Nat} (ht : Tab G) (hr3 : Rd G k27 A1 a0) (hl4 : a0.length ≤ c2) (h : swagelaw14_CodeCopies.f a0 = some r) : Fn Tryd.prog 3 G [] [.slice A1 a0.length c2] (swagelaw14_CodeCopies.post G  r) := by
 refine Fn.intro (e := [(0, .slice A1 a0.length c2)]) 106 Tryd.func3 rfl Tryd.ntmps3 rfl rfl (Nat.le_of_ble_eq_true rfl) (fun L => ?_)
 unfold swagelaw14_CodeCopies.f at h
 refine TC.seq ?_
 refine TC.region ?_
 refine TL.cons (TO.val rfl rfl rfl (Val.assign rfl) ?_)
 refine TL.nil ?_
 refine TQ.then_ ?_
 refine TC.seq ?_
 refine TC.region ?_
 obtain ⟨y5, hy6, h⟩ := bind_no h
 refine TL.cons (TL.callV (Lin := []) (args := []) rfl rfl rfl hbd7 rfl rfl (swagelaw14_small.calls ht hy6) rfl ?_)
 rintro _ _ _ _ ⟨rfl, rfl, rfl⟩
 refine TL.cons (TO.val rfl rfl rfl (Val.assign rfl) ?_)
 refine TL.nil ?_
 refine TQ.then_ ?_
 refine TC.seq ?_
 refine TC.seq ?_
 refine TC.region ?_
 refine TL.cons (TO.val rfl rfl rfl (Val.move rfl) ?_)
 refine TL.cons (TO.val rfl rfl rfl (Val.len Tryd.underlying22 rfl) ?_)
 refine TL.cons (TO.val rfl rfl rfl (Val.cmp rfl rfl run_gtr) ?_)
 refine TL.nil ?_
 refine TQ.then_ ?_
 refine TC.cond_p rfl h (fun hc8 h => ?_) (fun hc8 h => ?_)
 ·
  refine TC.seq ?_
  refine TC.region ?_
  refine TL.cons (TO.val rfl rfl rfl (Val.move rfl) ?_)
  refine TL.cons (TO.val rfl rfl rfl (Val.assign rfl) ?_)
  refine TL.nil ?_
  refine TQ.then_ ?_
  refine TC.ret ?_
  refine TQ.thenR ?_
  obtain rfl := Option.some.inj h
  exact TQ.fin (.inl rfl) rfl Tryd.results3 (.tmp rfl .nil) rfl (FRel.mk (Ls := []) [] 0 (Gd.le.refl _) rfl rfl rfl ⟨rfl, rfl, rfl⟩)
 ·
  refine TC.skip ?_
  refine TQ.then_ ?_
  refine TC.seq ?_
  refine TC.seq ?_
  refine TC.region ?_
  refine TL.cons (TO.val rfl rfl rfl (Val.assign rfl) ?_)
  refine TL.nil ?_
  refine TQ.then_ ?_
  obtain ⟨o119, ho119, ko119⟩ := bind_no h
  clear h
  refine TC.tail (fun a W => (.inr ()) = o119 ∧ Fr 106 a [(0, .slice A1 a0.length c2), (3, .bool y5)] ∧ Own G (L) W) ?_ ?_
  ·
   rintro a W ⟨rfl, hF, hO⟩
   have h := ko119
   clear ko119 ho119
   refine TQ.use ?_ hF hO
   clear hF hO
   refine TQ.then_ ?_
   refine TC.seq ?_
   refine TC.seq ?_
   refine TC.region ?_
   refine TL.cons (TO.val rfl rfl rfl (Val.assign rfl) ?_)
   refine TL.nil ?_
   refine TQ.then_ ?_
   obtain ⟨o49335, ho49335, ko49335⟩ := bind_no h
   clear h
   refine TC.tail (fun a W => (.inr ()) = o49335 ∧ Fr 106 a [(0, .slice A1 a0.length c2), (3, .bool y5)] ∧ Own G (L) W) ?_ ?_
   ·
    rintro a W ⟨rfl, hF, hO⟩
    have h := ko49335
    clear ko49335 ho49335
    refine TQ.use ?_ hF hO
    clear hF hO
    refine TQ.then_ ?_
    refine TC.seq ?_
    refine TC.region ?_
    refine TL.cons (TO.val rfl rfl rfl (Val.move rfl) ?_)
    refine TL.cons (TO.val rfl rfl rfl (Val.move rfl) ?_)
    refine TK.split (p := y5 = true) h (fun hg65762 h => ?_) (fun hg65762 h => ?_)
    ·
     have hk65763 : y5 = true := hg65762
     refine TL.cons (TO.val (Wt.yes rfl rfl rfl hk65763) rfl rfl (Val.move rfl) ?_)
     obtain ⟨y65764, hy65765, h⟩ := bind_no h
     refine TL.cons (TL.callV (Lin := []) (args := [.slice A1 a0.length c2]) (Wt.yes rfl rfl rfl hk65763) rfl rfl hbd14 rfl rfl (code_Program.calls (a0 := a0) hr3 hl4 hy65765) rfl ?_)
     rintro _ _ _ _ ⟨rfl, rfl, rfl⟩
     refine TL.cons (TO.val (Wt.yes rfl rfl rfl hk65763) rfl rfl (Val.move rfl) ?_)
     obtain ⟨y65766, hy65767, h⟩ := bind_no h
     refine TL.cons (TL.callV (Lin := []) (args := [.slice A1 a0.length c2]) (Wt.yes rfl rfl rfl hk65763) rfl rfl hbd15 rfl rfl (swageref14_Program.calls (a0 := a0) hr3 hl4 hy65767) rfl ?_)
     rintro _ _ _ _ ⟨rfl, rfl, rfl⟩
     refine TL.cons (TO.val (Wt.yes rfl rfl rfl hk65763) rfl rfl (Val.eqB Tryd.underlying4 rfl rfl) ?_)
     refine TL.cons (TO.val rfl rfl rfl (Val.pickY rfl hk65763 rfl) ?_)
     refine TL.cons (TO.val rfl rfl rfl (Val.assign rfl) ?_)
     refine TL.nil ?_
     refine TQ.then_ ?_
     refine TC.ret ?_
     obtain rfl := Option.some.inj h
     exact TQ.fin (.inl rfl) rfl Tryd.results3 (.tmp rfl .nil) rfl (FRel.mk (Ls := []) [] 0 (Gd.le.refl _) rfl rfl rfl ⟨rfl, rfl, rfl⟩)
    ·
     have hk65768 : y5 = false := (by simpa using hg65762)
     refine TL.cons (TL.not (Wt.no rfl rfl rfl hk65768) rfl ?_)
     refine TL.cons (TL.not (Wt.no rfl rfl rfl hk65768) rfl ?_)
     refine TL.cons (TL.not (Wt.no rfl rfl rfl hk65768) rfl ?_)
     refine TL.cons (TL.not (Wt.no rfl rfl rfl hk65768) rfl ?_)
     refine TL.cons (TL.not (Wt.no rfl rfl rfl hk65768) rfl ?_)
     refine TL.cons (TO.val rfl rfl rfl (Val.pickN rfl hk65768 rfl) ?_)
     refine TL.cons (TO.val rfl rfl rfl (Val.assign rfl) ?_)
     refine TL.nil ?_
     refine TQ.then_ ?_
     refine TC.ret ?_
     obtain rfl := Option.some.inj h
     exact TQ.fin (.inl rfl) rfl Tryd.results3 (.tmp rfl .nil) rfl (FRel.mk (Ls := []) [] 0 (Gd.le.refl _) rfl rfl rfl ⟨rfl, rfl, rfl⟩)
   ·
    refine TC.block ?_
    intro a W hF hO
    have hS : ∃ (x32916 : Int), swagelaw14_CodeCopies.l1 a0 (a0.length + 1) x32916 = some o49335 ∧ Fr 106 a [(0, .slice A1 a0.length c2), (3, .bool y5), (6, .int .i64 x32916)] ∧ Own G (L) W := by
     exact ⟨0, ho49335, hF.sub ⟨rfl, rfl, rfl, trivial⟩, hO.selT (Ls := []) [] 0 rfl rfl rfl⟩
    clear hF hO ho49335
    refine TC.loop (fun n49336 a W => ∃ (x32916 : Int), swagelaw14_CodeCopies.l1 a0 n49336 x32916 = some o49335 ∧ Fr 106 a [(0, .slice A1 a0.length c2), (3, .bool y5), (6, .int .i64 x32916)] ∧ Own G (L) W) ?_ ?_ hS
    ·
     rintro a W ⟨x32916, h, hF, hO⟩
     exact none_no h
    ·
     clear hS
     rintro n49336 a W ⟨x32916, h, hF, hO⟩
     rw [swagelaw14_CodeCopies.l1] at h
     refine TC.use ?_ hF hO
     clear hF hO
     refine TC.seq ?_
     refine TC.seq ?_
     refine TC.region ?_
     refine TL.cons (TO.val rfl rfl rfl (Val.move rfl) ?_)
     refine TL.cons (TO.val rfl rfl rfl (Val.move rfl) ?_)
     refine TL.cons (TO.val rfl rfl rfl (Val.len Tryd.underlying22 rfl) ?_)
     refine TL.cons (TO.val rfl rfl rfl (Val.cmp rfl rfl run_lss) ?_)
     refine TL.nil ?_
     refine TQ.then_ ?_
     refine TC.cond_p rfl h (fun hc65770 h => ?_) (fun hc65770 h => ?_)
     ·
      refine TC.skip ?_
      refine TQ.then_ ?_
      refine TC.seq ?_
      refine TC.block ?_
      refine TC.seq ?_
      refine TC.region ?_
      refine TL.cons (TO.val rfl rfl rfl (Val.move rfl) ?_)
      refine TL.cons (TO.val rfl rfl rfl (Val.move rfl) ?_)
      obtain ⟨y75615, hx75616, h⟩ := bind_no h
      obtain ⟨ad75617, cs75623, hA75618, hi75619, hj75620, hcl75621, hK75622⟩ := Rd.at hr3 hx75616
      obtain ⟨A75624, c75625, rfl, hr75626, hl75627⟩ := k27_openR hK75622
      refine TL.cons (TO.val rfl rfl rfl (Val.indexAddr Tryd.underlying22 fsz27 rfl hA75618 rfl hi75619 hj75620) ?_)
      refine TL.cons (TO.val rfl rfl rfl (Val.loadsS (cs := [.int .i64 y75615.f0, .slice A75624 y75615.f1.length c75625]) agg27 fsz27 rfl rfl (Cl.sub (off := 0) (n := 2) hcl75621 rfl)) ?_)
      obtain ⟨y75628, hy75629, h⟩ := bind_no h
      refine TL.cons (TL.callV (Lin := []) (args := [.agg #[.int .i64 y75615.f0, .slice A75624 y75615.f1.length c75625]]) rfl rfl rfl hbd9 rfl rfl (swageref14_Copy.calls (a0 := y75615) hr75626 hl75627 hy75629) rfl ?_)
      rintro _ _ _ _ ⟨rfl, A75630, c75631, rfl, rfl⟩
      refine TL.cons (TL.alloc (cs := [.int .i64 0, .slice none 0 0]) rfl rfl zr27 rfl (fun b75633 => ?_))
      refine TL.cons (TL.store 0 (ds := [.int .i64 y75628.f0, .slice A75630 y75628.f1.length c75631]) (cs' := [.int .i64 y75628.f0, .slice A75630 y75628.f1.length c75631]) (L' := (Blk b75633 [.int .i64 y75628.f0, .slice A75630 y75628.f1.length c75631] 27 :: Row k37 37 (.slice A75630 y75628.f1.length c75631) y75628.f1 :: L)) rfl fsz27 rfl rfl rfl rfl rfl (Nat.le_of_ble_eq_true rfl) rfl rfl ?_)
      refine TL.nil ?_
      refine TQ.then_ ?_
      refine TC.seq ?_
      refine TC.region ?_
      refine TL.cons (TO.val rfl rfl rfl (Val.move rfl) ?_)
      refine TL.cons (TO.val rfl rfl rfl (Val.move rfl) ?_)
      refine TL.cons (TO.val rfl rfl rfl (Val.indexAddr Tryd.underlying22 fsz27 rfl hA75618 rfl hi75619 hj75620) ?_)
      refine TL.cons (TO.val rfl rfl rfl (Val.loadsS (cs := [.int .i64 y75615.f0, .slice A75624 y75615.f1.length c75625]) agg27 fsz27 rfl rfl (Cl.sub (off := 0) (n := 2) hcl75621 rfl)) ?_)
      obtain ⟨y75634, hy75635, h⟩ := bind_no h
      refine TL.cons (TL.callV (Lin := []) (args := [.agg #[.int .i64 y75615.f0, .slice A75624 y75615.f1.length c75625]]) rfl rfl rfl hbd10 rfl rfl (code_Copy.calls (a0 := y75615) hr75626 hl75627 hy75635) rfl ?_)
      rintro _ _ _ _ ⟨rfl, A75636, c75637, rfl, rfl⟩
      refine TL.cons (TL.alloc (cs := [.int .i64 0, .slice none 0 0]) rfl rfl zr27 rfl (fun b75639 => ?_))
      refine TL.cons (TL.store 0 (ds := [.int .i64 y75634.f0, .slice A75636 y75634.f1.length c75637]) (cs' := [.int .i64 y75634.f0, .slice A75636 y75634.f1.length c75637]) (L' := (Blk b75639 [.int .i64 y75634.f0, .slice A75636 y75634.f1.length c75637] 27 :: Row k37 37 (.slice A75636 y75634.f1.length c75637) y75634.f1 :: Blk b75633 [.int .i64 y75628.f0, .slice A75630 y75628.f1.length c75631] 27 :: Row k37 37 (.slice A75630 y75628.f1.length c75631) y75628.f1 :: L)) rfl fsz27 rfl rfl rfl rfl rfl (Nat.le_of_ble_eq_true rfl) rfl rfl ?_)
      refine TL.nil ?_
      refine TQ.then_ ?_
      refine TC.seq ?_
      refine TC.sel (Ls := [Row k37 37 (.slice A75636 y75634.f1.length c75637) y75634.f1, Blk b75639 [.int .i64 y75634.f0, .slice A75636 y75634.f1.length c75637] 27, Blk b75633 [.int .i64 y75628.f0, .slice A75630 y75628.f1.length c75631] 27, Row k37 37 (.slice A75630 y75628.f1.length c75631) y75628.f1]) [1, 0, 2, 3] 4 rfl rfl rfl ?_
      refine TC.share (fun G75648 e75649 hs75650 hb75651 => ?_)
      have rd75652 : Rd G75648 k37 A75636 y75634.f1 := Rd.row hs75650
      have le75653 : y75634.f1.length ≤ c75637 := Row.le hs75650
      refine TC.regionAny [] [0, 1, 2, 3, 4, 6] mixed (by kernel_rfl) ?_
      refine TA.take 0 rfl (by kernel_rfl) rfl (PQ.then_ (PQ.inB (PQ.then_ (PQ.then_ (PQ.inB (PQ.then_ (PQ.then_ PQ.body))))))) rfl (Val.loadsB 0 (cs := [.int .i64 y75634.f0, .slice A75636 y75634.f1.length c75637]) agg27 fsz27 rfl rfl rfl rfl) (fun W hO => hO) ?_
      refine TA.take 1 rfl (by kernel_rfl) rfl (PQ.then_ (PQ.inB (PQ.then_ (PQ.then_ (PQ.inB (PQ.then_ (PQ.then_ PQ.body))))))) rfl (Val.move rfl) (fun W hO => hO) ?_
      refine TA.take 2 rfl (by kernel_rfl) rfl (PQ.then_ (PQ.inB (PQ.then_ (PQ.then_ (PQ.inB (PQ.then_ (PQ.then_ PQ.body))))))) rfl (Val.move rfl) (fun W hO => hO) ?_
      obtain ⟨y75654, hx75655, h⟩ := bind_no h
      obtain ⟨ad75656, cs75662, hA75657, hi75658, hj75659, hcl75660, hK75661⟩ := Rd.at (hr3.up e75649) hx75655
      obtain ⟨A75663, c75664, rfl, hr75665, hl75666⟩ := k27_openR hK75661
      refine TA.take 3 rfl (by kernel_rfl) rfl (PQ.then_ (PQ.inB (PQ.then_ (PQ.then_ (PQ.inB (PQ.then_ (PQ.then_ PQ.body))))))) rfl (Val.indexAddr Tryd.underlying22 fsz27 rfl hA75657 rfl hi75658 hj75659) (fun W hO => hO) ?_
      refine TA.take 4 rfl (by kernel_rfl) rfl (PQ.then_ (PQ.inB (PQ.then_ (PQ.then_ (PQ.inB (PQ.then_ (PQ.then_ PQ.body))))))) rfl (Val.loadsS (cs := [.int .i64 y75654.f0, .slice A75663 y75654.f1.length c75664]) agg27 fsz27 rfl rfl (Cl.sub (off := 0) (n := 2) hcl75660 rfl)) (fun W hO => hO) ?_
      obtain ⟨y75667, hy75668, h⟩ := bind_no h
      refine TA.eff 5 rfl (by kernel_rfl) rfl (TL.callV (Lin := []) (args := [.agg #[.int .i64 y75634.f0, .slice A75636 y75634.f1.length c75637], .agg #[.int .i64 y75654.f0, .slice A75663 y75654.f1.length c75664]]) rfl rfl rfl hbd11 rfl rfl (swageref14_Same.calls (a0 := y75634) (a1 := y75654) rd75652 le75653 hr75665 hl75666 hy75668) rfl ?_)
      rintro _ _ _ _ ⟨rfl, rfl, rfl⟩
      refine TA.next (fun W hO => hO) ?_
      refine TA.take 6 rfl (by kernel_rfl) rfl (PQ.then_ (PQ.inB (PQ.then_ (PQ.then_ (PQ.inB (PQ.then_ (PQ.then_ PQ.body))))))) rfl (Val.assign rfl) (fun W hO => hO) ?_
      refine TA.done (by kernel_rfl) ?_
      refine TQ.then_ ?_
      refine TC.seq ?_
      refine TC.region ?_
      refine TL.cons (TO.val rfl rfl rfl (Val.loadsB 0 (cs := [.int .i64 y75634.f0, .slice A75636 y75634.f1.length c75637]) agg27 fsz27 rfl rfl rfl rfl) ?_)
      refine TL.cons (TO.inl (args := [.agg #[.int .i64 y75634.f0, .slice A75636 y75634.f1.length c75637]]) (e' := [(0, .agg #[.int .i64 y75634.f0, .slice A75636 y75634.f1.length c75637])]) 65 rfl rfl hbd12 rfl rfl Tryd.func12 rfl Tryd.ntmps12 rfl rfl (Nat.le_of_ble_eq_true rfl) (fun a75669 hf75670 => ?_))
      refine TC.seq ?_
      refine TC.region ?_
      refine TL.cons (TL.box (cs := [.int .i64 y75634.f0, .slice A75636 y75634.f1.length c75637]) rfl rfl rfl rfl (fun b81845 => ?_))
      refine TL.nil ?_
      refine TQ.then_ ?_
      refine TC.seq ?_
      refine TC.region ?_
      refine TL.cons (TO.val rfl rfl rfl (Val.assign rfl) ?_)
      refine TL.nil ?_
      refine TQ.then_ ?_
      refine TC.back hb75651 ?_
      refine TC.alk (fun W84127 S84128 B84129 hR84130 => ?_)
      obtain ⟨o90800, ho90800, ko90800⟩ := bind_no h
      clear h
      refine TC.tail (fun a W => () = o90800 ∧ Fr 65 a [] ∧ Own G (Blk b75633 [.int .i64 y75628.f0, .slice A75630 y75628.f1.length c75631] 27 :: Blk b75639 [.int .i64 y75634.f0, .slice A75636 y75634.f1.length c75637] 27 :: Alk W84127 S84128 :: Row k37 37 (.slice A75630 y75628.f1.length c75631) y75628.f1 :: L) W) ?_ ?_
      ·
       rintro a W ⟨rfl, hF, hO⟩
       have h := ko90800
       clear ko90800 ho90800
       refine TQ.use ?_ hF hO
       clear hF hO
       refine TQ.fin (v := .tuple #[]) (.inr rfl) rfl Tryd.results12 .nil rfl (After.mk hf75670 rfl ?_)
       refine TL.nil ?_
       refine TQ.then_ ?_
       refine TC.seq ?_
       refine TC.seq ?_
       obtain ⟨j93096, hj93096, h⟩ := jn_no h
       refine TC.tail (fun a W => ∃ (x93095 : Bool), j93096 x93095 = some o49335 ∧ Fr 106 a [(0, .slice A1 a0.length c2), (3, .bool y5), (6, .int .i64 x32916), (73, .bool x93095)] ∧ Own G (Alk W84127 S84128 :: L) W) ?_ ?_
       ·
        rintro a W ⟨x93095, h, hF, hO⟩
        rw [hj93096] at h
        refine TQ.use ?_ hF hO
        clear hF hO
        refine TQ.then_ ?_
        refine TC.cond_b rfl h (fun hc93098 h => ?_) (fun hc93098 h => ?_)
        ·
         refine TC.seq ?_
         refine TC.region ?_
         refine TL.cons (TO.val rfl rfl rfl (Val.assign rfl) ?_)
         refine TL.nil ?_
         refine TQ.then_ ?_
         refine TC.ret ?_
         refine TQ.thenR ?_
         refine TQ.inBR ?_
         refine TQ.thenR ?_
         refine TQ.thenR ?_
         refine TQ.inBR ?_
         refine TQ.thenR ?_
         refine TQ.thenR ?_
         obtain rfl := Option.some.inj h
         have h := ko49335
         obtain rfl := Option.some.inj h
         exact TQ.fin (.inl rfl) rfl Tryd.results3 (.tmp rfl .nil) rfl (FRel.mk (Ls := []) [] 1 (Gd.le.refl _) rfl rfl rfl ⟨rfl, rfl, rfl⟩)
        ·
         refine TC.skip ?_
         refine TQ.then_ ?_
         refine TC.seq ?_
         refine TC.region ?_
         refine TL.cons (TO.val rfl rfl rfl (Val.assign rfl) ?_)
         refine TL.nil ?_
         refine TQ.then_ ?_
         obtain ⟨o93479, ho93479, ko93479⟩ := bind_no h
         clear h
         refine TC.tail (fun a W => (.inr ()) = o93479 ∧ Fr 106 a [(0, .slice A1 a0.length c2), (3, .bool y5), (6, .int .i64 x32916)] ∧ Own G (Alk W84127 S84128 :: L) W) ?_ ?_
         ·
          rintro a W ⟨rfl, hF, hO⟩
          have h := ko93479
          clear ko93479 ho93479
          refine TQ.use ?_ hF hO
          clear hF hO
          refine TQ.inB ?_
          refine TQ.then_ ?_
          refine TC.region ?_
          refine TL.cons (TO.val rfl rfl rfl (Val.move rfl) ?_)
          refine TL.cons (TO.val rfl rfl rfl (Val.cmp rfl rfl run_add) ?_)
          refine TL.cons (TO.val rfl rfl rfl (Val.assign rfl) ?_)
          refine TL.nil ?_
          exact fun a W hF hO => ⟨IntKind.i64.wrap (x32916 + 1), h, hF.sub ⟨rfl, rfl, rfl, trivial⟩, hO.selT (Ls := []) [] 1 rfl rfl rfl⟩
         ·
          refine TC.block ?_
          intro a W hF hO
          have hS : ∃ (x93352 : Int), swagelaw14_CodeCopies.l3 a0 x32916 (x32916.toNat + 1) x93352 = some o93479 ∧ Fr 106 a [(0, .slice A1 a0.length c2), (3, .bool y5), (6, .int .i64 x32916), (10, .int .i64 x93352)] ∧ Own G (Alk W84127 S84128 :: L) W := by
           exact ⟨0, ho93479, hF.sub ⟨rfl, rfl, rfl, rfl, trivial⟩, hO.selT (Ls := [Alk W84127 S84128]) [0] 1 rfl rfl rfl⟩
          clear hF hO ho93479
          refine TC.loop (fun n93480 a W => ∃ (x93352 : Int), swagelaw14_CodeCopies.l3 a0 x32916 n93480 x93352 = some o93479 ∧ Fr 106 a [(0, .slice A1 a0.length c2), (3, .bool y5), (6, .int .i64 x32916), (10, .int .i64 x93352)] ∧ Own G (Alk W84127 S84128 :: L) W) ?_ ?_ hS
          ·
           rintro a W ⟨x93352, h, hF, hO⟩
           exact none_no h
          ·
           clear hS
           rintro n93480 a W ⟨x93352, h, hF, hO⟩
           rw [swagelaw14_CodeCopies.l3] at h
           refine TC.use ?_ hF hO
           clear hF hO
           refine TC.seq ?_
           refine TC.seq ?_
           refine TC.region ?_
           refine TL.cons (TO.val rfl rfl rfl (Val.move rfl) ?_)
           refine TL.cons (TO.val rfl rfl rfl (Val.move rfl) ?_)
           refine TL.cons (TO.val rfl rfl rfl (Val.cmp rfl rfl run_lss) ?_)
           refine TL.nil ?_
           refine TQ.then_ ?_
           refine TC.cond_p rfl h (fun hc93608 h => ?_) (fun hc93608 h => ?_)
           ·
            refine TC.skip ?_
            refine TQ.then_ ?_
            refine TC.seq ?_
            refine TC.block ?_
            refine TC.seq ?_
            refine TC.regionAny [] [0, 1, 2, 3, 4, 5, 6, 7, 9, 10, 11, 12, 13, 14, 15, 16, 18] mixed (by kernel_rfl) ?_
            refine TA.take 0 rfl (by kernel_rfl) rfl (PQ.then_ (PQ.inB (PQ.then_ (PQ.then_ (PQ.inB (PQ.then_ (PQ.inB (PQ.then_ (PQ.then_ (PQ.inB (PQ.then_ (PQ.then_ PQ.body)))))))))))) rfl (Val.move rfl) (fun W hO => hO) ?_
            refine TA.take 1 rfl (by kernel_rfl) rfl (PQ.then_ (PQ.inB (PQ.then_ (PQ.then_ (PQ.inB (PQ.then_ (PQ.inB (PQ.then_ (PQ.then_ (PQ.inB (PQ.then_ (PQ.then_ PQ.body)))))))))))) rfl (Val.move rfl) (fun W hO => hO) ?_
            obtain ⟨y93701, hx93702, h⟩ := bind_no h
            obtain ⟨ad93703, cs93709, hA93704, hi93705, hj93706, hcl93707, hK93708⟩ := Rd.at hr3 hx93702
            obtain ⟨A93710, c93711, rfl, hr93712, hl93713⟩ := k27_openR hK93708
            refine TA.take 2 rfl (by kernel_rfl) rfl (PQ.then_ (PQ.inB (PQ.then_ (PQ.then_ (PQ.inB (PQ.then_ (PQ.inB (PQ.then_ (PQ.then_ (PQ.inB (PQ.then_ (PQ.then_ PQ.body)))))))))))) rfl (Val.indexAddr Tryd.underlying22 fsz27 rfl hA93704 rfl hi93705 hj93706) (fun W hO => hO) ?_
            refine TA.take 3 rfl (by kernel_rfl) rfl (PQ.then_ (PQ.inB (PQ.then_ (PQ.then_ (PQ.inB (PQ.then_ (PQ.inB (PQ.then_ (PQ.then_ (PQ.inB (PQ.then_ (PQ.then_ PQ.body)))))))))))) rfl (Val.loadsS (cs := [.int .i64 y93701.f0, .slice A93710 y93701.f1.length c93711]) agg27 fsz27 rfl rfl (Cl.sub (off := 0) (n := 2) hcl93707 rfl)) (fun W hO => hO) ?_
            refine TA.take 4 rfl (by kernel_rfl) rfl (PQ.then_ (PQ.inB (PQ.then_ (PQ.then_ (PQ.inB (PQ.then_ (PQ.inB (PQ.then_ (PQ.then_ (PQ.inB (PQ.then_ (PQ.then_ PQ.body)))))))))))) rfl (Val.move rfl) (fun W hO => hO) ?_
            refine TA.take 5 rfl (by kernel_rfl) rfl (PQ.then_ (PQ.inB (PQ.then_ (PQ.then_ (PQ.inB (PQ.then_ (PQ.inB (PQ.then_ (PQ.then_ (PQ.inB (PQ.then_ (PQ.then_ PQ.body)))))))))))) rfl (Val.move rfl) (fun W hO => hO) ?_
            obtain ⟨y93714, hx93715, h⟩ := bind_no h
            obtain ⟨ad93716, cs93722, hA93717, hi93718, hj93719, hcl93720, hK93721⟩ := Rd.at hr3 hx93715
            obtain ⟨A93723, c93724, rfl, hr93725, hl93726⟩ := k27_openR hK93721
            refine TA.take 6 rfl (by kernel_rfl) rfl (PQ.then_ (PQ.inB (PQ.then_ (PQ.then_ (PQ.inB (PQ.then_ (PQ.inB (PQ.then_ (PQ.then_ (PQ.inB (PQ.then_ (PQ.then_ PQ.body)))))))))))) rfl (Val.indexAddr Tryd.underlying22 fsz27 rfl hA93717 rfl hi93718 hj93719) (fun W hO => hO) ?_
            refine TA.take 7 rfl (by kernel_rfl) rfl (PQ.then_ (PQ.inB (PQ.then_ (PQ.then_ (PQ.inB (PQ.then_ (PQ.inB (PQ.then_ (PQ.then_ (PQ.inB (PQ.then_ (PQ.then_ PQ.body)))))))))))) rfl (Val.loadsS (cs := [.int .i64 y93714.f0, .slice A93723 y93714.f1.length c93724]) agg27 fsz27 rfl rfl (Cl.sub (off := 0) (n := 2) hcl93720 rfl)) (fun W hO => hO) ?_
            refine TA.take 9 rfl (by kernel_rfl) rfl (PQ.then_ (PQ.inB (PQ.then_ (PQ.then_ (PQ.inB (PQ.then_ (PQ.inB (PQ.then_ (PQ.then_ (PQ.inB (PQ.then_ (PQ.then_ PQ.body)))))))))))) rfl (Val.move rfl) (fun W hO => hO) ?_
            refine TA.take 10 rfl (by kernel_rfl) rfl (PQ.then_ (PQ.inB (PQ.then_ (PQ.then_ (PQ.inB (PQ.then_ (PQ.inB (PQ.then_ (PQ.then_ (PQ.inB (PQ.then_ (PQ.then_ PQ.body)))))))))))) rfl (Val.move rfl) (fun W hO => hO) ?_
            refine TA.take 11 rfl (by kernel_rfl) rfl (PQ.then_ (PQ.inB (PQ.then_ (PQ.then_ (PQ.inB (PQ.then_ (PQ.inB (PQ.then_ (PQ.then_ (PQ.inB (PQ.then_ (PQ.then_ PQ.body)))))))))))) rfl (Val.indexAddr Tryd.underlying22 fsz27 rfl hA93704 rfl hi93705 hj93706) (fun W hO => hO) ?_
            refine TA.take 12 rfl (by kernel_rfl) rfl (PQ.then_ (PQ.inB (PQ.then_ (PQ.then_ (PQ.inB (PQ.then_ (PQ.inB (PQ.then_ (PQ.then_ (PQ.inB (PQ.then_ (PQ.then_ PQ.body)))))))))))) rfl (Val.loadsS (cs := [.int .i64 y93701.f0, .slice A93710 y93701.f1.length c93711]) agg27 fsz27 rfl rfl (Cl.sub (off := 0) (n := 2) hcl93707 rfl)) (fun W hO => hO) ?_
            refine TA.take 13 rfl (by kernel_rfl) rfl (PQ.then_ (PQ.inB (PQ.then_ (PQ.then_ (PQ.inB (PQ.then_ (PQ.inB (PQ.then_ (PQ.then_ (PQ.inB (PQ.then_ (PQ.then_ PQ.body)))))))))))) rfl (Val.move rfl) (fun W hO => hO) ?_
            refine TA.take 14 rfl (by kernel_rfl) rfl (PQ.then_ (PQ.inB (PQ.then_ (PQ.then_ (PQ.inB (PQ.then_ (PQ.inB (PQ.then_ (PQ.then_ (PQ.inB (PQ.then_ (PQ.then_ PQ.body)))))))))))) rfl (Val.move rfl) (fun W hO => hO) ?_
            refine TA.take 15 rfl (by kernel_rfl) rfl (PQ.then_ (PQ.inB (PQ.then_ (PQ.then_ (PQ.inB (PQ.then_ (PQ.inB (PQ.then_ (PQ.then_ (PQ.inB (PQ.then_ (PQ.then_ PQ.body)))))))))))) rfl (Val.indexAddr Tryd.underlying22 fsz27 rfl hA93717 rfl hi93718 hj93719) (fun W hO => hO) ?_
            refine TA.take 16 rfl (by kernel_rfl) rfl (PQ.then_ (PQ.inB (PQ.then_ (PQ.then_ (PQ.inB (PQ.then_ (PQ.inB (PQ.then_ (PQ.then_ (PQ.inB (PQ.then_ (PQ.then_ PQ.body)))))))))))) rfl (Val.loadsS (cs := [.int .i64 y93714.f0, .slice A93723 y93714.f1.length c93724]) agg27 fsz27 rfl rfl (Cl.sub (off := 0) (n := 2) hcl93720 rfl)) (fun W hO => hO) ?_
            obtain ⟨y93727, hy93728, h⟩ := bind_no h
            refine TA.eff 8 rfl (by kernel_rfl) rfl (TL.callV (Lin := []) (args := [.agg #[.int .i64 y93701.f0, .slice A93710 y93701.f1.length c93711], .agg #[.int .i64 y93714.f0, .slice A93723 y93714.f1.length c93724]]) rfl rfl rfl hbd13 rfl rfl (code_Same.calls (a0 := y93701) (a1 := y93714) hr93712 hl93713 hr93725 hl93726 hy93728) rfl ?_)
            rintro _ _ _ _ ⟨rfl, rfl, rfl⟩
            refine TA.next (fun W hO => hO) ?_
            obtain ⟨y93729, hy93730, h⟩ := bind_no h
            refine TA.eff 17 rfl (by kernel_rfl) rfl (TL.callV (Lin := []) (args := [.agg #[.int .i64 y93701.f0, .slice A93710 y93701.f1.length c93711], .agg #[.int .i64 y93714.f0, .slice A93723 y93714.f1.length c93724]]) rfl rfl rfl hbd11 rfl rfl (swageref14_Same.calls (a0 := y93701) (a1 := y93714) hr93712 hl93713 hr93725 hl93726 hy93730) rfl ?_)
            rintro _ _ _ _ ⟨rfl, rfl, rfl⟩
            refine TA.next (fun W hO => hO) ?_
            refine TA.take 18 rfl (by kernel_rfl) rfl (PQ.then_ (PQ.inB (PQ.then_ (PQ.then_ (PQ.inB (PQ.then_ (PQ.inB (PQ.then_ (PQ.then_ (PQ.inB (PQ.then_ (PQ.then_ PQ.body)))))))))))) rfl (Val.neB Tryd.underlying4 rfl rfl) (fun W hO => hO) ?_
            refine TA.done (by kernel_rfl) ?_
            refine TQ.then_ ?_
            refine TC.cond_b rfl h (fun hc93732 h => ?_) (fun hc93732 h => ?_)
            ·
             refine TC.seq ?_
             refine TC.region ?_
             refine TL.cons (TO.val rfl rfl rfl (Val.assign rfl) ?_)
             refine TL.nil ?_
             refine TQ.then_ ?_
             refine TC.ret ?_
             refine TQ.inBR ?_
             refine TQ.thenR ?_
             refine TQ.thenR ?_
             refine TQ.inBR ?_
             refine TQ.thenR ?_
             refine TQ.inBR ?_
             refine TQ.thenR ?_
             refine TQ.thenR ?_
             refine TQ.inBR ?_
             refine TQ.thenR ?_
             refine TQ.thenR ?_
             obtain rfl := Option.some.inj h
             have h := ko93479
             obtain rfl := Option.some.inj h
             have h := ko49335
             obtain rfl := Option.some.inj h
             exact TQ.fin (.inl rfl) rfl Tryd.results3 (.tmp rfl .nil) rfl (FRel.mk (Ls := []) [] 1 (Gd.le.refl _) rfl rfl rfl ⟨rfl, rfl, rfl⟩)
            ·
             refine TC.skip ?_
             refine TQ.inB ?_
             refine TQ.then_ ?_
             refine TC.region ?_
             refine TL.cons (TO.val rfl rfl rfl (Val.move rfl) ?_)
             refine TL.cons (TO.val rfl rfl rfl (Val.cmp rfl rfl run_add) ?_)
             refine TL.cons (TO.val rfl rfl rfl (Val.assign rfl) ?_)
             refine TL.nil ?_
             exact fun a W hF hO => ⟨IntKind.i64.wrap (x93352 + 1), h, hF.sub ⟨rfl, rfl, rfl, rfl, trivial⟩, hO.selT (Ls := [Alk W84127 S84128]) [0] 1 rfl rfl rfl⟩
           ·
            refine TC.exit ?_
            refine TQ.thenX ?_
            refine TQ.thenX ?_
            refine TQ.inBX ?_
            exact fun a W hF hO => ⟨Option.some.inj h, hF.sub ⟨rfl, rfl, rfl, trivial⟩, hO.selT (Ls := [Alk W84127 S84128]) [0] 1 rfl rfl rfl⟩
       ·
        refine TC.sel (Ls := [Row k37 37 (.slice A75630 y75628.f1.length c75631) y75628.f1, Blk b75633 [.int .i64 y75628.f0, .slice A75630 y75628.f1.length c75631] 27, Blk b75639 [.int .i64 y75634.f0, .slice A75636 y75634.f1.length c75637] 27, Alk W84127 S84128]) [3, 0, 1, 2] 4 rfl rfl rfl ?_
        refine TC.share (fun G93775 e93776 hs93777 hb93778 => ?_)
        have rd93779 : Rd G93775 k37 A75630 y75628.f1 := Rd.row hs93777
        have le93780 : y75628.f1.length ≤ c75631 := Row.le hs93777
        refine TC.regionAny [] [0, 1, 2, 3, 4, 5, 6, 7, 8, 9, 10, 11, 12, 13, 14, 15, 16, 17, 18, 19] mixed (by kernel_rfl) ?_
        refine TA.take 0 rfl (by kernel_rfl) rfl (PQ.then_ (PQ.then_ (PQ.then_ (PQ.inB (PQ.then_ (PQ.then_ (PQ.inB (PQ.then_ (PQ.then_ PQ.body))))))))) rfl (Val.move rfl) (fun W hO => hO) ?_
        refine TA.take 1 rfl (by kernel_rfl) rfl (PQ.then_ (PQ.then_ (PQ.then_ (PQ.inB (PQ.then_ (PQ.then_ (PQ.inB (PQ.then_ (PQ.then_ PQ.body))))))))) rfl (Val.not_ rfl) (fun W hO => hO) ?_
        refine TA.take 2 rfl (by kernel_rfl) rfl (PQ.then_ (PQ.then_ (PQ.then_ (PQ.inB (PQ.then_ (PQ.then_ (PQ.inB (PQ.then_ (PQ.then_ PQ.body))))))))) rfl (Val.move rfl) (fun W hO => hO) ?_
        refine TK.split (p := (!y75667) = true) h (fun hg93781 h => ?_) (fun hg93781 h => ?_)
        ·
         have hk93782 : (!y75667) = true := hg93781
         refine TA.not 3 rfl (by kernel_rfl) rfl (PQ.then_ (PQ.then_ (PQ.then_ (PQ.inB (PQ.then_ (PQ.then_ (PQ.inB (PQ.then_ (PQ.then_ PQ.body))))))))) (Wt.no rfl rfl rfl hk93782) (fun W hO => hO) ?_
         refine TA.not 4 rfl (by kernel_rfl) rfl (PQ.then_ (PQ.then_ (PQ.then_ (PQ.inB (PQ.then_ (PQ.then_ (PQ.inB (PQ.then_ (PQ.then_ PQ.body))))))))) (Wt.no rfl rfl rfl hk93782) (fun W hO => hO) ?_
         refine TA.not 5 rfl (by kernel_rfl) rfl (PQ.then_ (PQ.then_ (PQ.then_ (PQ.inB (PQ.then_ (PQ.then_ (PQ.inB (PQ.then_ (PQ.then_ PQ.body))))))))) (Wt.no rfl rfl rfl hk93782) (fun W hO => hO) ?_
         refine TA.not 6 rfl (by kernel_rfl) rfl (PQ.then_ (PQ.then_ (PQ.then_ (PQ.inB (PQ.then_ (PQ.then_ (PQ.inB (PQ.then_ (PQ.then_ PQ.body))))))))) (Wt.no rfl rfl rfl hk93782) (fun W hO => hO) ?_
         refine TA.not 7 rfl (by kernel_rfl) rfl (PQ.then_ (PQ.then_ (PQ.then_ (PQ.inB (PQ.then_ (PQ.then_ (PQ.inB (PQ.then_ (PQ.then_ PQ.body))))))))) (Wt.no rfl rfl rfl hk93782) (fun W hO => hO) ?_
         refine TA.not 8 rfl (by kernel_rfl) rfl (PQ.then_ (PQ.then_ (PQ.then_ (PQ.inB (PQ.then_ (PQ.then_ (PQ.inB (PQ.then_ (PQ.then_ PQ.body))))))))) (Wt.no rfl rfl rfl hk93782) (fun W hO => hO) ?_
         refine TA.not 9 rfl (by kernel_rfl) rfl (PQ.then_ (PQ.then_ (PQ.then_ (PQ.inB (PQ.then_ (PQ.then_ (PQ.inB (PQ.then_ (PQ.then_ PQ.body))))))))) (Wt.no rfl rfl rfl hk93782) (fun W hO => hO) ?_
         refine TA.take 10 rfl (by kernel_rfl) rfl (PQ.then_ (PQ.then_ (PQ.then_ (PQ.inB (PQ.then_ (PQ.then_ (PQ.inB (PQ.then_ (PQ.then_ PQ.body))))))))) rfl (Val.pickY rfl hk93782 rfl) (fun W hO => hO) ?_
         refine TA.take 11 rfl (by kernel_rfl) rfl (PQ.then_ (PQ.then_ (PQ.then_ (PQ.inB (PQ.then_ (PQ.then_ (PQ.inB (PQ.then_ (PQ.then_ PQ.body))))))))) rfl (Val.move rfl) (fun W hO => hO) ?_
         refine TA.not 12 rfl (by kernel_rfl) rfl (PQ.then_ (PQ.then_ (PQ.then_ (PQ.inB (PQ.then_ (PQ.then_ (PQ.inB (PQ.then_ (PQ.then_ PQ.body))))))))) (Wt.no rfl rfl rfl rfl) (fun W hO => hO) ?_
         refine TA.not 13 rfl (by kernel_rfl) rfl (PQ.then_ (PQ.then_ (PQ.then_ (PQ.inB (PQ.then_ (PQ.then_ (PQ.inB (PQ.then_ (PQ.then_ PQ.body))))))))) (Wt.no rfl rfl rfl rfl) (fun W hO => hO) ?_
         refine TA.not 14 rfl (by kernel_rfl) rfl (PQ.then_ (PQ.then_ (PQ.then_ (PQ.inB (PQ.then_ (PQ.then_ (PQ.inB (PQ.then_ (PQ.then_ PQ.body))))))))) (Wt.no rfl rfl rfl rfl) (fun W hO => hO) ?_
         refine TA.not 15 rfl (by kernel_rfl) rfl (PQ.then_ (PQ.then_ (PQ.then_ (PQ.inB (PQ.then_ (PQ.then_ (PQ.inB (PQ.then_ (PQ.then_ PQ.body))))))))) (Wt.no rfl rfl rfl rfl) (fun W hO => hO) ?_
         refine TA.not 16 rfl (by kernel_rfl) rfl (PQ.then_ (PQ.then_ (PQ.then_ (PQ.inB (PQ.then_ (PQ.then_ (PQ.inB (PQ.then_ (PQ.then_ PQ.body))))))))) (Wt.no rfl rfl rfl rfl) (fun W hO => hO) ?_
         refine TA.not 17 rfl (by kernel_rfl) rfl (PQ.then_ (PQ.then_ (PQ.then_ (PQ.inB (PQ.then_ (PQ.then_ (PQ.inB (PQ.then_ (PQ.then_ PQ.body))))))))) (Wt.no rfl rfl rfl rfl) (fun W hO => hO) ?_
         refine TA.not 18 rfl (by kernel_rfl) rfl (PQ.then_ (PQ.then_ (PQ.then_ (PQ.inB (PQ.then_ (PQ.then_ (PQ.inB (PQ.then_ (PQ.then_ PQ.body))))))))) (Wt.no rfl rfl rfl rfl) (fun W hO => hO) ?_
         refine TA.take 19 rfl (by kernel_rfl) rfl (PQ.then_ (PQ.then_ (PQ.then_ (PQ.inB (PQ.then_ (PQ.then_ (PQ.inB (PQ.then_ (PQ.then_ PQ.body))))))))) rfl (Val.pickY rfl rfl rfl) (fun W hO => hO) ?_
         refine TA.done (by kernel_rfl) ?_
         refine TQ.back hb93778 ?_
         exact fun a W hF hO => ⟨true, h, hF.sub ⟨rfl, rfl, rfl, rfl, trivial⟩, hO.selT (Ls := [Alk W84127 S84128]) [3] 4 rfl rfl rfl⟩
        ·
         have hk93783 : (!y75667) = false := (by simpa using hg93781)
         refine TA.take 3 rfl (by kernel_rfl) rfl (PQ.then_ (PQ.then_ (PQ.then_ (PQ.inB (PQ.then_ (PQ.then_ (PQ.inB (PQ.then_ (PQ.then_ PQ.body))))))))) (Wt.yes rfl rfl rfl hk93783) (Val.move rfl) (fun W hO => hO) ?_
         refine TA.take 4 rfl (by kernel_rfl) rfl (PQ.then_ (PQ.then_ (PQ.then_ (PQ.inB (PQ.then_ (PQ.then_ (PQ.inB (PQ.then_ (PQ.then_ PQ.body))))))))) (Wt.yes rfl rfl rfl hk93783) (Val.move rfl) (fun W hO => hO) ?_
         obtain ⟨y93784, hx93785, h⟩ := bind_no h
         obtain ⟨ad93786, cs93792, hA93787, hi93788, hj93789, hcl93790, hK93791⟩ := Rd.at (hr3.up e93776) hx93785
         obtain ⟨A93793, c93794, rfl, hr93795, hl93796⟩ := k27_openR hK93791
         refine TA.take 5 rfl (by kernel_rfl) rfl (PQ.then_ (PQ.then_ (PQ.then_ (PQ.inB (PQ.then_ (PQ.then_ (PQ.inB (PQ.then_ (PQ.then_ PQ.body))))))))) (Wt.yes rfl rfl rfl hk93783) (Val.indexAddr Tryd.underlying22 fsz27 rfl hA93787 rfl hi93788 hj93789) (fun W hO => hO) ?_
         refine TA.take 6 rfl (by kernel_rfl) rfl (PQ.then_ (PQ.then_ (PQ.then_ (PQ.inB (PQ.then_ (PQ.then_ (PQ.inB (PQ.then_ (PQ.then_ PQ.body))))))))) (Wt.yes rfl rfl rfl hk93783) (Val.loadsS (cs := [.int .i64 y93784.f0, .slice A93793 y93784.f1.length c93794]) agg27 fsz27 rfl rfl (Cl.sub (off := 0) (n := 2) hcl93790 rfl)) (fun W hO => hO) ?_
         refine TA.take 7 rfl (by kernel_rfl) rfl (PQ.then_ (PQ.then_ (PQ.then_ (PQ.inB (PQ.then_ (PQ.then_ (PQ.inB (PQ.then_ (PQ.then_ PQ.body))))))))) (Wt.yes rfl rfl rfl hk93783) (Val.loadsB 0 (cs := [.int .i64 y75628.f0, .slice A75630 y75628.f1.length c75631]) agg27 fsz27 rfl rfl rfl rfl) (fun W hO => hO) ?_
         obtain ⟨y93797, hy93798, h⟩ := bind_no h
         refine TA.eff 8 rfl (by kernel_rfl) rfl (TL.callV (Lin := []) (args := [.agg #[.int .i64 y93784.f0, .slice A93793 y93784.f1.length c93794], .agg #[.int .i64 y75628.f0, .slice A75630 y75628.f1.length c75631]]) (Wt.yes rfl rfl rfl hk93783) rfl rfl hbd11 rfl rfl (swageref14_Same.calls (a0 := y93784) (a1 := y75628) hr93795 hl93796 rd93779 le93780 hy93798) rfl ?_)
         rintro _ _ _ _ ⟨rfl, rfl, rfl⟩
         refine TA.next (fun W hO => hO) ?_
         refine TA.take 9 rfl (by kernel_rfl) rfl (PQ.then_ (PQ.then_ (PQ.then_ (PQ.inB (PQ.then_ (PQ.then_ (PQ.inB (PQ.then_ (PQ.then_ PQ.body))))))))) (Wt.yes rfl rfl rfl hk93783) (Val.not_ rfl) (fun W hO => hO) ?_
         refine TA.take 10 rfl (by kernel_rfl) rfl (PQ.then_ (PQ.then_ (PQ.then_ (PQ.inB (PQ.then_ (PQ.then_ (PQ.inB (PQ.then_ (PQ.then_ PQ.body))))))))) rfl (Val.pickN rfl hk93783 rfl) (fun W hO => hO) ?_
         refine TA.take 11 rfl (by kernel_rfl) rfl (PQ.then_ (PQ.then_ (PQ.then_ (PQ.inB (PQ.then_ (PQ.then_ (PQ.inB (PQ.then_ (PQ.then_ PQ.body))))))))) rfl (Val.move rfl) (fun W hO => hO) ?_
         refine TK.split (p := (!y93797) = true) h (fun hg93799 h => ?_) (fun hg93799 h => ?_)
         ·
          have hk93800 : (!y93797) = true := hg93799
          refine TA.not 12 rfl (by kernel_rfl) rfl (PQ.then_ (PQ.then_ (PQ.then_ (PQ.inB (PQ.then_ (PQ.then_ (PQ.inB (PQ.then_ (PQ.then_ PQ.body))))))))) (Wt.no rfl rfl rfl hk93800) (fun W hO => hO) ?_
          refine TA.not 13 rfl (by kernel_rfl) rfl (PQ.then_ (PQ.then_ (PQ.then_ (PQ.inB (PQ.then_ (PQ.then_ (PQ.inB (PQ.then_ (PQ.then_ PQ.body))))))))) (Wt.no rfl rfl rfl hk93800) (fun W hO => hO) ?_
          refine TA.not 14 rfl (by kernel_rfl) rfl (PQ.then_ (PQ.then_ (PQ.then_ (PQ.inB (PQ.then_ (PQ.then_ (PQ.inB (PQ.then_ (PQ.then_ PQ.body))))))))) (Wt.no rfl rfl rfl hk93800) (fun W hO => hO) ?_
          refine TA.not 15 rfl (by kernel_rfl) rfl (PQ.then_ (PQ.then_ (PQ.then_ (PQ.inB (PQ.then_ (PQ.then_ (PQ.inB (PQ.then_ (PQ.then_ PQ.body))))))))) (Wt.no rfl rfl rfl hk93800) (fun W hO => hO) ?_
          refine TA.not 16 rfl (by kernel_rfl) rfl (PQ.then_ (PQ.then_ (PQ.then_ (PQ.inB (PQ.then_ (PQ.then_ (PQ.inB (PQ.then_ (PQ.then_ PQ.body))))))))) (Wt.no rfl rfl rfl hk93800) (fun W hO => hO) ?_
          refine TA.not 17 rfl (by kernel_rfl) rfl (PQ.then_ (PQ.then_ (PQ.then_ (PQ.inB (PQ.then_ (PQ.then_ (PQ.inB (PQ.then_ (PQ.then_ PQ.body))))))))) (Wt.no rfl rfl rfl hk93800) (fun W hO => hO) ?_
          refine TA.not 18 rfl (by kernel_rfl) rfl (PQ.then_ (PQ.then_ (PQ.then_ (PQ.inB (PQ.then_ (PQ.then_ (PQ.inB (PQ.then_ (PQ.then_ PQ.body))))))))) (Wt.no rfl rfl rfl hk93800) (fun W hO => hO) ?_
          refine TA.take 19 rfl (by kernel_rfl) rfl (PQ.then_ (PQ.then_ (PQ.then_ (PQ.inB (PQ.then_ (PQ.then_ (PQ.inB (PQ.then_ (PQ.then_ PQ.body))))))))) rfl (Val.pickY rfl hk93800 rfl) (fun W hO => hO) ?_
          refine TA.done (by kernel_rfl) ?_
          refine TQ.back hb93778 ?_
          exact fun a W hF hO => ⟨true, h, hF.sub ⟨rfl, rfl, rfl, rfl, trivial⟩, hO.selT (Ls := [Alk W84127 S84128]) [3] 4 rfl rfl rfl⟩
         ·
          have hk93801 : (!y93797) = false := (by simpa using hg93799)
          refine TA.take 12 rfl (by kernel_rfl) rfl (PQ.then_ (PQ.then_ (PQ.then_ (PQ.inB (PQ.then_ (PQ.then_ (PQ.inB (PQ.then_ (PQ.then_ PQ.body))))))))) (Wt.yes rfl rfl rfl hk93801) (Val.move rfl) (fun W hO => hO) ?_
          refine TA.take 13 rfl (by kernel_rfl) rfl (PQ.then_ (PQ.then_ (PQ.then_ (PQ.inB (PQ.then_ (PQ.then_ (PQ.inB (PQ.then_ (PQ.then_ PQ.body))))))))) (Wt.yes rfl rfl rfl hk93801) (Val.move rfl) (fun W hO => hO) ?_
          refine TA.take 14 rfl (by kernel_rfl) rfl (PQ.then_ (PQ.then_ (PQ.then_ (PQ.inB (PQ.then_ (PQ.then_ (PQ.inB (PQ.then_ (PQ.then_ PQ.body))))))))) (Wt.yes rfl rfl rfl hk93801) (Val.indexAddr Tryd.underlying22 fsz27 rfl hA93787 rfl hi93788 hj93789) (fun W hO => hO) ?_
          refine TA.take 15 rfl (by kernel_rfl) rfl (PQ.then_ (PQ.then_ (PQ.then_ (PQ.inB (PQ.then_ (PQ.then_ (PQ.inB (PQ.then_ (PQ.then_ PQ.body))))))))) (Wt.yes rfl rfl rfl hk93801) (Val.loadsS (cs := [.int .i64 y93784.f0, .slice A93793 y93784.f1.length c93794]) agg27 fsz27 rfl rfl (Cl.sub (off := 0) (n := 2) hcl93790 rfl)) (fun W hO => hO) ?_
          refine TA.take 16 rfl (by kernel_rfl) rfl (PQ.then_ (PQ.then_ (PQ.then_ (PQ.inB (PQ.then_ (PQ.then_ (PQ.inB (PQ.then_ (PQ.then_ PQ.body))))))))) (Wt.yes rfl rfl rfl hk93801) (Val.loadsB 0 (cs := [.int .i64 y75628.f0, .slice A75630 y75628.f1.length c75631]) agg27 fsz27 rfl rfl rfl rfl) (fun W hO => hO) ?_
          obtain ⟨y93802, hy93803, h⟩ := bind_no h
          refine TA.eff 17 rfl (by kernel_rfl) rfl (TL.callV (Lin := []) (args := [.agg #[.int .i64 y93784.f0, .slice A93793 y93784.f1.length c93794], .agg #[.int .i64 y75628.f0, .slice A75630 y75628.f1.length c75631]]) (Wt.yes rfl rfl rfl hk93801) rfl rfl hbd13 rfl rfl (code_Same.calls (a0 := y93784) (a1 := y75628) hr93795 hl93796 rd93779 le93780 hy93803) rfl ?_)
          rintro _ _ _ _ ⟨rfl, rfl, rfl⟩
          refine TA.next (fun W hO => hO) ?_
          refine TA.take 18 rfl (by kernel_rfl) rfl (PQ.then_ (PQ.then_ (PQ.then_ (PQ.inB (PQ.then_ (PQ.then_ (PQ.inB (PQ.then_ (PQ.then_ PQ.body))))))))) (Wt.yes rfl rfl rfl hk93801) (Val.not_ rfl) (fun W hO => hO) ?_
          refine TA.take 19 rfl (by kernel_rfl) rfl (PQ.then_ (PQ.then_ (PQ.then_ (PQ.inB (PQ.then_ (PQ.then_ (PQ.inB (PQ.then_ (PQ.then_ PQ.body))))))))) rfl (Val.pickN rfl hk93801 rfl) (fun W hO => hO) ?_
          refine TA.done (by kernel_rfl) ?_
          refine TQ.back hb93778 ?_
          exact fun a W hF hO => ⟨(!y93802), h, hF.sub ⟨rfl, rfl, rfl, rfl, trivial⟩, hO.selT (Ls := [Alk W84127 S84128]) [3] 4 rfl rfl rfl⟩
      ·
       refine TC.block ?_
       intro a W hF hO
       have hS : ∃ (x88577 : Int), swagelaw14_CodeCopies.l2 y75634 (y75634.f1.length + 1) x88577 = some o90800 ∧ Fr 65 a [(1, .pointer (some ⟨b81845, 0, none⟩)), (2, .int .i64 x88577)] ∧ Own G (Blk b75633 [.int .i64 y75628.f0, .slice A75630 y75628.f1.length c75631] 27 :: Blk b75639 [.int .i64 y75634.f0, .slice A75636 y75634.f1.length c75637] 27 :: Blk b81845 [.int .i64 y75634.f0, .slice A75636 y75634.f1.length c75637] 27 :: Alk W84127 S84128 :: Row k37 37 (.slice A75630 y75628.f1.length c75631) y75628.f1 :: L) W := by
        exact ⟨0, ho90800, hF.sub ⟨rfl, rfl, trivial⟩, hO.selT (Ls := [Blk b75633 [.int .i64 y75628.f0, .slice A75630 y75628.f1.length c75631] 27, Blk b75639 [.int .i64 y75634.f0, .slice A75636 y75634.f1.length c75637] 27, Blk b81845 [.int .i64 y75634.f0, .slice A75636 y75634.f1.length c75637] 27, Alk W84127 S84128, Row k37 37 (.slice A75630 y75628.f1.length c75631) y75628.f1]) [3, 2, 1, 0, 4] 5 rfl rfl rfl⟩
       clear hF hO ho90800 ko90800
       refine TC.loop (fun n90801 a W => ∃ (x88577 : Int), swagelaw14_CodeCopies.l2 y75634 n90801 x88577 = some o90800 ∧ Fr 65 a [(1, .pointer (some ⟨b81845, 0, none⟩)), (2, .int .i64 x88577)] ∧ Own G (Blk b75633 [.int .i64 y75628.f0, .slice A75630 y75628.f1.length c75631] 27 :: Blk b75639 [.int .i64 y75634.f0, .slice A75636 y75634.f1.length c75637] 27 :: Blk b81845 [.int .i64 y75634.f0, .slice A75636 y75634.f1.length c75637] 27 :: Alk W84127 S84128 :: Row k37 37 (.slice A75630 y75628.f1.length c75631) y75628.f1 :: L) W) ?_ ?_ hS
       ·
        rintro a W ⟨x88577, h, hF, hO⟩
        exact none_no h
       ·
        clear hS
        rintro n90801 a W ⟨x88577, h, hF, hO⟩
        rw [swagelaw14_CodeCopies.l2] at h
        refine TC.use ?_ hF hO
        clear hF hO
        refine TC.seq ?_
        refine TC.seq ?_
        refine TC.region ?_
        refine TL.cons (TO.val rfl rfl rfl (Val.move rfl) ?_)
        refine TL.cons (TO.val rfl rfl rfl (Val.fieldAddrB Tryd.underlying27 rfl fsz25 rfl rfl rfl) ?_)
        refine TL.cons (TO.val rfl rfl rfl (Val.loadB 2 agg25 rfl rfl rfl) ?_)
        refine TL.cons (TO.val rfl rfl rfl (Val.len Tryd.underlying25 rfl) ?_)
        refine TL.cons (TO.val rfl rfl rfl (Val.cmp rfl rfl run_lss) ?_)
        refine TL.nil ?_
        refine TQ.then_ ?_
        refine TC.cond_p rfl h (fun hc93805 h => ?_) (fun hc93805 h => ?_)
        ·
         refine TC.skip ?_
         refine TQ.then_ ?_
         refine TC.seq ?_
         refine TC.block ?_
         refine TC.seq ?_
         refine TC.seq ?_
         refine TC.region ?_
         refine TL.cons (TO.val rfl rfl rfl (Val.assign rfl) ?_)
         refine TL.nil ?_
         refine TQ.then_ ?_
         obtain ⟨o96880, ho96880, ko96880⟩ := bind_no h
         clear h
         refine TC.tail (fun a W => () = o96880 ∧ Fr 65 a [(1, .pointer (some ⟨b81845, 0, none⟩)), (2, .int .i64 x88577)] ∧ Own G (Blk b75633 [.int .i64 y75628.f0, .slice A75630 y75628.f1.length c75631] 27 :: Blk b75639 [.int .i64 y75634.f0, .slice A75636 y75634.f1.length c75637] 27 :: Blk b81845 [.int .i64 y75634.f0, .slice A75636 y75634.f1.length c75637] 27 :: Alk W84127 S84128 :: Row k37 37 (.slice A75630 y75628.f1.length c75631) y75628.f1 :: L) W) ?_ ?_
         ·
          rintro a W ⟨rfl, hF, hO⟩
          have h := ko96880
          clear ko96880 ho96880
          refine TQ.use ?_ hF hO
          clear hF hO
          refine TQ.then_ ?_
          refine TC.region ?_
          refine TL.cons (TO.val rfl rfl rfl (Val.fieldAddrB Tryd.underlying27 rfl fsz25 rfl rfl rfl) ?_)
          refine TL.cons (TO.val rfl rfl rfl (Val.loadB 2 agg25 rfl rfl rfl) ?_)
          refine TL.cons (TO.val rfl rfl rfl (Val.move rfl) ?_)
          obtain ⟨y97286, hx97287, h⟩ := bind_no h
          obtain ⟨b97288, cs97289, hA97290, hi97291, hj97292, hS97293, hM97294, hcl97295⟩ := RA.at hR84130 hx97287
          obtain ⟨v97296, rfl, hR97297⟩ := k37_openM hM97294
          obtain ⟨A97298, c97299, rfl⟩ := Kd.R_slice hR97297
          refine TL.cons (TO.val rfl rfl rfl (Val.indexAddrW Tryd.underlying25 fsz37 rfl hA97290 rfl hi97291 hj97292) ?_)
          refine TL.cons (TO.val rfl rfl rfl (Val.fieldAddrB Tryd.underlying37 rfl fsz35 rfl rfl rfl) ?_)
          refine TL.cons (TO.val rfl rfl rfl (Val.fieldAddrB Tryd.underlying35 rfl fsz3 rfl rfl rfl) ?_)
          refine TL.cons (TL.storeAlk 3 rfl fsz3 rfl rfl rfl hS97293 (cell_sub (q := 3) hcl97295 rfl) ?_)
          refine TL.nil ?_
          refine TQ.inB ?_
          refine TQ.then_ ?_
          refine TC.region ?_
          refine TL.cons (TO.val rfl rfl rfl (Val.move rfl) ?_)
          refine TL.cons (TO.val rfl rfl rfl (Val.cmp rfl rfl run_add) ?_)
          refine TL.cons (TO.val rfl rfl rfl (Val.assign rfl) ?_)
          refine TL.nil ?_
          exact fun a W hF hO => ⟨IntKind.i64.wrap (x88577 + 1), h, hF.sub ⟨rfl, rfl, trivial⟩, hO.selT (Ls := [Blk b75633 [.int .i64 y75628.f0, .slice A75630 y75628.f1.length c75631] 27, Blk b75639 [.int .i64 y75634.f0, .slice A75636 y75634.f1.length c75637] 27, Blk b81845 [.int .i64 y75634.f0, .slice A75636 y75634.f1.length c75637] 27, Alk W84127 S84128, Row k37 37 (.slice A75630 y75628.f1.length c75631) y75628.f1]) [0, 1, 2, 3, 4] 5 rfl rfl rfl⟩
         ·
          refine TC.block ?_
          intro a W hF hO
          have hS : ∃ (x96475 : Int), swagelaw14_CodeCopies.l4 y75634 x88577 100000 x96475 = some o96880 ∧ Fr 65 a [(1, .pointer (some ⟨b81845, 0, none⟩)), (2, .int .i64 x88577), (3, .int .i64 x96475)] ∧ Own G (Blk b75633 [.int .i64 y75628.f0, .slice A75630 y75628.f1.length c75631] 27 :: Blk b75639 [.int .i64 y75634.f0, .slice A75636 y75634.f1.length c75637] 27 :: Blk b81845 [.int .i64 y75634.f0, .slice A75636 y75634.f1.length c75637] 27 :: Alk W84127 S84128 :: Row k37 37 (.slice A75630 y75628.f1.length c75631) y75628.f1 :: L) W := by
           exact ⟨0, ho96880, hF.sub ⟨rfl, rfl, rfl, trivial⟩, hO.selT (Ls := [Blk b75633 [.int .i64 y75628.f0, .slice A75630 y75628.f1.length c75631] 27, Blk b75639 [.int .i64 y75634.f0, .slice A75636 y75634.f1.length c75637] 27, Blk b81845 [.int .i64 y75634.f0, .slice A75636 y75634.f1.length c75637] 27, Alk W84127 S84128, Row k37 37 (.slice A75630 y75628.f1.length c75631) y75628.f1]) [0, 1, 2, 3, 4] 5 rfl rfl rfl⟩
          clear hF hO ho96880 ko96880
          refine TC.loop (fun n96881 a W => ∃ (x96475 : Int), swagelaw14_CodeCopies.l4 y75634 x88577 n96881 x96475 = some o96880 ∧ Fr 65 a [(1, .pointer (some ⟨b81845, 0, none⟩)), (2, .int .i64 x88577), (3, .int .i64 x96475)] ∧ Own G (Blk b75633 [.int .i64 y75628.f0, .slice A75630 y75628.f1.length c75631] 27 :: Blk b75639 [.int .i64 y75634.f0, .slice A75636 y75634.f1.length c75637] 27 :: Blk b81845 [.int .i64 y75634.f0, .slice A75636 y75634.f1.length c75637] 27 :: Alk W84127 S84128 :: Row k37 37 (.slice A75630 y75628.f1.length c75631) y75628.f1 :: L) W) ?_ ?_ hS
          ·
           rintro a W ⟨x96475, h, hF, hO⟩
           exact none_no h
          ·
           clear hS
           rintro n96881 a W ⟨x96475, h, hF, hO⟩
           rw [swagelaw14_CodeCopies.l4] at h
           refine TC.use ?_ hF hO
           clear hF hO
           refine TC.seq ?_
           refine TC.seq ?_
           refine TC.region ?_
           refine TL.cons (TO.val rfl rfl rfl (Val.move rfl) ?_)
           refine TL.cons (TO.val rfl rfl rfl (Val.fieldAddrB Tryd.underlying27 rfl fsz25 rfl rfl rfl) ?_)
           refine TL.cons (TO.val rfl rfl rfl (Val.loadB 2 agg25 rfl rfl rfl) ?_)
           refine TL.cons (TO.val rfl rfl rfl (Val.move rfl) ?_)
           obtain ⟨y97300, hx97301, h⟩ := bind_no h
           obtain ⟨b97302, cs97303, hA97304, hi97305, hj97306, hS97307, hM97308, hcl97309⟩ := RA.at hR84130 hx97301
           obtain ⟨v97310, rfl, hR97311⟩ := k37_openM hM97308
           obtain ⟨A97312, c97313, rfl⟩ := Kd.R_slice hR97311
           refine TL.cons (TO.val rfl rfl rfl (Val.indexAddrW Tryd.underlying25 fsz37 rfl hA97304 rfl hi97305 hj97306) ?_)
           refine TL.cons (TO.val rfl rfl rfl (Val.fieldAddrB Tryd.underlying37 rfl fsz33 rfl rfl rfl) ?_)
           refine TL.cons (TO.val rfl rfl rfl (Val.loadAlk 3 agg33 rfl rfl hS97307 (cell_sub (q := 0) hcl97309 rfl)) ?_)
           refine TL.cons (TO.val rfl rfl rfl (Val.len Tryd.underlying33 rfl) ?_)
           refine TL.cons (TO.val rfl rfl rfl (Val.cmp rfl rfl run_lss) ?_)
           refine TL.nil ?_
           refine TQ.then_ ?_
           refine TC.cond_p rfl h (fun hc97315 h => ?_) (fun hc97315 h => ?_)
           ·
            refine TC.skip ?_
            refine TQ.then_ ?_
            refine TC.seq ?_
            refine TC.block ?_
            refine TC.seq ?_
            refine TC.seq ?_
            refine TC.region ?_
            refine TL.cons (TO.val rfl rfl rfl (Val.assign rfl) ?_)
            refine TL.nil ?_
            refine TQ.then_ ?_
            obtain ⟨o97720, ho97720, ko97720⟩ := bind_no h
            clear h
            refine TC.tail (fun a W => () = o97720 ∧ Fr 65 a [(1, .pointer (some ⟨b81845, 0, none⟩)), (2, .int .i64 x88577), (3, .int .i64 x96475)] ∧ Own G (Blk b75633 [.int .i64 y75628.f0, .slice A75630 y75628.f1.length c75631] 27 :: Blk b75639 [.int .i64 y75634.f0, .slice A75636 y75634.f1.length c75637] 27 :: Blk b81845 [.int .i64 y75634.f0, .slice A75636 y75634.f1.length c75637] 27 :: Alk W84127 S84128 :: Row k37 37 (.slice A75630 y75628.f1.length c75631) y75628.f1 :: L) W) ?_ ?_
            ·
             rintro a W ⟨rfl, hF, hO⟩
             have h := ko97720
             clear ko97720 ho97720
             refine TQ.use ?_ hF hO
             clear hF hO
             refine TQ.then_ ?_
             refine TC.region ?_
             refine TL.cons (TO.val rfl rfl rfl (Val.fieldAddrB Tryd.underlying27 rfl fsz25 rfl rfl rfl) ?_)
             refine TL.cons (TO.val rfl rfl rfl (Val.loadB 2 agg25 rfl rfl rfl) ?_)
             refine TL.cons (TO.val rfl rfl rfl (Val.move rfl) ?_)
             obtain ⟨y97772, hx97773, h⟩ := bind_no h
             obtain ⟨b97774, cs97775, hA97776, hi97777, hj97778, hS97779, hM97780, hcl97781⟩ := RA.at hR84130 hx97773
             obtain ⟨v97782, rfl, hR97783⟩ := k37_openM hM97780
             obtain ⟨A97784, c97785, rfl⟩ := Kd.R_slice hR97783
             refine TL.cons (TO.val rfl rfl rfl (Val.indexAddrW Tryd.underlying25 fsz37 rfl hA97776 rfl hi97777 hj97778) ?_)
             refine TL.cons (TO.val rfl rfl rfl (Val.fieldAddrB Tryd.underlying37 rfl fsz33 rfl rfl rfl) ?_)
             refine TL.cons (TO.val rfl rfl rfl (Val.loadAlk 3 agg33 rfl rfl hS97779 (cell_sub (q := 0) hcl97781 rfl)) ?_)
             refine TL.cons (TO.val rfl rfl rfl (Val.move rfl) ?_)
             obtain ⟨y97786, hx97787, h⟩ := bind_no h
             obtain ⟨b97788, cs97789, hA97790, hi97791, hj97792, hS97793, hM97794, hcl97795⟩ := RA.at hR97783 hx97787
             obtain ⟨v97796, rfl, hR97797⟩ := k40_openM hM97794
             obtain ⟨A97798, c97799, rfl⟩ := Kd.R_slice hR97797
             refine TL.cons (TO.val rfl rfl rfl (Val.indexAddrW Tryd.underlying33 fsz40 rfl hA97790 rfl hi97791 hj97792) ?_)
             refine TL.cons (TO.val rfl rfl rfl (Val.fieldAddrB Tryd.underlying40 rfl fsz3 rfl rfl rfl) ?_)
             refine TL.cons (TL.storeAlk 3 rfl fsz3 rfl rfl rfl hS97793 (cell_sub (q := 0) hcl97795 rfl) ?_)
             refine TL.nil ?_
             refine TQ.inB ?_
             refine TQ.then_ ?_
             refine TC.region ?_
             refine TL.cons (TO.val rfl rfl rfl (Val.move rfl) ?_)
             refine TL.cons (TO.val rfl rfl rfl (Val.cmp rfl rfl run_add) ?_)
             refine TL.cons (TO.val rfl rfl rfl (Val.assign rfl) ?_)
             refine TL.nil ?_
             exact fun a W hF hO => ⟨IntKind.i64.wrap (x96475 + 1), h, hF.sub ⟨rfl, rfl, rfl, trivial⟩, hO.selT (Ls := [Blk b75633 [.int .i64 y75628.f0, .slice A75630 y75628.f1.length c75631] 27, Blk b75639 [.int .i64 y75634.f0, .slice A75636 y75634.f1.length c75637] 27, Blk b81845 [.int .i64 y75634.f0, .slice A75636 y75634.f1.length c75637] 27, Alk W84127 S84128, Row k37 37 (.slice A75630 y75628.f1.length c75631) y75628.f1]) [0, 1, 2, 3, 4] 5 rfl rfl rfl⟩
            ·
             refine TC.block ?_
             intro a W hF hO
             have hS : ∃ (x97669 : Int), swagelaw14_CodeCopies.l5 y75634 x88577 x96475 100000 x97669 = some o97720 ∧ Fr 65 a [(1, .pointer (some ⟨b81845, 0, none⟩)), (2, .int .i64 x88577), (3, .int .i64 x96475), (4, .int .i64 x97669)] ∧ Own G (Blk b75633 [.int .i64 y75628.f0, .slice A75630 y75628.f1.length c75631] 27 :: Blk b75639 [.int .i64 y75634.f0, .slice A75636 y75634.f1.length c75637] 27 :: Blk b81845 [.int .i64 y75634.f0, .slice A75636 y75634.f1.length c75637] 27 :: Alk W84127 S84128 :: Row k37 37 (.slice A75630 y75628.f1.length c75631) y75628.f1 :: L) W := by
              exact ⟨0, ho97720, hF.sub ⟨rfl, rfl, rfl, rfl, trivial⟩, hO.selT (Ls := [Blk b75633 [.int .i64 y75628.f0, .slice A75630 y75628.f1.length c75631] 27, Blk b75639 [.int .i64 y75634.f0, .slice A75636 y75634.f1.length c75637] 27, Blk b81845 [.int .i64 y75634.f0, .slice A75636 y75634.f1.length c75637] 27, Alk W84127 S84128, Row k37 37 (.slice A75630 y75628.f1.length c75631) y75628.f1]) [0, 1, 2, 3, 4] 5 rfl rfl rfl⟩
             clear hF hO ho97720 ko97720
             refine TC.loop (fun n97721 a W => ∃ (x97669 : Int), swagelaw14_CodeCopies.l5 y75634 x88577 x96475 n97721 x97669 = some o97720 ∧ Fr 65 a [(1, .pointer (some ⟨b81845, 0, none⟩)), (2, .int .i64 x88577), (3, .int .i64 x96475), (4, .int .i64 x97669)] ∧ Own G (Blk b75633 [.int .i64 y75628.f0, .slice A75630 y75628.f1.length c75631] 27 :: Blk b75639 [.int .i64 y75634.f0, .slice A75636 y75634.f1.length c75637] 27 :: Blk b81845 [.int .i64 y75634.f0, .slice A75636 y75634.f1.length c75637] 27 :: Alk W84127 S84128 :: Row k37 37 (.slice A75630 y75628.f1.length c75631) y75628.f1 :: L) W) ?_ ?_ hS
             ·
              rintro a W ⟨x97669, h, hF, hO⟩
              exact none_no h
             ·
              clear hS
              rintro n97721 a W ⟨x97669, h, hF, hO⟩
              rw [swagelaw14_CodeCopies.l5] at h
              refine TC.use ?_ hF hO
              clear hF hO
              refine TC.seq ?_
              refine TC.seq ?_
              refine TC.region ?_
              refine TL.cons (TO.val rfl rfl rfl (Val.move rfl) ?_)
              refine TL.cons (TO.val rfl rfl rfl (Val.fieldAddrB Tryd.underlying27 rfl fsz25 rfl rfl rfl) ?_)
              refine TL.cons (TO.val rfl rfl rfl (Val.loadB 2 agg25 rfl rfl rfl) ?_)
              refine TL.cons (TO.val rfl rfl rfl (Val.move rfl) ?_)
              obtain ⟨y97800, hx97801, h⟩ := bind_no h
              obtain ⟨b97802, cs97803, hA97804, hi97805, hj97806, hS97807, hM97808, hcl97809⟩ := RA.at hR84130 hx97801
              obtain ⟨v97810, rfl, hR97811⟩ := k37_openM hM97808
              obtain ⟨A97812, c97813, rfl⟩ := Kd.R_slice hR97811
              refine TL.cons (TO.val rfl rfl rfl (Val.indexAddrW Tryd.underlying25 fsz37 rfl hA97804 rfl hi97805 hj97806) ?_)
              refine TL.cons (TO.val rfl rfl rfl (Val.fieldAddrB Tryd.underlying37 rfl fsz33 rfl rfl rfl) ?_)
              refine TL.cons (TO.val rfl rfl rfl (Val.loadAlk 3 agg33 rfl rfl hS97807 (cell_sub (q := 0) hcl97809 rfl)) ?_)
              refine TL.cons (TO.val rfl rfl rfl (Val.move rfl) ?_)
              obtain ⟨y97814, hx97815, h⟩ := bind_no h
              obtain ⟨b97816, cs97817, hA97818, hi97819, hj97820, hS97821, hM97822, hcl97823⟩ := RA.at hR97811 hx97815
              obtain ⟨v97824, rfl, hR97825⟩ := k40_openM hM97822
              obtain ⟨A97826, c97827, rfl⟩ := Kd.R_slice hR97825
              refine TL.cons (TO.val rfl rfl rfl (Val.indexAddrW Tryd.underlying33 fsz40 rfl hA97818 rfl hi97819 hj97820) ?_)
              refine TL.cons (TO.val rfl rfl rfl (Val.fieldAddrB Tryd.underlying40 rfl fsz38 rfl rfl rfl) ?_)
              refine TL.cons (TO.val rfl rfl rfl (Val.loadAlk 3 agg38 rfl rfl hS97821 (cell_sub (q := 5) hcl97823 rfl)) ?_)
              refine TL.cons (TO.val rfl rfl rfl (Val.len Tryd.underlying38 rfl) ?_)
              refine TL.cons (TO.val rfl rfl rfl (Val.cmp rfl rfl run_lss) ?_)
              refine TL.nil ?_
              refine TQ.then_ ?_
              refine TC.cond_p rfl h (fun hc97829 h => ?_) (fun hc97829 h => ?_)
              ·
               refine TC.skip ?_
               refine TQ.then_ ?_
               refine TC.seq ?_
               refine TC.block ?_
               refine TC.region ?_
               refine TL.cons (TO.val rfl rfl rfl (Val.fieldAddrB Tryd.underlying27 rfl fsz25 rfl rfl rfl) ?_)
               refine TL.cons (TO.val rfl rfl rfl (Val.loadB 2 agg25 rfl rfl rfl) ?_)
               refine TL.cons (TO.val rfl rfl rfl (Val.move rfl) ?_)
               refine TL.cons (TO.val rfl rfl rfl (Val.indexAddrW Tryd.underlying25 fsz37 rfl hA97804 rfl hi97805 hj97806) ?_)
               refine TL.cons (TO.val rfl rfl rfl (Val.fieldAddrB Tryd.underlying37 rfl fsz33 rfl rfl rfl) ?_)
               refine TL.cons (TO.val rfl rfl rfl (Val.loadAlk 3 agg33 rfl rfl hS97807 (cell_sub (q := 0) hcl97809 rfl)) ?_)
               refine TL.cons (TO.val rfl rfl rfl (Val.move rfl) ?_)
               refine TL.cons (TO.val rfl rfl rfl (Val.indexAddrW Tryd.underlying33 fsz40 rfl hA97818 rfl hi97819 hj97820) ?_)
               refine TL.cons (TO.val rfl rfl rfl (Val.fieldAddrB Tryd.underlying40 rfl fsz38 rfl rfl rfl) ?_)
               refine TL.cons (TO.val rfl rfl rfl (Val.loadAlk 3 agg38 rfl rfl hS97821 (cell_sub (q := 5) hcl97823 rfl)) ?_)
               refine TL.cons (TO.val rfl rfl rfl (Val.move rfl) ?_)
               obtain ⟨y97840, hx97841, h⟩ := bind_no h
               obtain ⟨b97842, cs97843, hA97844, hi97845, hj97846, hS97847, hM97848, hcl97849⟩ := RA.at hR97825 hx97841
               obtain rfl := (Kd.int .i64).K_of_M hM97848
               refine TL.cons (TO.val rfl rfl rfl (Val.indexAddrW Tryd.underlying38 fsz3 rfl hA97844 rfl hi97845 hj97846) ?_)
               refine TL.cons (TL.storeAlk 3 rfl fsz3 rfl rfl rfl hS97847 (cell_sub (q := 0) hcl97849 rfl) ?_)
               refine TL.nil ?_
               refine TQ.inB ?_
               refine TQ.then_ ?_
               refine TC.region ?_
               refine TL.cons (TO.val rfl rfl rfl (Val.move rfl) ?_)
               refine TL.cons (TO.val rfl rfl rfl (Val.cmp rfl rfl run_add) ?_)
               refine TL.cons (TO.val rfl rfl rfl (Val.assign rfl) ?_)
               refine TL.nil ?_
               exact fun a W hF hO => ⟨IntKind.i64.wrap (x97669 + 1), h, hF.sub ⟨rfl, rfl, rfl, rfl, trivial⟩, hO.selT (Ls := [Blk b75633 [.int .i64 y75628.f0, .slice A75630 y75628.f1.length c75631] 27, Blk b75639 [.int .i64 y75634.f0, .slice A75636 y75634.f1.length c75637] 27, Blk b81845 [.int .i64 y75634.f0, .slice A75636 y75634.f1.length c75637] 27, Alk W84127 S84128, Row k37 37 (.slice A75630 y75628.f1.length c75631) y75628.f1]) [0, 1, 2, 3, 4] 5 rfl rfl rfl⟩
              ·
               refine TC.exit ?_
               refine TQ.thenX ?_
               refine TQ.thenX ?_
               refine TQ.inBX ?_
               exact fun a W hF hO => ⟨Option.some.inj h, hF.sub ⟨rfl, rfl, rfl, trivial⟩, hO.selT (Ls := [Blk b75633 [.int .i64 y75628.f0, .slice A75630 y75628.f1.length c75631] 27, Blk b75639 [.int .i64 y75634.f0, .slice A75636 y75634.f1.length c75637] 27, Blk b81845 [.int .i64 y75634.f0, .slice A75636 y75634.f1.length c75637] 27, Alk W84127 S84128, Row k37 37 (.slice A75630 y75628.f1.length c75631) y75628.f1]) [0, 1, 2, 3, 4] 5 rfl rfl rfl⟩
           ·
            refine TC.exit ?_
            refine TQ.thenX ?_
            refine TQ.thenX ?_
            refine TQ.inBX ?_
            exact fun a W hF hO => ⟨Option.some.inj h, hF.sub ⟨rfl, rfl, trivial⟩, hO.selT (Ls := [Blk b75633 [.int .i64 y75628.f0, .slice A75630 y75628.f1.length c75631] 27, Blk b75639 [.int .i64 y75634.f0, .slice A75636 y75634.f1.length c75637] 27, Blk b81845 [.int .i64 y75634.f0, .slice A75636 y75634.f1.length c75637] 27, Alk W84127 S84128, Row k37 37 (.slice A75630 y75628.f1.length c75631) y75628.f1]) [0, 1, 2, 3, 4] 5 rfl rfl rfl⟩
        ·
         refine TC.exit ?_
         refine TQ.thenX ?_
         refine TQ.thenX ?_
         refine TQ.inBX ?_
         exact fun a W hF hO => ⟨Option.some.inj h, hF.sub trivial, hO.selT (Ls := [Blk b75633 [.int .i64 y75628.f0, .slice A75630 y75628.f1.length c75631] 27, Blk b75639 [.int .i64 y75634.f0, .slice A75636 y75634.f1.length c75637] 27, Alk W84127 S84128, Row k37 37 (.slice A75630 y75628.f1.length c75631) y75628.f1]) [0, 1, 3, 4] 5 rfl rfl rfl⟩
     ·
      refine TC.exit ?_
      refine TQ.thenX ?_
      refine TQ.thenX ?_
      refine TQ.inBX ?_
      exact fun a W hF hO => ⟨Option.some.inj h, hF.sub ⟨rfl, rfl, trivial⟩, hO.selT (Ls := []) [] 0 rfl rfl rfl⟩
  ·
   refine TC.block ?_
   intro a W hF hO
   have hS : ∃ (x82 : Int), swagelaw14_CodeCopies.l0 a0 y5 (a0.length + 1) x82 = some o119 ∧ Fr 106 a [(0, .slice A1 a0.length c2), (3, .bool y5), (4, .int .i64 x82)] ∧ Own G (L) W := by
    exact ⟨0, ho119, hF.sub ⟨rfl, rfl, rfl, trivial⟩, hO.selT (Ls := []) [] 0 rfl rfl rfl⟩
   clear hF hO ho119
   refine TC.loop (fun n120 a W => ∃ (x82 : Int), swagelaw14_CodeCopies.l0 a0 y5 n120 x82 = some o119 ∧ Fr 106 a [(0, .slice A1 a0.length c2), (3, .bool y5), (4, .int .i64 x82)] ∧ Own G (L) W) ?_ ?_ hS
   ·
    rintro a W ⟨x82, h, hF, hO⟩
    exact none_no h
   ·
    clear hS
    rintro n120 a W ⟨x82, h, hF, hO⟩
    rw [swagelaw14_CodeCopies.l0] at h
    refine TC.use ?_ hF hO
    clear hF hO
    refine TC.seq ?_
    refine TC.seq ?_
    refine TC.region ?_
    refine TL.cons (TO.val rfl rfl rfl (Val.move rfl) ?_)
    refine TL.cons (TO.val rfl rfl rfl (Val.move rfl) ?_)
    refine TL.cons (TO.val rfl rfl rfl (Val.len Tryd.underlying22 rfl) ?_)
    refine TL.cons (TO.val rfl rfl rfl (Val.cmp rfl rfl run_lss) ?_)
    refine TL.nil ?_
    refine TQ.then_ ?_
    refine TC.cond_p rfl h (fun hc97851 h => ?_) (fun hc97851 h => ?_)
    ·
     refine TC.skip ?_
     refine TQ.then_ ?_
     refine TC.seq ?_
     refine TC.block ?_
     refine TC.seq ?_
     refine TC.region ?_
     refine TL.cons (TO.val rfl rfl rfl (Val.move rfl) ?_)
     refine TL.cons (TO.val rfl rfl rfl (Val.move rfl) ?_)
     obtain ⟨y97869, hx97870, h⟩ := bind_no h
     obtain ⟨ad97871, cs97877, hA97872, hi97873, hj97874, hcl97875, hK97876⟩ := Rd.at hr3 hx97870
     obtain ⟨A97878, c97879, rfl, hr97880, hl97881⟩ := k27_openR hK97876
     refine TL.cons (TO.val rfl rfl rfl (Val.indexAddr Tryd.underlying22 fsz27 rfl hA97872 rfl hi97873 hj97874) ?_)
     refine TL.cons (TO.val rfl rfl rfl (Val.loadsS (cs := [.int .i64 y97869.f0, .slice A97878 y97869.f1.length c97879]) agg27 fsz27 rfl rfl (Cl.sub (off := 0) (n := 2) hcl97875 rfl)) ?_)
     obtain ⟨y97882, hy97883, h⟩ := bind_no h
     refine TL.cons (TL.callV (Lin := []) (args := [.agg #[.int .i64 y97869.f0, .slice A97878 y97869.f1.length c97879]]) rfl rfl rfl hbd8 rfl rfl (swagelaw14_Few.calls (a0 := y97869) hr97880 hl97881 hy97883) rfl ?_)
     rintro _ _ _ _ ⟨rfl, rfl, rfl⟩
     refine TL.cons (TO.val rfl rfl rfl (Val.assign rfl) ?_)
     refine TL.nil ?_
     refine TQ.then_ ?_
     refine TC.seq ?_
     refine TC.region ?_
     refine TL.cons (TO.val rfl rfl rfl (Val.move rfl) ?_)
     refine TL.cons (TO.val rfl rfl rfl (Val.not_ rfl) ?_)
     refine TL.nil ?_
     refine TQ.then_ ?_
     refine TC.cond_b rfl h (fun hc97885 h => ?_) (fun hc97885 h => ?_)
     ·
      refine TC.seq ?_
      refine TC.region ?_
      refine TL.cons (TO.val rfl rfl rfl (Val.move rfl) ?_)
      refine TL.cons (TO.val rfl rfl rfl (Val.assign rfl) ?_)
      refine TL.nil ?_
      refine TQ.then_ ?_
      refine TC.ret ?_
      refine TQ.inBR ?_
      refine TQ.thenR ?_
      refine TQ.thenR ?_
      refine TQ.inBR ?_
      refine TQ.thenR ?_
      refine TQ.thenR ?_
      obtain rfl := Option.some.inj h
      have h := ko119
      obtain rfl := Option.some.inj h
      exact TQ.fin (.inl rfl) rfl Tryd.results3 (.tmp rfl .nil) rfl (FRel.mk (Ls := []) [] 0 (Gd.le.refl _) rfl rfl rfl ⟨rfl, rfl, rfl⟩)
     ·
      refine TC.skip ?_
      refine TQ.inB ?_
      refine TQ.then_ ?_
      refine TC.region ?_
      refine TL.cons (TO.val rfl rfl rfl (Val.move rfl) ?_)
      refine TL.cons (TO.val rfl rfl rfl (Val.cmp rfl rfl run_add) ?_)
      refine TL.cons (TO.val rfl rfl rfl (Val.assign rfl) ?_)
      refine TL.nil ?_
      exact fun a W hF hO => ⟨IntKind.i64.wrap (x82 + 1), h, hF.sub ⟨rfl, rfl, rfl, trivial⟩, hO.selT (Ls := []) [] 0 rfl rfl rfl⟩
    ·
     refine TC.exit ?_
     refine TQ.thenX ?_
     refine TQ.thenX ?_
     refine TQ.inBX ?_
     exact fun a W hF hO => ⟨Option.some.inj h, hF.sub ⟨rfl, rfl, trivial⟩, hO.selT (Ls := []) [] 0 rfl rfl rfl⟩
end Go.Proofs.YtmacdhkfgoahcaaDoor.Sy
set_option linter.unusedVariables false
set_option linter.unusedSimpArgs false
namespace Go.Proofs.YtmacdhkfgoahcaaDoor.Sy
open Go Go.RowKit Go.Proofs.YtmacdhkfgoahcaaDoorW.PrintWords Go.Proofs.YtmacdhkfgoahcaaDoor.SyO
theorem small_true : swagelaw14_small.f = some true := by decide +kernel
theorem at_mem {α : Type} {l : List α} {i : Int} {y : α} (h : at? l i = some y) : y ∈ l := by
  unfold at? at h
  split at h
  · exact List.mem_of_getElem? h
  · cases h
theorem spoil_l5 {t : S27} {i k : Int} {y : S37} {o : S40} (hy : at? t.f1 i = some y) (ho : at? y.f0 k = some o) (hl : o.f5.length ≤ 20) {n : Nat} (hn : 1000 < n) : swagelaw14_CodeCopies.l5 t i k n 0 = some () := by
  refine loopd (xs := o.f5) (F := fun n j => swagelaw14_CodeCopies.l5 t i k n j) (P := fun _ r => r = some ()) (by omega) (fun n => by simp [swagelaw14_CodeCopies.l5, hy, ho]) (fun n j z r hd hlt hat hm hw ih => ?_) n (by omega)
  rw [swagelaw14_CodeCopies.l5]
  simp only [hy, ho, Option.bind_some, if_pos hlt, hat, hw]; exact ih
theorem spoil_l4 {t : S27} {i : Int} {y : S37} (hy : at? t.f1 i = some y) (hl : y.f0.length ≤ 250) (ha : ∀ o ∈ y.f0, o.f5.length ≤ 20) {n : Nat} (hn : 1000 < n) : swagelaw14_CodeCopies.l4 t i n 0 = some () := by
  refine loopd (xs := y.f0) (F := fun n j => swagelaw14_CodeCopies.l4 t i n j) (P := fun _ r => r = some ()) (by omega) (fun n => by simp [swagelaw14_CodeCopies.l4, hy]) (fun n j z r hd hlt hat hm hw ih => ?_) n (by omega)
  rw [swagelaw14_CodeCopies.l4]
  simp only [hy, Option.bind_some, if_pos hlt, hat, hw, spoil_l5 hy hat (ha z hm) (show 1000 < 100000 by omega)]; exact ih
theorem spoil_l2 {t : S27} (hf : Fewp t) : swagelaw14_CodeCopies.l2 t (t.f1.length + 1) 0 = some () := by
  obtain ⟨f1, f2, f3⟩ := hf
  refine loopd (xs := t.f1) (F := fun n j => swagelaw14_CodeCopies.l2 t n j) (P := fun _ r => r = some ()) (by omega) (fun n => by simp [swagelaw14_CodeCopies.l2]) (fun n j z r hd hlt hat hm hw ih => ?_) _ (by omega)
  rw [swagelaw14_CodeCopies.l2]
  simp only [if_pos hlt, hat, Option.bind_some, hw, spoil_l4 hat (f3 z hm).1 (f3 z hm).2 (show 1000 < 100000 by omega)]; exact ih
theorem alike_l3 {l : List S27} (hl : l.length ≤ 10) (hf : ∀ t ∈ l, Fewp t) {i : Nat} {t : S27} (ht : at? l (i : Int) = some t) : swagelaw14_CodeCopies.l3 l (i : Int) (i + 1) 0 = some (.inr ()) := by
  have hil : i < l.length := by rw [at_nat] at ht; exact (List.getElem?_eq_some_iff.1 ht).1
  have hlen : (l.take i).length = i := by rw [List.length_take]; omega
  have := loopd (xs := l.take i) (F := fun n j => swagelaw14_CodeCopies.l3 l (i : Int) n j) (P := fun _ r => r = some (.inr ())) (by omega) (fun n => by rw [hlen]; simp [swagelaw14_CodeCopies.l3]) (fun n j z r hd hlt hat hm hw ih => by
    rw [hlen] at hlt
    have hz : at? l (j : Int) = some z := by
      rw [at_nat] at hat ⊢
      rw [List.getElem?_take] at hat
      split at hat
      · exact hat
      · cases hat
    obtain ⟨r1, e1, e2⟩ := same_f (a := t) (b := z) (hf t (at_mem ht))
    obtain ⟨r2, d1, d2⟩ := rsame_f (a := t) (b := z) (hf t (at_mem ht))
    have hr : r1 = r2 := Bool.eq_iff_iff.2 (e2.trans d2.symm)
    rw [swagelaw14_CodeCopies.l3]
    simp only [if_pos hlt, ht, hz, Option.bind_some, e1, d1, hr, hw]
    rw [if_neg (by simp)]; exact ih) (i + 1) (by omega)
  exact this
theorem codeCopies_law (l : List S27) (h : l.length * 32 ≤ 140737488351232 ∧ ∀ y ∈ l, ok27 y) : swagelaw14_CodeCopies.f l = some true := by
  unfold swagelaw14_CodeCopies.f
  rw [small_true, Option.bind_some]
  by_cases hl : 10 < (l.length : Int)
  · rw [if_pos hl]
  rw [if_neg hl]
  have hl' : l.length ≤ 10 := by omega
  have h0 := loopd (xs := l) (F := fun n j => swagelaw14_CodeCopies.l0 l true n j) (P := fun ts r => r = some (.inl true) ∨ (r = some (.inr ()) ∧ ∀ t ∈ ts, Fewp t)) (by omega) (fun n => by right; simp [swagelaw14_CodeCopies.l0]) (fun n j t r hd hlt hat hm hw ih => by
    obtain ⟨b, b1, b2⟩ := few_f (h.2 t hm)
    rw [swagelaw14_CodeCopies.l0]
    simp only [if_pos hlt, hat, Option.bind_some, b1, hw]
    cases b with
    | false => left; simp
    | true =>
      rw [if_neg (by simp)]
      rcases ih with ih | ⟨ih, ih2⟩
      · exact .inl ih
      · refine .inr ⟨ih, fun u hu => ?_⟩
        rcases List.mem_cons.1 hu with rfl | hu
        · exact b2 rfl
        · exact ih2 u hu) (l.length + 1) (by omega)
  rcases h0 with h0 | ⟨h0, hf⟩
  · rw [h0]; rfl
  rw [h0, Option.bind_some]
  have h1 : swagelaw14_CodeCopies.l1 l (l.length + 1) 0 = some (.inr ()) := by
    refine loopd (xs := l) (F := fun n j => swagelaw14_CodeCopies.l1 l n j) (P := fun _ r => r = some (.inr ())) (by omega) (fun n => by simp [swagelaw14_CodeCopies.l1]) (fun n j t r hd hlt hat hm hw ih => ?_) _ (by omega)
    have hft := hf t hm
    obtain ⟨r1, e1, e2⟩ := same_f (a := t) (b := t) hft
    obtain ⟨r2, d1, d2⟩ := rsame_f (a := t) (b := t) hft
    rw [swagelaw14_CodeCopies.l1]
    simp only [if_pos hlt, hat, Option.bind_some, rcopy_f hft, ccopy_f hft, d1, e1, d2.2 rfl, e2.2 rfl, spoil_l2 hft, jn, Bool.not_true, Bool.false_eq_true, if_false, Int.toNat_natCast, alike_l3 hl' hf hat, hw]
    exact ih
  rw [h1, Option.bind_some]
  obtain ⟨b, b1, b2⟩ := prog_f hl' hf
  simp [b1, b2]
end Go.Proofs.YtmacdhkfgoahcaaDoor.Sy
