/- Texts of this work, joined: SyF10, SyF11, SyF21, SyF9, SyF12, SyF4, SyF20, SyF7, SyF3, ThZ, ThA, ThE, ThF. -/
import Derived.Test.YtpngojifibakiaaSyNForwardCountsb
set_option linter.unusedVariables false
set_option linter.unusedSimpArgs false
set_option maxRecDepth 100000
set_option maxHeartbeats 4000000
namespace Go.Proofs.Ytpngojifibakiaa.Sy
open Go Go.RowKit Go.Proofs.YtpngojifibakiaaW.PrintWords 
def forward_Block.l0 (a0:S35) (a1:(List Int)):Nat → Int → (List S37) → MqS → Option ((List S37))
 | 0,_,_,_=>none
 | n344 + 1,x229,l230,x234=>(if x229 < (a0.f0.length:Int) then (at? a0.f0 x229).bind fun y502=>(slices_Clone_int_int.f y502.f5).bind fun (y516:(List Int))=>(if wf2 (y502.f2,y502.f4) then jn (γ:=((List S37))) (fun (x525:Bool)=>jn (γ:=((List S37))) (fun (x528:Int) (x529:Int) (x530:Int) (x531:Int) (l532:(List Int))=>(forward_known_learn.f x234 (⟨x528,y502.f1,x529,x530,x531,l532⟩:S37) a1).bind fun (y543:MqS)=>(if l230.length < 2199023255552 then forward_Block.l0 a0 a1 n344 (IntKind.i64.wrap (x229 + 1)) (l230 ++ [(⟨x528,y502.f1,x529,x530,x531,l532⟩:S37)]) y543 else none)) (fun (j536:(Int → Int → Int → Int → (List Int) → Option ((List S37))))=>(if x525=true then j536 3 (qget x234 (y502.f2,y502.f4)) 0 0 [] else j536 y502.f0 y502.f2 y502.f3 y502.f4 y516))) (fun (j526:(Bool → Option ((List S37))))=>(if (qhas x234 (y502.f2,y502.f4))=true then j526 (decide (y502.f0=4)) else j526 false)) else none) else some l230)
def forward_Block.f (a0:S35) (a1:(List Int)):Option S35:=(forward_Block.l0 a0 a1 (a0.f0.length + 1) 0 [] qnil).bind fun (l339:(List S37))=>some (⟨l339,a0.f1⟩:S35)
def forward_Block.post (G:Gd)  (r:S35) (v:Value) (G':Gd) (Lr:List Ch):Prop:=G=G'∧∃ (A_1:Option Addr) (c_1:Nat),v=.agg #[.slice A_1 r.f0.length c_1,VI r.f1.f0,VI r.f1.f1,VI r.f1.f2,VI r.f1.f3]∧Lr=[Row k37 37 (.slice A_1 r.f0.length c_1) r.f0]
theorem forward_Block.calls {G:Gd} {r:S35} {a0:S35} {a1:(List Int)} {A1:Option Addr} {c2:Nat} {A5:Option Addr} {c6:Nat} (hr3:Rd G k37 A1 a0.f0) (hl4:a0.f0.length ≤ c2) (hr7:Rd G kI A5 a1) (hl8:a1.length ≤ c6) (h:forward_Block.f a0 a1=some r):Fn Try.prog 10 G [] [.agg #[.slice A1 a0.f0.length c2,VI a0.f1.f0,VI a0.f1.f1,VI a0.f1.f2,VI a0.f1.f3],.slice A5 a1.length c6] (forward_Block.post G  r):=by
 refine Fn.intro (e:=[(0,.agg #[.slice A1 a0.f0.length c2,VI a0.f1.f0,VI a0.f1.f1,VI a0.f1.f2,VI a0.f1.f3]),(1,.slice A5 a1.length c6)]) 58 Try.func10 rfl Try.ntmps10 rfl rfl (Nat.le_of_ble_eq_true rfl) (fun L=>?_)
 unfold forward_Block.f at h
 refine TC.seq ?_
 refine TC.region ?_
 refine TL.cons (TL.box (cs:=[.slice A1 a0.f0.length c2,VI a0.f1.f0,VI a0.f1.f1,VI a0.f1.f2,VI a0.f1.f3]) rfl rfl rfl rfl (fun b9=>?_))
 refine TL.cons (TL.alloc (cs:=[.slice none 0 0,VI 0,VI 0,VI 0,VI 0]) rfl rfl zr35 rfl (fun b10=>?_))
 refine TL.nil ?_
 refine TQ.then_ ?_
 refine TC.seq ?_
 refine TC.region ?_
 refine TV rfl rfl rfl (Val.fieldAddrB Try.underlying35 rfl fsz33 rfl rfl rfl) ?_
 refine TV rfl rfl rfl (Val.loadsB 1 (cs:=[VI a0.f1.f0,VI a0.f1.f1,VI a0.f1.f2,VI a0.f1.f3]) agg33 fsz33 rfl rfl rfl rfl) ?_
 refine TV rfl rfl rfl (Val.build (cs:=[.slice none 0 0,VI a0.f1.f0,VI a0.f1.f1,VI a0.f1.f2,VI a0.f1.f3]) (is:=[1]) (xs:=[.tmp 12]) Try.underlying35 zr35 bld35 rfl rfl rfl rfl) ?_
 refine TL.cons (TL.alloc (cs:=[.slice none 0 0,VI 0,VI 0,VI 0,VI 0]) rfl rfl zr35 rfl (fun b11=>?_))
 refine TL.cons (TL.store 0 (ds:=[.slice none 0 0,VI a0.f1.f0,VI a0.f1.f1,VI a0.f1.f2,VI a0.f1.f3]) (cs':=[.slice none 0 0,VI a0.f1.f0,VI a0.f1.f1,VI a0.f1.f2,VI a0.f1.f3]) (L':=(Blk b11 [.slice none 0 0,VI a0.f1.f0,VI a0.f1.f1,VI a0.f1.f2,VI a0.f1.f3] 35::Blk b10 [.slice none 0 0,VI 0,VI 0,VI 0,VI 0] 35::Blk b9 [.slice A1 a0.f0.length c2,VI a0.f1.f0,VI a0.f1.f1,VI a0.f1.f2,VI a0.f1.f3] 35::L)) rfl fsz35 rfl rfl rfl rfl rfl (Nat.le_of_ble_eq_true rfl) rfl rfl ?_)
 refine TL.nil ?_
 refine TQ.then_ ?_
 refine TC.seq ?_
 refine TC.region ?_
 refine TL.cons (TL.makeMapQ (k:=59) (el:=3) rfl rfl (fun b12=>?_))
 refine TV rfl rfl rfl (Val.assign rfl) ?_
 refine TL.nil ?_
 refine TQ.then_ ?_
 refine TC.seq ?_
 refine TC.seq ?_
 refine TC.region ?_
 refine TV rfl rfl rfl (Val.fieldAddrB Try.underlying35 rfl fsz31 rfl rfl rfl) ?_
 refine TV rfl rfl rfl (Val.loadB 3 agg31 rfl rfl rfl) ?_
 refine TV rfl rfl rfl (Val.len Try.underlying31 rfl) ?_
 refine TV rfl rfl rfl (Val.move rfl) ?_
 refine TL.nil ?_
 refine TQ.then_ ?_
 obtain ⟨o343,ho343,ko343⟩:=bind_no h
 clear h
 refine TC.tail (fun a W=>∃ (l339:(List S37)) (A340:Option Addr) (c341:Nat),l339=o343∧Fr 58 a [(4,VP b10 0),(5,VP b11 0)]∧Own G (Blk b10 [.slice none 0 0,VI 0,VI 0,VI 0,VI 0] 35::Blk b11 [.slice A340 l339.length c341,VI a0.f1.f0,VI a0.f1.f1,VI a0.f1.f2,VI a0.f1.f3] 35::Row k37 37 (.slice A340 l339.length c341) l339::L) W) ?_ ?_
 ·
  rintro a W ⟨l339,A340,c341,rfl,hF,hO⟩
  have h:=ko343
  clear ko343 ho343
  refine TQ.use ?_ hF hO
  clear hF hO
  refine TQ.then_ ?_
  refine TC.seq ?_
  refine TC.region ?_
  refine TV rfl rfl rfl (Val.loadsB 1 (cs:=[.slice A340 l339.length c341,VI a0.f1.f0,VI a0.f1.f1,VI a0.f1.f2,VI a0.f1.f3]) agg35 fsz35 rfl rfl rfl rfl) ?_
  refine TL.cons (TL.store 0 (ds:=[.slice A340 l339.length c341,VI a0.f1.f0,VI a0.f1.f1,VI a0.f1.f2,VI a0.f1.f3]) (cs':=[.slice A340 l339.length c341,VI a0.f1.f0,VI a0.f1.f1,VI a0.f1.f2,VI a0.f1.f3]) (L':=(Blk b10 [.slice A340 l339.length c341,VI a0.f1.f0,VI a0.f1.f1,VI a0.f1.f2,VI a0.f1.f3] 35::Blk b11 [.slice A340 l339.length c341,VI a0.f1.f0,VI a0.f1.f1,VI a0.f1.f2,VI a0.f1.f3] 35::Row k37 37 (.slice A340 l339.length c341) l339::L)) rfl fsz35 rfl rfl rfl rfl rfl (Nat.le_of_ble_eq_true rfl) rfl rfl ?_)
  refine TL.nil ?_
  refine TQ.then_ ?_
  refine TC.ret ?_
  obtain rfl:=Option.some.inj h
  exact TQ.fin (.inl rfl) rfl Try.results10 (.cells 0 rfl rfl agg35 fsz35 .nil) rfl (FRel.mk (Ls:=[Row k37 37 (.slice A340 l339.length c341) l339]) [2] 3 (Gd.le.refl _) rfl rfl rfl ⟨rfl,A340,c341,rfl,rfl⟩)
 ·
  refine TC.block ?_
  intro a W hF hO
  have hS:∃ (x229:Int) (l230:(List S37)) (x234:MqS) (A231:Option Addr) (c232:Nat),forward_Block.l0 a0 a1 (a0.f0.length + 1) x229 l230 x234=some o343∧Fr 58 a [(1,.slice A5 a1.length c6),(4,VP b10 0),(5,VP b11 0),(6,.map (some b12)),(16,.slice A1 a0.f0.length c2),(17,VI (a0.f0.length:Int)),(18,VI x229)]∧Own G (Blk b10 [.slice none 0 0,VI 0,VI 0,VI 0,VI 0] 35::Blk b11 [.slice A231 l230.length c232,VI a0.f1.f0,VI a0.f1.f1,VI a0.f1.f2,VI a0.f1.f3] 35::Mq Try.prog 59 3 b12 x234::Row k37 37 (.slice A231 l230.length c232) l230::L) W:=by
   exact ⟨0,[],qnil,none,0,ho343,hF.sub ⟨rfl,rfl,rfl,rfl,rfl,rfl,rfl,trivial⟩,(Own.nilRow k37 37 hO).selT (Ls:=[Blk b10 [.slice none 0 0,VI 0,VI 0,VI 0,VI 0] 35,Blk b11 [.slice none ([]:List S37).length 0,VI a0.f1.f0,VI a0.f1.f1,VI a0.f1.f2,VI a0.f1.f3] 35,Mq Try.prog 59 3 b12 qnil,Row k37 37 (.slice none ([]:List S37).length 0) ([]:List S37)]) [3,2,1,0] 5 rfl rfl rfl⟩
  clear hF hO ho343 ko343
  refine TC.loop (fun n344 a W=>∃ (x229:Int) (l230:(List S37)) (x234:MqS) (A231:Option Addr) (c232:Nat),forward_Block.l0 a0 a1 n344 x229 l230 x234=some o343∧Fr 58 a [(1,.slice A5 a1.length c6),(4,VP b10 0),(5,VP b11 0),(6,.map (some b12)),(16,.slice A1 a0.f0.length c2),(17,VI (a0.f0.length:Int)),(18,VI x229)]∧Own G (Blk b10 [.slice none 0 0,VI 0,VI 0,VI 0,VI 0] 35::Blk b11 [.slice A231 l230.length c232,VI a0.f1.f0,VI a0.f1.f1,VI a0.f1.f2,VI a0.f1.f3] 35::Mq Try.prog 59 3 b12 x234::Row k37 37 (.slice A231 l230.length c232) l230::L) W) ?_ ?_ hS
  ·
   rintro a W ⟨x229,l230,x234,A231,c232,h,hF,hO⟩
   exact none_no h
  ·
   clear hS
   rintro n344 a W ⟨x229,l230,x234,A231,c232,h,hF,hO⟩
   rw [forward_Block.l0] at h
   refine TC.use ?_ hF hO
   clear hF hO
   refine TC.seq ?_
   refine TC.region ?_
   refine TV rfl rfl rfl (Val.cmp rfl rfl run_lss) ?_
   refine TL.nil ?_
   refine TQ.then_ ?_
   refine TC.seq ?_
   refine TC.cond_p rfl h (fun hc450 h=>?_) (fun hc450 h=>?_)
   ·
    refine TC.skip ?_
    refine TQ.then_ ?_
    refine TC.seq ?_
    refine TC.block ?_
    refine TC.seq ?_
    refine TC.region ?_
    obtain ⟨y502,hx503,h⟩:=bind_no h
    obtain ⟨ad504,cs510,hA505,hi506,hj507,hcl508,hK509⟩:=Rd.at hr3 hx503
    obtain ⟨A511,c512,rfl,hr513,hl514⟩:=k37_openR hK509
    refine TV rfl rfl rfl (Val.indexAddr Try.underlying31 fsz37 rfl hA505 rfl hi506 hj507) ?_
    refine TV rfl rfl rfl (Val.loadsS (cs:=[VI y502.f0,VI y502.f1,VI y502.f2,VI y502.f3,VI y502.f4,.slice A511 y502.f5.length c512]) agg37 fsz37 rfl rfl (Cl.sub (off:=0) (n:=6) hcl508 rfl)) ?_
    refine TL.cons (TL.alloc (cs:=[VI 0,VI 0,VI 0,VI 0,VI 0,.slice none 0 0]) rfl rfl zr37 rfl (fun b515=>?_))
    refine TL.cons (TL.store 0 (ds:=[VI y502.f0,VI y502.f1,VI y502.f2,VI y502.f3,VI y502.f4,.slice A511 y502.f5.length c512]) (cs':=[VI y502.f0,VI y502.f1,VI y502.f2,VI y502.f3,VI y502.f4,.slice A511 y502.f5.length c512]) (L':=(Blk b515 [VI y502.f0,VI y502.f1,VI y502.f2,VI y502.f3,VI y502.f4,.slice A511 y502.f5.length c512] 37::Blk b10 [.slice none 0 0,VI 0,VI 0,VI 0,VI 0] 35::Blk b11 [.slice A231 l230.length c232,VI a0.f1.f0,VI a0.f1.f1,VI a0.f1.f2,VI a0.f1.f3] 35::Mq Try.prog 59 3 b12 x234::Row k37 37 (.slice A231 l230.length c232) l230::L)) rfl fsz37 rfl rfl rfl rfl rfl (Nat.le_of_ble_eq_true rfl) rfl rfl ?_)
    refine TL.nil ?_
    refine TQ.then_ ?_
    refine TC.seq ?_
    refine TC.region ?_
    refine TV rfl rfl rfl (Val.fieldAddrB Try.underlying37 rfl fsz25 rfl rfl rfl) ?_
    refine TV rfl rfl rfl (Val.loadB 0 agg25 rfl rfl rfl) ?_
    obtain ⟨y516,hy517,h⟩:=bind_no h
    refine TL.cons (TL.callV (Lin:=[]) (args:=[.slice A511 y502.f5.length c512]) rfl rfl rfl hbd22 rfl rfl (slices_Clone_int_int.calls (a0:=y502.f5) hr513 hl514 hy517) rfl ?_)
    rintro _ _ _ _ ⟨rfl,A518,c519,rfl,rfl⟩
    refine TV rfl rfl rfl (Val.fieldAddrB Try.underlying37 rfl fsz25 rfl rfl rfl) ?_
    refine TL.cons (TL.store 1 (ds:=[.slice A518 y516.length c519]) (cs':=[VI y502.f0,VI y502.f1,VI y502.f2,VI y502.f3,VI y502.f4,.slice A518 y516.length c519]) (L':=(Row kI 3 (.slice A518 y516.length c519) y516::Blk b515 [VI y502.f0,VI y502.f1,VI y502.f2,VI y502.f3,VI y502.f4,.slice A518 y516.length c519] 37::Blk b10 [.slice none 0 0,VI 0,VI 0,VI 0,VI 0] 35::Blk b11 [.slice A231 l230.length c232,VI a0.f1.f0,VI a0.f1.f1,VI a0.f1.f2,VI a0.f1.f3] 35::Mq Try.prog 59 3 b12 x234::Row k37 37 (.slice A231 l230.length c232) l230::L)) rfl fsz25 rfl rfl rfl rfl rfl (Nat.le_of_ble_eq_true rfl) rfl rfl ?_)
    refine TL.nil ?_
    refine TQ.then_ ?_
    refine TC.seq ?_
    refine TC.seq ?_
    refine TC.region ?_
    refine TV rfl rfl rfl (Val.move rfl) ?_
    refine TV rfl rfl rfl (Val.fieldAddrB Try.underlying37 rfl fsz3 rfl rfl rfl) ?_
    refine TV rfl rfl rfl (Val.loadB 1 agg3 rfl rfl rfl) ?_
    refine TV rfl rfl rfl (Val.fieldAddrB Try.underlying37 rfl fsz3 rfl rfl rfl) ?_
    refine TV rfl rfl rfl (Val.loadB 1 agg3 rfl rfl rfl) ?_
    refine TV rfl rfl rfl (Val.build (cs:=[VI y502.f2,VI y502.f4]) (is:=[0,1]) (xs:=[.tmp 29,.tmp 31]) Try.underlying59 zr59 bld59 rfl rfl rfl rfl) ?_
    obtain ⟨hz521,h⟩:=ite_no h
    refine TV rfl rfl rfl (Val.lookupOkQ (a:=(y502.f2,y502.f4)) 4 Try.underlying55 kq106 Try.underlying3 zr3 rfl rfl rfl hz521) ?_
    refine TV rfl rfl rfl (Val.move rfl) ?_
    refine TV rfl rfl rfl (Val.extract rfl rfl) ?_
    refine TV rfl rfl rfl (Val.extract rfl rfl) ?_
    refine TV rfl rfl rfl (Val.assign rfl) ?_
    refine TV rfl rfl rfl (Val.assign rfl) ?_
    refine TL.nil ?_
    refine TQ.then_ ?_
    refine TC.seq ?_
    obtain ⟨j526,hj526,h⟩:=jn_no h
    refine TC.tail (fun a W=>∃ (x525:Bool),j526 x525=some o343∧Fr 58 a [(1,.slice A5 a1.length c6),(4,VP b10 0),(5,VP b11 0),(6,.map (some b12)),(8,VP b515 0),(9,VI (qget x234 (y502.f2,y502.f4))),(16,.slice A1 a0.f0.length c2),(17,VI (a0.f0.length:Int)),(18,VI x229),(41,.bool x525)]∧Own G (Blk b10 [.slice none 0 0,VI 0,VI 0,VI 0,VI 0] 35::Blk b11 [.slice A231 l230.length c232,VI a0.f1.f0,VI a0.f1.f1,VI a0.f1.f2,VI a0.f1.f3] 35::Mq Try.prog 59 3 b12 x234::Blk b515 [VI y502.f0,VI y502.f1,VI y502.f2,VI y502.f3,VI y502.f4,.slice A518 y516.length c519] 37::Row k37 37 (.slice A231 l230.length c232) l230::Row kI 3 (.slice A518 y516.length c519) y516::L) W) ?_ ?_
    ·
     rintro a W ⟨x525,h,hF,hO⟩
     rw [hj526] at h
     refine TQ.use ?_ hF hO
     clear hF hO
     refine TQ.then_ ?_
     obtain ⟨j536,hj536,h⟩:=jn_no h
     refine TC.tail (fun a W=>∃ (x528:Int) (x529:Int) (x530:Int) (x531:Int) (l532:(List Int)) (A533:Option Addr) (c534:Nat),j536 x528 x529 x530 x531 l532=some o343∧Fr 58 a [(1,.slice A5 a1.length c6),(4,VP b10 0),(5,VP b11 0),(6,.map (some b12)),(8,VP b515 0),(16,.slice A1 a0.f0.length c2),(17,VI (a0.f0.length:Int)),(18,VI x229)]∧Own G (Blk b10 [.slice none 0 0,VI 0,VI 0,VI 0,VI 0] 35::Blk b11 [.slice A231 l230.length c232,VI a0.f1.f0,VI a0.f1.f1,VI a0.f1.f2,VI a0.f1.f3] 35::Mq Try.prog 59 3 b12 x234::Blk b515 [VI x528,VI y502.f1,VI x529,VI x530,VI x531,.slice A533 l532.length c534] 37::Row k37 37 (.slice A231 l230.length c232) l230::Row kI 3 (.slice A533 l532.length c534) l532::L) W) ?_ ?_
     ·
      rintro a W ⟨x528,x529,x530,x531,l532,A533,c534,h,hF,hO⟩
      rw [hj536] at h
      refine TQ.use ?_ hF hO
      clear hF hO
      refine TQ.then_ ?_
      refine TC.seq ?_
      refine TC.region ?_
      refine TV rfl rfl rfl (Val.move rfl) ?_
      refine TV rfl rfl rfl (Val.loadsB 3 (cs:=[VI x528,VI y502.f1,VI x529,VI x530,VI x531,.slice A533 l532.length c534]) agg37 fsz37 rfl rfl rfl rfl) ?_
      refine TV rfl rfl rfl (Val.move rfl) ?_
      refine TK.sel (Ls:=[Row kI 3 (.slice A533 l532.length c534) l532,Blk b10 [.slice none 0 0,VI 0,VI 0,VI 0,VI 0] 35,Blk b11 [.slice A231 l230.length c232,VI a0.f1.f0,VI a0.f1.f1,VI a0.f1.f2,VI a0.f1.f3] 35,Mq Try.prog 59 3 b12 x234,Blk b515 [VI x528,VI y502.f1,VI x529,VI x530,VI x531,.slice A533 l532.length c534] 37,Row k37 37 (.slice A231 l230.length c232) l230]) [5,0,1,2,3,4] 6 rfl rfl rfl ?_
      refine TK.share (fun G537 e538 hs539 hb540=>?_)
      have rd541:Rd G537 kI A533 l532:=Rd.row hs539
      have le542:l532.length ≤ c534:=Row.le hs539
      refine TK.sel (Ls:=[Mq Try.prog 59 3 b12 x234,Blk b10 [.slice none 0 0,VI 0,VI 0,VI 0,VI 0] 35,Blk b11 [.slice A231 l230.length c232,VI a0.f1.f0,VI a0.f1.f1,VI a0.f1.f2,VI a0.f1.f3] 35,Blk b515 [VI x528,VI y502.f1,VI x529,VI x530,VI x531,.slice A533 l532.length c534] 37,Row k37 37 (.slice A231 l230.length c232) l230]) [2,0,1,3,4] 5 rfl rfl rfl ?_
      obtain ⟨y543,hy544,h⟩:=bind_no h
      refine TL.cons (TL.callV (Lin:=[Mq Try.prog 59 3 b12 x234]) (args:=[.map (some b12),.agg #[VI x528,VI y502.f1,VI x529,VI x530,VI x531,.slice A533 l532.length c534],.slice A5 a1.length c6]) rfl rfl rfl hbd23 rfl rfl (forward_known_learn.calls (a0_0:=x234) (a1:=(⟨x528,y502.f1,x529,x530,x531,l532⟩:S37)) (a2:=a1) rd541 le542 (hr7.up e538) hl8 hy544) rfl ?_)
      rintro _ _ _ _ ⟨rfl,rfl,rfl⟩
      refine TL.nil ?_
      refine TQ.then_ ?_
      refine TC.region ?_
      refine TV rfl rfl rfl (Val.fieldAddrB Try.underlying35 rfl fsz31 rfl rfl rfl) ?_
      refine TV rfl rfl rfl (Val.loadB 2 agg31 rfl rfl rfl) ?_
      refine TV rfl rfl rfl (Val.loadsB 3 (cs:=[VI x528,VI y502.f1,VI x529,VI x530,VI x531,.slice A533 l532.length c534]) agg37 fsz37 rfl rfl rfl rfl) ?_
      refine TL.cons (TL.buildSlice (xs:=[.tmp 52]) (vs:=[.agg #[VI x528,VI y502.f1,VI x529,VI x530,VI x531,.slice A533 l532.length c534]]) (cs:=[VI x528,VI y502.f1,VI x529,VI x530,VI x531,.slice A533 l532.length c534]) rfl rfl Try.underlying31 zs37 rfl rfl rfl rfl rfl rfl rfl rfl (fun b545=>?_))
      refine TK.back hb540 ?_
      refine TK.conv (ch':=El k37 (⟨x528,y502.f1,x529,x530,x531,l532⟩:S37) [VI x528,VI y502.f1,VI x529,VI x530,VI x531,.slice A533 l532.length c534]) (fun B W F hh=>k37_mkM W B F (⟨x528,y502.f1,x529,x530,x531,l532⟩:S37) hh) ?_
      refine TK.sel (Ls:=[Row k37 37 (.slice A231 l230.length c232) l230,El k37 (⟨x528,y502.f1,x529,x530,x531,l532⟩:S37) [VI x528,VI y502.f1,VI x529,VI x530,VI x531,.slice A533 l532.length c534],Blk b545 [VI x528,VI y502.f1,VI x529,VI x530,VI x531,.slice A533 l532.length c534] 37,Mq Try.prog 59 3 b12 y543,Blk b10 [.slice none 0 0,VI 0,VI 0,VI 0,VI 0] 35,Blk b11 [.slice A231 l230.length c232,VI a0.f1.f0,VI a0.f1.f1,VI a0.f1.f2,VI a0.f1.f3] 35,Blk b515 [VI x528,VI y502.f1,VI x529,VI x530,VI x531,.slice A533 l532.length c534] 37]) [6,0,1,2,3,4,5] 7 rfl rfl rfl ?_
      obtain ⟨ha546,h⟩:=ite_no h
      refine TL.cons (TL.append (xs:=l230) k37 rfl rfl Try.underlying31 inf37 rfl (Nat.le_of_ble_eq_true rfl) (Nat.le_of_ble_eq_true rfl) rfl rfl (by omega) (fun A547 c548=>?_))
      refine TV rfl rfl rfl (Val.fieldAddrB Try.underlying35 rfl fsz31 rfl rfl rfl) ?_
      refine TL.cons (TL.store 3 (ds:=[.slice A547 (l230 ++ [(⟨x528,y502.f1,x529,x530,x531,l532⟩:S37)]).length c548]) (cs':=[.slice A547 (l230 ++ [(⟨x528,y502.f1,x529,x530,x531,l532⟩:S37)]).length c548,VI a0.f1.f0,VI a0.f1.f1,VI a0.f1.f2,VI a0.f1.f3]) (L':=(Row k37 37 (.slice A547 (l230 ++ [(⟨x528,y502.f1,x529,x530,x531,l532⟩:S37)]).length c548) (l230 ++ [(⟨x528,y502.f1,x529,x530,x531,l532⟩:S37)])::Mq Try.prog 59 3 b12 y543::Blk b10 [.slice none 0 0,VI 0,VI 0,VI 0,VI 0] 35::Blk b11 [.slice A547 (l230 ++ [(⟨x528,y502.f1,x529,x530,x531,l532⟩:S37)]).length c548,VI a0.f1.f0,VI a0.f1.f1,VI a0.f1.f2,VI a0.f1.f3] 35::Blk b515 [VI x528,VI y502.f1,VI x529,VI x530,VI x531,.slice A533 l532.length c534] 37::L)) rfl fsz31 rfl rfl rfl rfl rfl (Nat.le_of_ble_eq_true rfl) rfl rfl ?_)
      refine TL.nil ?_
      refine TQ.inB ?_
      refine TQ.then_ ?_
      refine TC.region ?_
      refine TV rfl rfl rfl (Val.cmp rfl rfl run_add) ?_
      refine TV rfl rfl rfl (Val.move rfl) ?_
      refine TL.nil ?_
      exact fun a W hF hO=>⟨IntKind.i64.wrap (x229 + 1),(l230 ++ [(⟨x528,y502.f1,x529,x530,x531,l532⟩:S37)]),y543,A547,c548,h,hF.sub ⟨rfl,rfl,rfl,rfl,rfl,rfl,rfl,trivial⟩,hO.selT (Ls:=[Blk b10 [.slice none 0 0,VI 0,VI 0,VI 0,VI 0] 35,Blk b11 [.slice A547 (l230 ++ [(⟨x528,y502.f1,x529,x530,x531,l532⟩:S37)]).length c548,VI a0.f1.f0,VI a0.f1.f1,VI a0.f1.f2,VI a0.f1.f3] 35,Mq Try.prog 59 3 b12 y543,Row k37 37 (.slice A547 (l230 ++ [(⟨x528,y502.f1,x529,x530,x531,l532⟩:S37)]).length c548) (l230 ++ [(⟨x528,y502.f1,x529,x530,x531,l532⟩:S37)])]) [2,3,1,0] 5 rfl rfl rfl⟩
     ·
      refine TC.cond_b rfl h (fun hc549 h=>?_) (fun hc549 h=>?_)
      ·
       refine TC.region ?_
       refine TV rfl rfl rfl (Val.fieldAddrB Try.underlying37 rfl fsz3 rfl rfl rfl) ?_
       refine TV rfl rfl rfl (Val.loadB 3 agg3 rfl rfl rfl) ?_
       refine TV rfl rfl rfl (Val.move rfl) ?_
       refine TV rfl rfl rfl (Val.build (cs:=[VI 3,VI y502.f1,VI (qget x234 (y502.f2,y502.f4)),VI 0,VI 0,.slice none 0 0]) (is:=[0,1,2]) (xs:=[.const (VI 3),.tmp 43,.tmp 44]) Try.underlying37 zr37 bld37 rfl rfl rfl rfl) ?_
       refine TL.cons (TL.store 3 (ds:=[VI 3,VI y502.f1,VI (qget x234 (y502.f2,y502.f4)),VI 0,VI 0,.slice none 0 0]) (cs':=[VI 3,VI y502.f1,VI (qget x234 (y502.f2,y502.f4)),VI 0,VI 0,.slice none 0 0]) (L':=(Blk b10 [.slice none 0 0,VI 0,VI 0,VI 0,VI 0] 35::Blk b11 [.slice A231 l230.length c232,VI a0.f1.f0,VI a0.f1.f1,VI a0.f1.f2,VI a0.f1.f3] 35::Mq Try.prog 59 3 b12 x234::Blk b515 [VI 3,VI y502.f1,VI (qget x234 (y502.f2,y502.f4)),VI 0,VI 0,.slice none 0 0] 37::Row k37 37 (.slice A231 l230.length c232) l230::Row kI 3 (.slice A518 y516.length c519) y516::L)) rfl fsz37 rfl rfl rfl rfl rfl (Nat.le_of_ble_eq_true rfl) rfl rfl ?_)
       refine TL.nil ?_
       exact fun a W hF hO=>⟨3,(qget x234 (y502.f2,y502.f4)),0,0,[],none,0,h,hF.sub ⟨rfl,rfl,rfl,rfl,rfl,rfl,rfl,rfl,trivial⟩,(Own.nilRow kI 3 hO).selT (Ls:=[Blk b10 [.slice none 0 0,VI 0,VI 0,VI 0,VI 0] 35,Blk b11 [.slice A231 l230.length c232,VI a0.f1.f0,VI a0.f1.f1,VI a0.f1.f2,VI a0.f1.f3] 35,Mq Try.prog 59 3 b12 x234,Blk b515 [VI 3,VI y502.f1,VI (qget x234 (y502.f2,y502.f4)),VI 0,VI 0,.slice none ([]:List Int).length 0] 37,Row k37 37 (.slice A231 l230.length c232) l230,Row kI 3 (.slice none ([]:List Int).length 0) ([]:List Int)]) [1,2,3,4,5,0] 7 rfl rfl rfl⟩
      ·
       refine TC.skip ?_
       exact fun a W hF hO=>⟨y502.f0,y502.f2,y502.f3,y502.f4,y516,A518,c519,h,hF.sub ⟨rfl,rfl,rfl,rfl,rfl,rfl,rfl,rfl,trivial⟩,hO.selT (Ls:=[Blk b10 [.slice none 0 0,VI 0,VI 0,VI 0,VI 0] 35,Blk b11 [.slice A231 l230.length c232,VI a0.f1.f0,VI a0.f1.f1,VI a0.f1.f2,VI a0.f1.f3] 35,Mq Try.prog 59 3 b12 x234,Blk b515 [VI y502.f0,VI y502.f1,VI y502.f2,VI y502.f3,VI y502.f4,.slice A518 y516.length c519] 37,Row k37 37 (.slice A231 l230.length c232) l230,Row kI 3 (.slice A518 y516.length c519) y516]) [0,1,2,3,4,5] 6 rfl rfl rfl⟩
    ·
     refine TC.region ?_
     refine TV rfl rfl rfl (Val.move rfl) ?_
     refine TV rfl rfl rfl (Val.move rfl) ?_
     refine TK.split (p:=(qhas x234 (y502.f2,y502.f4))=true) h (fun hg550 h=>?_) (fun hg550 h=>?_)
     ·
      have hk551:(qhas x234 (y502.f2,y502.f4))=true:=hg550
      refine TV (Wt.yes rfl rfl rfl hk551) rfl rfl (Val.fieldAddrB Try.underlying37 rfl fsz3 rfl rfl rfl) ?_
      refine TV (Wt.yes rfl rfl rfl hk551) rfl rfl (Val.loadB 1 agg3 rfl rfl rfl) ?_
      refine TV (Wt.yes rfl rfl rfl hk551) rfl rfl (Val.cmp rfl rfl run_eql) ?_
      refine TV rfl rfl rfl (Val.pickY rfl hk551 rfl) ?_
      refine TL.nil ?_
      exact fun a W hF hO=>⟨decide (y502.f0=4),h,hF.sub ⟨rfl,rfl,rfl,rfl,rfl,rfl,rfl,rfl,rfl,rfl,trivial⟩,hO.selT (Ls:=[Blk b10 [.slice none 0 0,VI 0,VI 0,VI 0,VI 0] 35,Blk b11 [.slice A231 l230.length c232,VI a0.f1.f0,VI a0.f1.f1,VI a0.f1.f2,VI a0.f1.f3] 35,Mq Try.prog 59 3 b12 x234,Blk b515 [VI y502.f0,VI y502.f1,VI y502.f2,VI y502.f3,VI y502.f4,.slice A518 y516.length c519] 37,Row k37 37 (.slice A231 l230.length c232) l230,Row kI 3 (.slice A518 y516.length c519) y516]) [2,3,4,1,5,0] 6 rfl rfl rfl⟩
     ·
      have hk552:(qhas x234 (y502.f2,y502.f4))=false:=(by simpa using hg550)
      refine TL.cons (TL.not (Wt.no rfl rfl rfl hk552) rfl ?_)
      refine TL.cons (TL.not (Wt.no rfl rfl rfl hk552) rfl ?_)
      refine TL.cons (TL.not (Wt.no rfl rfl rfl hk552) rfl ?_)
      refine TV rfl rfl rfl (Val.pickN rfl hk552 rfl) ?_
      refine TL.nil ?_
      exact fun a W hF hO=>⟨false,h,hF.sub ⟨rfl,rfl,rfl,rfl,rfl,rfl,rfl,rfl,rfl,rfl,trivial⟩,hO.selT (Ls:=[Blk b10 [.slice none 0 0,VI 0,VI 0,VI 0,VI 0] 35,Blk b11 [.slice A231 l230.length c232,VI a0.f1.f0,VI a0.f1.f1,VI a0.f1.f2,VI a0.f1.f3] 35,Mq Try.prog 59 3 b12 x234,Blk b515 [VI y502.f0,VI y502.f1,VI y502.f2,VI y502.f3,VI y502.f4,.slice A518 y516.length c519] 37,Row k37 37 (.slice A231 l230.length c232) l230,Row kI 3 (.slice A518 y516.length c519) y516]) [2,3,4,1,5,0] 6 rfl rfl rfl⟩
   ·
    refine TC.exit ?_
    refine TQ.thenX ?_
    refine TQ.thenX ?_
    refine TQ.inBX ?_
    exact fun a W hF hO=>⟨l230,A231,c232,Option.some.inj h,hF.sub ⟨rfl,rfl,trivial⟩,hO.selT (Ls:=[Blk b10 [.slice none 0 0,VI 0,VI 0,VI 0,VI 0] 35,Blk b11 [.slice A231 l230.length c232,VI a0.f1.f0,VI a0.f1.f1,VI a0.f1.f2,VI a0.f1.f3] 35,Row k37 37 (.slice A231 l230.length c232) l230]) [0,1,3] 4 rfl rfl rfl⟩
def swagelaw22_some.f:Option S35:=some (⟨([(⟨5,0,1,2,0,([]:List Int)⟩:S37),(⟨4,3,1,0,0,([]:List Int)⟩:S37),(⟨4,4,1,0,1,([]:List Int)⟩:S37),(⟨4,5,1,0,1,([]:List Int)⟩:S37)]:List S37),(⟨3,5,0,0⟩:S33)⟩:S35)
def swagelaw22_some.post (G:Gd)  (r:S35) (v:Value) (G':Gd) (Lr:List Ch):Prop:=G=G'∧∃ (A_1:Option Addr) (c_1:Nat),v=.agg #[.slice A_1 r.f0.length c_1,VI r.f1.f0,VI r.f1.f1,VI r.f1.f2,VI r.f1.f3]∧Lr=[Row k37 37 (.slice A_1 r.f0.length c_1) r.f0]
theorem swagelaw22_some.calls {G:Gd} {r:S35} (h:swagelaw22_some.f=some r):Fn Try.prog 11 G [] [] (swagelaw22_some.post G  r):=by
 refine Fn.intro (e:=[]) 8 Try.func11 rfl Try.ntmps11 rfl rfl (Nat.le_of_ble_eq_true rfl) (fun L=>?_)
 unfold swagelaw22_some.f at h
 refine TC.seq ?_
 refine TC.region ?_
 refine TL.cons (TL.alloc (cs:=[.slice none 0 0,VI 0,VI 0,VI 0,VI 0]) rfl rfl zr35 rfl (fun b1=>?_))
 refine TL.nil ?_
 refine TQ.then_ ?_
 refine TC.seq ?_
 refine TC.region ?_
 refine TV rfl rfl rfl (Val.build (cs:=[VI 5,VI 0,VI 1,VI 2,VI 0,.slice none 0 0]) (is:=[0,2,3]) (xs:=[.const (VI 5),.const (VI 1),.const (VI 2)]) Try.underlying37 zr37 bld37 rfl rfl rfl rfl) ?_
 refine TV rfl rfl rfl (Val.build (cs:=[VI 4,VI 3,VI 1,VI 0,VI 0,.slice none 0 0]) (is:=[0,1,2]) (xs:=[.const (VI 4),.const (VI 3),.const (VI 1)]) Try.underlying37 zr37 bld37 rfl rfl rfl rfl) ?_
 refine TV rfl rfl rfl (Val.build (cs:=[VI 4,VI 4,VI 1,VI 0,VI 1,.slice none 0 0]) (is:=[0,1,2,4]) (xs:=[.const (VI 4),.const (VI 4),.const (VI 1),.const (VI 1)]) Try.underlying37 zr37 bld37 rfl rfl rfl rfl) ?_
 refine TV rfl rfl rfl (Val.build (cs:=[VI 4,VI 5,VI 1,VI 0,VI 1,.slice none 0 0]) (is:=[0,1,2,4]) (xs:=[.const (VI 4),.const (VI 5),.const (VI 1),.const (VI 1)]) Try.underlying37 zr37 bld37 rfl rfl rfl rfl) ?_
 refine TL.cons (TL.buildSlice (xs:=[.tmp 1,.tmp 2,.tmp 3,.tmp 4]) (vs:=[.agg #[VI 5,VI 0,VI 1,VI 2,VI 0,.slice none 0 0],.agg #[VI 4,VI 3,VI 1,VI 0,VI 0,.slice none 0 0],.agg #[VI 4,VI 4,VI 1,VI 0,VI 1,.slice none 0 0],.agg #[VI 4,VI 5,VI 1,VI 0,VI 1,.slice none 0 0]]) (cs:=[VI 5,VI 0,VI 1,VI 2,VI 0,.slice none 0 0,VI 4,VI 3,VI 1,VI 0,VI 0,.slice none 0 0,VI 4,VI 4,VI 1,VI 0,VI 1,.slice none 0 0,VI 4,VI 5,VI 1,VI 0,VI 1,.slice none 0 0]) rfl rfl Try.underlying31 zs37 rfl rfl rfl rfl rfl rfl rfl rfl (fun b2=>?_))
 refine TV rfl rfl rfl (Val.build (cs:=[VI 3,VI 5,VI 0,VI 0]) (is:=[0,1]) (xs:=[.const (VI 3),.const (VI 5)]) Try.underlying33 zr33 bld33 rfl rfl rfl rfl) ?_
 refine TV rfl rfl rfl (Val.build (cs:=[.slice (some ⟨b2,0,none⟩) 4 4,VI 3,VI 5,VI 0,VI 0]) (is:=[0,1]) (xs:=[.tmp 5,.tmp 6]) Try.underlying35 zr35 bld35 rfl rfl rfl rfl) ?_
 refine TL.cons (TL.store 1 (ds:=[.slice (some ⟨b2,0,none⟩) 4 4,VI 3,VI 5,VI 0,VI 0]) (cs':=[.slice (some ⟨b2,0,none⟩) 4 4,VI 3,VI 5,VI 0,VI 0]) (L':=(Blk b2 [VI 5,VI 0,VI 1,VI 2,VI 0,.slice none 0 0,VI 4,VI 3,VI 1,VI 0,VI 0,.slice none 0 0,VI 4,VI 4,VI 1,VI 0,VI 1,.slice none 0 0,VI 4,VI 5,VI 1,VI 0,VI 1,.slice none 0 0] 37::Blk b1 [.slice (some ⟨b2,0,none⟩) 4 4,VI 3,VI 5,VI 0,VI 0] 35::L)) rfl fsz35 rfl rfl rfl rfl rfl (Nat.le_of_ble_eq_true rfl) rfl rfl ?_)
 refine TL.nil ?_
 refine TQ.then_ ?_
 refine TC.ret ?_
 refine TQ.new (Els.nil k37) ?_
 refine TQ.new (Row.nil kI 3) ?_
 refine TQ.conv (ch':=El k37 (⟨5,0,1,2,0,([]:List Int)⟩:S37) [VI 5,VI 0,VI 1,VI 2,VI 0,.slice none 0 0]) (fun B W F hh=>k37_mkM W B F (⟨5,0,1,2,0,([]:List Int)⟩:S37) hh) ?_
 refine TQ.sel (Ls:=[Els k37 [] [],El k37 (⟨5,0,1,2,0,([]:List Int)⟩:S37) [VI 5,VI 0,VI 1,VI 2,VI 0,.slice none 0 0],Blk b2 [VI 5,VI 0,VI 1,VI 2,VI 0,.slice none 0 0,VI 4,VI 3,VI 1,VI 0,VI 0,.slice none 0 0,VI 4,VI 4,VI 1,VI 0,VI 1,.slice none 0 0,VI 4,VI 5,VI 1,VI 0,VI 1,.slice none 0 0] 37,Blk b1 [.slice (some ⟨b2,0,none⟩) 4 4,VI 3,VI 5,VI 0,VI 0] 35]) [1,0,2,3] 4 rfl rfl rfl ?_
 refine TQ.two (ch:=Els k37 [(⟨5,0,1,2,0,([]:List Int)⟩:S37)] [VI 5,VI 0,VI 1,VI 2,VI 0,.slice none 0 0]) (Els.snoc k37) ?_
 refine TQ.new (Row.nil kI 3) ?_
 refine TQ.conv (ch':=El k37 (⟨4,3,1,0,0,([]:List Int)⟩:S37) [VI 4,VI 3,VI 1,VI 0,VI 0,.slice none 0 0]) (fun B W F hh=>k37_mkM W B F (⟨4,3,1,0,0,([]:List Int)⟩:S37) hh) ?_
 refine TQ.sel (Ls:=[Els k37 [(⟨5,0,1,2,0,([]:List Int)⟩:S37)] [VI 5,VI 0,VI 1,VI 2,VI 0,.slice none 0 0],El k37 (⟨4,3,1,0,0,([]:List Int)⟩:S37) [VI 4,VI 3,VI 1,VI 0,VI 0,.slice none 0 0],Blk b2 [VI 5,VI 0,VI 1,VI 2,VI 0,.slice none 0 0,VI 4,VI 3,VI 1,VI 0,VI 0,.slice none 0 0,VI 4,VI 4,VI 1,VI 0,VI 1,.slice none 0 0,VI 4,VI 5,VI 1,VI 0,VI 1,.slice none 0 0] 37,Blk b1 [.slice (some ⟨b2,0,none⟩) 4 4,VI 3,VI 5,VI 0,VI 0] 35]) [1,0,2,3] 4 rfl rfl rfl ?_
 refine TQ.two (ch:=Els k37 [(⟨5,0,1,2,0,([]:List Int)⟩:S37),(⟨4,3,1,0,0,([]:List Int)⟩:S37)] [VI 5,VI 0,VI 1,VI 2,VI 0,.slice none 0 0,VI 4,VI 3,VI 1,VI 0,VI 0,.slice none 0 0]) (Els.snoc k37) ?_
 refine TQ.new (Row.nil kI 3) ?_
 refine TQ.conv (ch':=El k37 (⟨4,4,1,0,1,([]:List Int)⟩:S37) [VI 4,VI 4,VI 1,VI 0,VI 1,.slice none 0 0]) (fun B W F hh=>k37_mkM W B F (⟨4,4,1,0,1,([]:List Int)⟩:S37) hh) ?_
 refine TQ.sel (Ls:=[Els k37 [(⟨5,0,1,2,0,([]:List Int)⟩:S37),(⟨4,3,1,0,0,([]:List Int)⟩:S37)] [VI 5,VI 0,VI 1,VI 2,VI 0,.slice none 0 0,VI 4,VI 3,VI 1,VI 0,VI 0,.slice none 0 0],El k37 (⟨4,4,1,0,1,([]:List Int)⟩:S37) [VI 4,VI 4,VI 1,VI 0,VI 1,.slice none 0 0],Blk b2 [VI 5,VI 0,VI 1,VI 2,VI 0,.slice none 0 0,VI 4,VI 3,VI 1,VI 0,VI 0,.slice none 0 0,VI 4,VI 4,VI 1,VI 0,VI 1,.slice none 0 0,VI 4,VI 5,VI 1,VI 0,VI 1,.slice none 0 0] 37,Blk b1 [.slice (some ⟨b2,0,none⟩) 4 4,VI 3,VI 5,VI 0,VI 0] 35]) [1,0,2,3] 4 rfl rfl rfl ?_
 refine TQ.two (ch:=Els k37 [(⟨5,0,1,2,0,([]:List Int)⟩:S37),(⟨4,3,1,0,0,([]:List Int)⟩:S37),(⟨4,4,1,0,1,([]:List Int)⟩:S37)] [VI 5,VI 0,VI 1,VI 2,VI 0,.slice none 0 0,VI 4,VI 3,VI 1,VI 0,VI 0,.slice none 0 0,VI 4,VI 4,VI 1,VI 0,VI 1,.slice none 0 0]) (Els.snoc k37) ?_
 refine TQ.new (Row.nil kI 3) ?_
 refine TQ.conv (ch':=El k37 (⟨4,5,1,0,1,([]:List Int)⟩:S37) [VI 4,VI 5,VI 1,VI 0,VI 1,.slice none 0 0]) (fun B W F hh=>k37_mkM W B F (⟨4,5,1,0,1,([]:List Int)⟩:S37) hh) ?_
 refine TQ.sel (Ls:=[Els k37 [(⟨5,0,1,2,0,([]:List Int)⟩:S37),(⟨4,3,1,0,0,([]:List Int)⟩:S37),(⟨4,4,1,0,1,([]:List Int)⟩:S37)] [VI 5,VI 0,VI 1,VI 2,VI 0,.slice none 0 0,VI 4,VI 3,VI 1,VI 0,VI 0,.slice none 0 0,VI 4,VI 4,VI 1,VI 0,VI 1,.slice none 0 0],El k37 (⟨4,5,1,0,1,([]:List Int)⟩:S37) [VI 4,VI 5,VI 1,VI 0,VI 1,.slice none 0 0],Blk b2 [VI 5,VI 0,VI 1,VI 2,VI 0,.slice none 0 0,VI 4,VI 3,VI 1,VI 0,VI 0,.slice none 0 0,VI 4,VI 4,VI 1,VI 0,VI 1,.slice none 0 0,VI 4,VI 5,VI 1,VI 0,VI 1,.slice none 0 0] 37,Blk b1 [.slice (some ⟨b2,0,none⟩) 4 4,VI 3,VI 5,VI 0,VI 0] 35]) [1,0,2,3] 4 rfl rfl rfl ?_
 refine TQ.two (ch:=Els k37 [(⟨5,0,1,2,0,([]:List Int)⟩:S37),(⟨4,3,1,0,0,([]:List Int)⟩:S37),(⟨4,4,1,0,1,([]:List Int)⟩:S37),(⟨4,5,1,0,1,([]:List Int)⟩:S37)] [VI 5,VI 0,VI 1,VI 2,VI 0,.slice none 0 0,VI 4,VI 3,VI 1,VI 0,VI 0,.slice none 0 0,VI 4,VI 4,VI 1,VI 0,VI 1,.slice none 0 0,VI 4,VI 5,VI 1,VI 0,VI 1,.slice none 0 0]) (Els.snoc k37) ?_
 refine TQ.sel (Ls:=[Blk b2 [VI 5,VI 0,VI 1,VI 2,VI 0,.slice none 0 0,VI 4,VI 3,VI 1,VI 0,VI 0,.slice none 0 0,VI 4,VI 4,VI 1,VI 0,VI 1,.slice none 0 0,VI 4,VI 5,VI 1,VI 0,VI 1,.slice none 0 0] 37,Els k37 [(⟨5,0,1,2,0,([]:List Int)⟩:S37),(⟨4,3,1,0,0,([]:List Int)⟩:S37),(⟨4,4,1,0,1,([]:List Int)⟩:S37),(⟨4,5,1,0,1,([]:List Int)⟩:S37)] [VI 5,VI 0,VI 1,VI 2,VI 0,.slice none 0 0,VI 4,VI 3,VI 1,VI 0,VI 0,.slice none 0 0,VI 4,VI 4,VI 1,VI 0,VI 1,.slice none 0 0,VI 4,VI 5,VI 1,VI 0,VI 1,.slice none 0 0],Blk b1 [.slice (some ⟨b2,0,none⟩) 4 4,VI 3,VI 5,VI 0,VI 0] 35]) [1,0,2] 3 rfl rfl rfl ?_
 refine TQ.two (ch:=Row k37 37 (.slice (some ⟨b2,0,none⟩) 4 4) ([(⟨5,0,1,2,0,([]:List Int)⟩:S37),(⟨4,3,1,0,0,([]:List Int)⟩:S37),(⟨4,4,1,0,1,([]:List Int)⟩:S37),(⟨4,5,1,0,1,([]:List Int)⟩:S37)]:List S37)) (Row.lit k37 rfl rfl) ?_
 obtain rfl:=Option.some.inj h
 exact TQ.fin (.inl rfl) rfl Try.results11 (.cells 1 rfl rfl agg35 fsz35 .nil) rfl (FRel.mk (Ls:=[Row k37 37 (.slice (some ⟨b2,0,none⟩) 4 4) ([(⟨5,0,1,2,0,([]:List Int)⟩:S37),(⟨4,3,1,0,0,([]:List Int)⟩:S37),(⟨4,4,1,0,1,([]:List Int)⟩:S37),(⟨4,5,1,0,1,([]:List Int)⟩:S37)]:List S37)]) [0] 2 (Gd.le.refl _) rfl rfl rfl ⟨rfl,(some ⟨b2,0,none⟩),4,rfl,rfl⟩)
def swageref02_Ints.l0 (a0:(List Int)) (a1:(List Int)):Nat → Int → Option (Sum Bool (Unit))
 | 0,_=>none
 | n248 + 1,x168=>(if x168 < (a0.length:Int) then (at? a0 x168).bind fun y385=>(at? a1 x168).bind fun y394=>(if (!decide (y385=y394))=true then some (.inl false) else swageref02_Ints.l0 a0 a1 n248 (IntKind.i64.wrap (x168 + 1))) else some (.inr ()))
def swageref02_Ints.f (a0:(List Int)) (a1:(List Int)):Option Bool:=(if (!decide ((a0.length:Int)=(a1.length:Int)))=true then some false else (swageref02_Ints.l0 a0 a1 (a0.length + 1) 0).bind fun | .inl q_=>some q_ | .inr _=>(some true))
def swageref02_Ints.post (G:Gd)  (r:Bool) (v:Value) (G':Gd) (Lr:List Ch):Prop:=G=G'∧v=.bool r∧Lr=[]
theorem swageref02_Ints.calls {G:Gd} {r:Bool} {a0:(List Int)} {a1:(List Int)} {A1:Option Addr} {c2:Nat} {A5:Option Addr} {c6:Nat} (hr3:Rd G kI A1 a0) (hl4:a0.length ≤ c2) (hr7:Rd G kI A5 a1) (hl8:a1.length ≤ c6) (h:swageref02_Ints.f a0 a1=some r):Fn Try.prog 21 G [] [.slice A1 a0.length c2,.slice A5 a1.length c6] (swageref02_Ints.post G  r):=by
 refine Fn.intro (e:=[(0,.slice A1 a0.length c2),(1,.slice A5 a1.length c6)]) 26 Try.func21 rfl Try.ntmps21 rfl rfl (Nat.le_of_ble_eq_true rfl) (fun L=>?_)
 unfold swageref02_Ints.f at h
 refine TC.seq ?_
 refine TC.region ?_
 refine TV rfl rfl rfl (Val.assign rfl) ?_
 refine TL.nil ?_
 refine TQ.then_ ?_
 refine TC.seq ?_
 refine TC.seq ?_
 refine TC.region ?_
 refine TV rfl rfl rfl (Val.move rfl) ?_
 refine TV rfl rfl rfl (Val.len Try.underlying25 rfl) ?_
 refine TV rfl rfl rfl (Val.move rfl) ?_
 refine TV rfl rfl rfl (Val.len Try.underlying25 rfl) ?_
 refine TV rfl rfl rfl (Val.cmp rfl rfl run_neq) ?_
 refine TL.nil ?_
 refine TQ.then_ ?_
 refine TC.cond_b rfl h (fun hc10 h=>?_) (fun hc10 h=>?_)
 ·
  refine TC.seq ?_
  refine TC.region ?_
  refine TV rfl rfl rfl (Val.assign rfl) ?_
  refine TL.nil ?_
  refine TQ.then_ ?_
  refine TC.ret ?_
  refine TQ.thenR ?_
  obtain rfl:=Option.some.inj h
  exact TQ.fin (.inl rfl) rfl Try.results21 (.tmp rfl .nil) rfl (FRel.mk (Ls:=[]) [] 0 (Gd.le.refl _) rfl rfl rfl ⟨rfl,rfl,rfl⟩)
 ·
  refine TC.skip ?_
  refine TQ.then_ ?_
  refine TC.seq ?_
  refine TC.seq ?_
  refine TC.region ?_
  refine TV rfl rfl rfl (Val.assign rfl) ?_
  refine TL.nil ?_
  refine TQ.then_ ?_
  obtain ⟨o247,ho247,ko247⟩:=bind_no h
  clear h
  refine TC.tail (fun a W=>(.inr ())=o247∧Fr 26 a []∧Own G (L) W) ?_ ?_
  ·
   rintro a W ⟨rfl,hF,hO⟩
   have h:=ko247
   clear ko247 ho247
   refine TQ.use ?_ hF hO
   clear hF hO
   refine TQ.then_ ?_
   refine TC.seq ?_
   refine TC.region ?_
   refine TV rfl rfl rfl (Val.assign rfl) ?_
   refine TL.nil ?_
   refine TQ.then_ ?_
   refine TC.ret ?_
   obtain rfl:=Option.some.inj h
   exact TQ.fin (.inl rfl) rfl Try.results21 (.tmp rfl .nil) rfl (FRel.mk (Ls:=[]) [] 0 (Gd.le.refl _) rfl rfl rfl ⟨rfl,rfl,rfl⟩)
  ·
   refine TC.block ?_
   intro a W hF hO
   have hS:∃ (x168:Int),swageref02_Ints.l0 a0 a1 (a0.length + 1) x168=some o247∧Fr 26 a [(0,.slice A1 a0.length c2),(1,.slice A5 a1.length c6),(5,VI x168)]∧Own G (L) W:=by
    exact ⟨0,ho247,hF.sub ⟨rfl,rfl,rfl,trivial⟩,hO.selT (Ls:=[]) [] 0 rfl rfl rfl⟩
   clear hF hO ho247
   refine TC.loop (fun n248 a W=>∃ (x168:Int),swageref02_Ints.l0 a0 a1 n248 x168=some o247∧Fr 26 a [(0,.slice A1 a0.length c2),(1,.slice A5 a1.length c6),(5,VI x168)]∧Own G (L) W) ?_ ?_ hS
   ·
    rintro a W ⟨x168,h,hF,hO⟩
    exact none_no h
   ·
    clear hS
    rintro n248 a W ⟨x168,h,hF,hO⟩
    rw [swageref02_Ints.l0] at h
    refine TC.use ?_ hF hO
    clear hF hO
    refine TC.seq ?_
    refine TC.seq ?_
    refine TC.region ?_
    refine TV rfl rfl rfl (Val.move rfl) ?_
    refine TV rfl rfl rfl (Val.move rfl) ?_
    refine TV rfl rfl rfl (Val.len Try.underlying25 rfl) ?_
    refine TV rfl rfl rfl (Val.cmp rfl rfl run_lss) ?_
    refine TL.nil ?_
    refine TQ.then_ ?_
    refine TC.cond_p rfl h (fun hc328 h=>?_) (fun hc328 h=>?_)
    ·
     refine TC.skip ?_
     refine TQ.then_ ?_
     refine TC.seq ?_
     refine TC.block ?_
     refine TC.seq ?_
     refine TC.regionAny [] [0,1,2,3,4,5,6,7,8] mixed (by kernel_rfl) ?_
     refine TA.take 0 rfl (by kernel_rfl) rfl (PQ.then_ (PQ.inB (PQ.then_ (PQ.then_ (PQ.inB (PQ.then_ (PQ.then_ PQ.body))))))) rfl (Val.move rfl) (fun W hO=>hO) ?_
     refine TA.take 1 rfl (by kernel_rfl) rfl (PQ.then_ (PQ.inB (PQ.then_ (PQ.then_ (PQ.inB (PQ.then_ (PQ.then_ PQ.body))))))) rfl (Val.move rfl) (fun W hO=>hO) ?_
     obtain ⟨y385,hx386,h⟩:=bind_no h
     obtain ⟨ad387,cs393,hA388,hi389,hj390,hcl391,hK392⟩:=Rd.at hr3 hx386
     obtain rfl:=RdK.int hK392
     refine TA.take 2 rfl (by kernel_rfl) rfl (PQ.then_ (PQ.inB (PQ.then_ (PQ.then_ (PQ.inB (PQ.then_ (PQ.then_ PQ.body))))))) rfl (Val.indexAddr Try.underlying25 fsz3 rfl hA388 rfl hi389 hj390) (fun W hO=>hO) ?_
     refine TA.take 3 rfl (by kernel_rfl) rfl (PQ.then_ (PQ.inB (PQ.then_ (PQ.then_ (PQ.inB (PQ.then_ (PQ.then_ PQ.body))))))) rfl (Val.loadS agg3 rfl (hcl391 0 _ rfl)) (fun W hO=>hO) ?_
     refine TA.take 4 rfl (by kernel_rfl) rfl (PQ.then_ (PQ.inB (PQ.then_ (PQ.then_ (PQ.inB (PQ.then_ (PQ.then_ PQ.body))))))) rfl (Val.move rfl) (fun W hO=>hO) ?_
     refine TA.take 5 rfl (by kernel_rfl) rfl (PQ.then_ (PQ.inB (PQ.then_ (PQ.then_ (PQ.inB (PQ.then_ (PQ.then_ PQ.body))))))) rfl (Val.move rfl) (fun W hO=>hO) ?_
     obtain ⟨y394,hx395,h⟩:=bind_no h
     obtain ⟨ad396,cs402,hA397,hi398,hj399,hcl400,hK401⟩:=Rd.at hr7 hx395
     obtain rfl:=RdK.int hK401
     refine TA.take 6 rfl (by kernel_rfl) rfl (PQ.then_ (PQ.inB (PQ.then_ (PQ.then_ (PQ.inB (PQ.then_ (PQ.then_ PQ.body))))))) rfl (Val.indexAddr Try.underlying25 fsz3 rfl hA397 rfl hi398 hj399) (fun W hO=>hO) ?_
     refine TA.take 7 rfl (by kernel_rfl) rfl (PQ.then_ (PQ.inB (PQ.then_ (PQ.then_ (PQ.inB (PQ.then_ (PQ.then_ PQ.body))))))) rfl (Val.loadS agg3 rfl (hcl400 0 _ rfl)) (fun W hO=>hO) ?_
     refine TA.take 8 rfl (by kernel_rfl) rfl (PQ.then_ (PQ.inB (PQ.then_ (PQ.then_ (PQ.inB (PQ.then_ (PQ.then_ PQ.body))))))) rfl (Val.cmp rfl rfl run_neq) (fun W hO=>hO) ?_
     refine TA.done (by kernel_rfl) ?_
     refine TQ.then_ ?_
     refine TC.cond_b rfl h (fun hc404 h=>?_) (fun hc404 h=>?_)
     ·
      refine TC.seq ?_
      refine TC.region ?_
      refine TV rfl rfl rfl (Val.assign rfl) ?_
      refine TL.nil ?_
      refine TQ.then_ ?_
      refine TC.ret ?_
      refine TQ.inBR ?_
      refine TQ.thenR ?_
      refine TQ.thenR ?_
      refine TQ.inBR ?_
      refine TQ.thenR ?_
      refine TQ.thenR ?_
      obtain rfl:=Option.some.inj h
      have h:=ko247
      obtain rfl:=Option.some.inj h
      exact TQ.fin (.inl rfl) rfl Try.results21 (.tmp rfl .nil) rfl (FRel.mk (Ls:=[]) [] 0 (Gd.le.refl _) rfl rfl rfl ⟨rfl,rfl,rfl⟩)
     ·
      refine TC.skip ?_
      refine TQ.inB ?_
      refine TQ.then_ ?_
      refine TC.region ?_
      refine TV rfl rfl rfl (Val.move rfl) ?_
      refine TV rfl rfl rfl (Val.cmp rfl rfl run_add) ?_
      refine TV rfl rfl rfl (Val.assign rfl) ?_
      refine TL.nil ?_
      exact fun a W hF hO=>⟨IntKind.i64.wrap (x168 + 1),h,hF.sub ⟨rfl,rfl,rfl,trivial⟩,hO.selT (Ls:=[]) [] 0 rfl rfl rfl⟩
    ·
     refine TC.exit ?_
     refine TQ.thenX ?_
     refine TQ.thenX ?_
     refine TQ.inBX ?_
     exact fun a W hF hO=>⟨Option.some.inj h,hF.sub trivial,hO.selT (Ls:=[]) [] 0 rfl rfl rfl⟩
def swageref14_SameOp.f (a0:S37) (a1:S37):Option Bool:=(swageref02_Ints.f a0.f5 a1.f5).bind fun (y11:Bool)=>(if y11=true then (if a0.f0=a1.f0 then (if a0.f1=a1.f1 then (if a0.f2=a1.f2 then (if a0.f3=a1.f3 then some (decide (a0.f4=a1.f4)) else some false) else some false) else some false) else some false) else some false)
def swageref14_SameOp.post (G:Gd)  (r:Bool) (v:Value) (G':Gd) (Lr:List Ch):Prop:=G=G'∧v=.bool r∧Lr=[]
theorem swageref14_SameOp.calls {G:Gd} {r:Bool} {a0:S37} {a1:S37} {A1:Option Addr} {c2:Nat} {A5:Option Addr} {c6:Nat} (hr3:Rd G kI A1 a0.f5) (hl4:a0.f5.length ≤ c2) (hr7:Rd G kI A5 a1.f5) (hl8:a1.f5.length ≤ c6) (h:swageref14_SameOp.f a0 a1=some r):Fn Try.prog 9 G [] [.agg #[VI a0.f0,VI a0.f1,VI a0.f2,VI a0.f3,VI a0.f4,.slice A1 a0.f5.length c2],.agg #[VI a1.f0,VI a1.f1,VI a1.f2,VI a1.f3,VI a1.f4,.slice A5 a1.f5.length c6]] (swageref14_SameOp.post G  r):=by
 refine Fn.intro (e:=[(0,.agg #[VI a0.f0,VI a0.f1,VI a0.f2,VI a0.f3,VI a0.f4,.slice A1 a0.f5.length c2]),(1,.agg #[VI a1.f0,VI a1.f1,VI a1.f2,VI a1.f3,VI a1.f4,.slice A5 a1.f5.length c6])]) 47 Try.func9 rfl Try.ntmps9 rfl rfl (Nat.le_of_ble_eq_true rfl) (fun L=>?_)
 unfold swageref14_SameOp.f at h
 refine TC.seq ?_
 refine TC.region ?_
 refine TL.cons (TL.box (cs:=[VI a0.f0,VI a0.f1,VI a0.f2,VI a0.f3,VI a0.f4,.slice A1 a0.f5.length c2]) rfl rfl rfl rfl (fun b9=>?_))
 refine TL.cons (TL.box (cs:=[VI a1.f0,VI a1.f1,VI a1.f2,VI a1.f3,VI a1.f4,.slice A5 a1.f5.length c6]) rfl rfl rfl rfl (fun b10=>?_))
 refine TV rfl rfl rfl (Val.assign rfl) ?_
 refine TL.nil ?_
 refine TQ.then_ ?_
 refine TC.seq ?_
 refine TC.region ?_
 refine TV rfl rfl rfl (Val.fieldAddrB Try.underlying37 rfl fsz25 rfl rfl rfl) ?_
 refine TV rfl rfl rfl (Val.loadB 1 agg25 rfl rfl rfl) ?_
 refine TV rfl rfl rfl (Val.fieldAddrB Try.underlying37 rfl fsz25 rfl rfl rfl) ?_
 refine TV rfl rfl rfl (Val.loadB 0 agg25 rfl rfl rfl) ?_
 obtain ⟨y11,hy12,h⟩:=bind_no h
 refine TL.cons (TL.callV (Lin:=[]) (args:=[.slice A1 a0.f5.length c2,.slice A5 a1.f5.length c6]) rfl rfl rfl hbd21 rfl rfl (swageref02_Ints.calls (a0:=a0.f5) (a1:=a1.f5) hr3 hl4 hr7 hl8 hy12) rfl ?_)
 rintro _ _ _ _ ⟨rfl,rfl,rfl⟩
 refine TV rfl rfl rfl (Val.assign rfl) ?_
 refine TL.nil ?_
 refine TQ.then_ ?_
 refine TC.seq ?_
 refine TC.region ?_
 refine TV rfl rfl rfl (Val.move rfl) ?_
 refine TV rfl rfl rfl (Val.move rfl) ?_
 refine TK.split (p:=y11=true) h (fun hg28 h=>?_) (fun hg28 h=>?_)
 ·
  have hk29:y11=true:=hg28
  refine TV (Wt.yes rfl rfl rfl hk29) rfl rfl (Val.fieldAddrB Try.underlying37 rfl fsz3 rfl rfl rfl) ?_
  refine TV (Wt.yes rfl rfl rfl hk29) rfl rfl (Val.loadB 1 agg3 rfl rfl rfl) ?_
  refine TV (Wt.yes rfl rfl rfl hk29) rfl rfl (Val.fieldAddrB Try.underlying37 rfl fsz3 rfl rfl rfl) ?_
  refine TV (Wt.yes rfl rfl rfl hk29) rfl rfl (Val.loadB 0 agg3 rfl rfl rfl) ?_
  refine TV (Wt.yes rfl rfl rfl hk29) rfl rfl (Val.cmp rfl rfl run_eql) ?_
  refine TV rfl rfl rfl (Val.pickY rfl hk29 rfl) ?_
  refine TV rfl rfl rfl (Val.move rfl) ?_
  refine TK.split (p:=a0.f0=a1.f0) h (fun hg30 h=>?_) (fun hg30 h=>?_)
  ·
   have hk31:decide (a0.f0=a1.f0)=true:=decide_eq_true hg30
   refine TV (Wt.yes rfl rfl rfl hk31) rfl rfl (Val.fieldAddrB Try.underlying37 rfl fsz3 rfl rfl rfl) ?_
   refine TV (Wt.yes rfl rfl rfl hk31) rfl rfl (Val.loadB 1 agg3 rfl rfl rfl) ?_
   refine TV (Wt.yes rfl rfl rfl hk31) rfl rfl (Val.fieldAddrB Try.underlying37 rfl fsz3 rfl rfl rfl) ?_
   refine TV (Wt.yes rfl rfl rfl hk31) rfl rfl (Val.loadB 0 agg3 rfl rfl rfl) ?_
   refine TV (Wt.yes rfl rfl rfl hk31) rfl rfl (Val.cmp rfl rfl run_eql) ?_
   refine TV rfl rfl rfl (Val.pickY rfl hk31 rfl) ?_
   refine TV rfl rfl rfl (Val.move rfl) ?_
   refine TK.split (p:=a0.f1=a1.f1) h (fun hg32 h=>?_) (fun hg32 h=>?_)
   ·
    have hk33:decide (a0.f1=a1.f1)=true:=decide_eq_true hg32
    refine TV (Wt.yes rfl rfl rfl hk33) rfl rfl (Val.fieldAddrB Try.underlying37 rfl fsz3 rfl rfl rfl) ?_
    refine TV (Wt.yes rfl rfl rfl hk33) rfl rfl (Val.loadB 1 agg3 rfl rfl rfl) ?_
    refine TV (Wt.yes rfl rfl rfl hk33) rfl rfl (Val.fieldAddrB Try.underlying37 rfl fsz3 rfl rfl rfl) ?_
    refine TV (Wt.yes rfl rfl rfl hk33) rfl rfl (Val.loadB 0 agg3 rfl rfl rfl) ?_
    refine TV (Wt.yes rfl rfl rfl hk33) rfl rfl (Val.cmp rfl rfl run_eql) ?_
    refine TV rfl rfl rfl (Val.pickY rfl hk33 rfl) ?_
    refine TV rfl rfl rfl (Val.move rfl) ?_
    refine TK.split (p:=a0.f2=a1.f2) h (fun hg34 h=>?_) (fun hg34 h=>?_)
    ·
     have hk35:decide (a0.f2=a1.f2)=true:=decide_eq_true hg34
     refine TV (Wt.yes rfl rfl rfl hk35) rfl rfl (Val.fieldAddrB Try.underlying37 rfl fsz3 rfl rfl rfl) ?_
     refine TV (Wt.yes rfl rfl rfl hk35) rfl rfl (Val.loadB 1 agg3 rfl rfl rfl) ?_
     refine TV (Wt.yes rfl rfl rfl hk35) rfl rfl (Val.fieldAddrB Try.underlying37 rfl fsz3 rfl rfl rfl) ?_
     refine TV (Wt.yes rfl rfl rfl hk35) rfl rfl (Val.loadB 0 agg3 rfl rfl rfl) ?_
     refine TV (Wt.yes rfl rfl rfl hk35) rfl rfl (Val.cmp rfl rfl run_eql) ?_
     refine TV rfl rfl rfl (Val.pickY rfl hk35 rfl) ?_
     refine TV rfl rfl rfl (Val.move rfl) ?_
     refine TK.split (p:=a0.f3=a1.f3) h (fun hg36 h=>?_) (fun hg36 h=>?_)
     ·
      have hk37:decide (a0.f3=a1.f3)=true:=decide_eq_true hg36
      refine TV (Wt.yes rfl rfl rfl hk37) rfl rfl (Val.fieldAddrB Try.underlying37 rfl fsz3 rfl rfl rfl) ?_
      refine TV (Wt.yes rfl rfl rfl hk37) rfl rfl (Val.loadB 1 agg3 rfl rfl rfl) ?_
      refine TV (Wt.yes rfl rfl rfl hk37) rfl rfl (Val.fieldAddrB Try.underlying37 rfl fsz3 rfl rfl rfl) ?_
      refine TV (Wt.yes rfl rfl rfl hk37) rfl rfl (Val.loadB 0 agg3 rfl rfl rfl) ?_
      refine TV (Wt.yes rfl rfl rfl hk37) rfl rfl (Val.cmp rfl rfl run_eql) ?_
      refine TV rfl rfl rfl (Val.pickY rfl hk37 rfl) ?_
      refine TV rfl rfl rfl (Val.assign rfl) ?_
      refine TL.nil ?_
      refine TQ.then_ ?_
      refine TC.ret ?_
      obtain rfl:=Option.some.inj h
      exact TQ.fin (.inl rfl) rfl Try.results9 (.tmp rfl .nil) rfl (FRel.mk (Ls:=[]) [] 2 (Gd.le.refl _) rfl rfl rfl ⟨rfl,rfl,rfl⟩)
     ·
      have hk38:decide (a0.f3=a1.f3)=false:=decide_eq_false hg36
      refine TL.cons (TL.not (Wt.no rfl rfl rfl hk38) rfl ?_)
      refine TL.cons (TL.not (Wt.no rfl rfl rfl hk38) rfl ?_)
      refine TL.cons (TL.not (Wt.no rfl rfl rfl hk38) rfl ?_)
      refine TL.cons (TL.not (Wt.no rfl rfl rfl hk38) rfl ?_)
      refine TL.cons (TL.not (Wt.no rfl rfl rfl hk38) rfl ?_)
      refine TV rfl rfl rfl (Val.pickN rfl hk38 rfl) ?_
      refine TV rfl rfl rfl (Val.assign rfl) ?_
      refine TL.nil ?_
      refine TQ.then_ ?_
      refine TC.ret ?_
      obtain rfl:=Option.some.inj h
      exact TQ.fin (.inl rfl) rfl Try.results9 (.tmp rfl .nil) rfl (FRel.mk (Ls:=[]) [] 2 (Gd.le.refl _) rfl rfl rfl ⟨rfl,rfl,rfl⟩)
    ·
     have hk39:decide (a0.f2=a1.f2)=false:=decide_eq_false hg34
     refine TL.cons (TL.not (Wt.no rfl rfl rfl hk39) rfl ?_)
     refine TL.cons (TL.not (Wt.no rfl rfl rfl hk39) rfl ?_)
     refine TL.cons (TL.not (Wt.no rfl rfl rfl hk39) rfl ?_)
     refine TL.cons (TL.not (Wt.no rfl rfl rfl hk39) rfl ?_)
     refine TL.cons (TL.not (Wt.no rfl rfl rfl hk39) rfl ?_)
     refine TV rfl rfl rfl (Val.pickN rfl hk39 rfl) ?_
     refine TV rfl rfl rfl (Val.move rfl) ?_
     refine TL.cons (TL.not (Wt.no rfl rfl rfl rfl) rfl ?_)
     refine TL.cons (TL.not (Wt.no rfl rfl rfl rfl) rfl ?_)
     refine TL.cons (TL.not (Wt.no rfl rfl rfl rfl) rfl ?_)
     refine TL.cons (TL.not (Wt.no rfl rfl rfl rfl) rfl ?_)
     refine TL.cons (TL.not (Wt.no rfl rfl rfl rfl) rfl ?_)
     refine TV rfl rfl rfl (Val.pickN rfl rfl rfl) ?_
     refine TV rfl rfl rfl (Val.assign rfl) ?_
     refine TL.nil ?_
     refine TQ.then_ ?_
     refine TC.ret ?_
     obtain rfl:=Option.some.inj h
     exact TQ.fin (.inl rfl) rfl Try.results9 (.tmp rfl .nil) rfl (FRel.mk (Ls:=[]) [] 2 (Gd.le.refl _) rfl rfl rfl ⟨rfl,rfl,rfl⟩)
   ·
    have hk40:decide (a0.f1=a1.f1)=false:=decide_eq_false hg32
    refine TL.cons (TL.not (Wt.no rfl rfl rfl hk40) rfl ?_)
    refine TL.cons (TL.not (Wt.no rfl rfl rfl hk40) rfl ?_)
    refine TL.cons (TL.not (Wt.no rfl rfl rfl hk40) rfl ?_)
    refine TL.cons (TL.not (Wt.no rfl rfl rfl hk40) rfl ?_)
    refine TL.cons (TL.not (Wt.no rfl rfl rfl hk40) rfl ?_)
    refine TV rfl rfl rfl (Val.pickN rfl hk40 rfl) ?_
    refine TV rfl rfl rfl (Val.move rfl) ?_
    refine TL.cons (TL.not (Wt.no rfl rfl rfl rfl) rfl ?_)
    refine TL.cons (TL.not (Wt.no rfl rfl rfl rfl) rfl ?_)
    refine TL.cons (TL.not (Wt.no rfl rfl rfl rfl) rfl ?_)
    refine TL.cons (TL.not (Wt.no rfl rfl rfl rfl) rfl ?_)
    refine TL.cons (TL.not (Wt.no rfl rfl rfl rfl) rfl ?_)
    refine TV rfl rfl rfl (Val.pickN rfl rfl rfl) ?_
    refine TV rfl rfl rfl (Val.move rfl) ?_
    refine TL.cons (TL.not (Wt.no rfl rfl rfl rfl) rfl ?_)
    refine TL.cons (TL.not (Wt.no rfl rfl rfl rfl) rfl ?_)
    refine TL.cons (TL.not (Wt.no rfl rfl rfl rfl) rfl ?_)
    refine TL.cons (TL.not (Wt.no rfl rfl rfl rfl) rfl ?_)
    refine TL.cons (TL.not (Wt.no rfl rfl rfl rfl) rfl ?_)
    refine TV rfl rfl rfl (Val.pickN rfl rfl rfl) ?_
    refine TV rfl rfl rfl (Val.assign rfl) ?_
    refine TL.nil ?_
    refine TQ.then_ ?_
    refine TC.ret ?_
    obtain rfl:=Option.some.inj h
    exact TQ.fin (.inl rfl) rfl Try.results9 (.tmp rfl .nil) rfl (FRel.mk (Ls:=[]) [] 2 (Gd.le.refl _) rfl rfl rfl ⟨rfl,rfl,rfl⟩)
  ·
   have hk41:decide (a0.f0=a1.f0)=false:=decide_eq_false hg30
   refine TL.cons (TL.not (Wt.no rfl rfl rfl hk41) rfl ?_)
   refine TL.cons (TL.not (Wt.no rfl rfl rfl hk41) rfl ?_)
   refine TL.cons (TL.not (Wt.no rfl rfl rfl hk41) rfl ?_)
   refine TL.cons (TL.not (Wt.no rfl rfl rfl hk41) rfl ?_)
   refine TL.cons (TL.not (Wt.no rfl rfl rfl hk41) rfl ?_)
   refine TV rfl rfl rfl (Val.pickN rfl hk41 rfl) ?_
   refine TV rfl rfl rfl (Val.move rfl) ?_
   refine TL.cons (TL.not (Wt.no rfl rfl rfl rfl) rfl ?_)
   refine TL.cons (TL.not (Wt.no rfl rfl rfl rfl) rfl ?_)
   refine TL.cons (TL.not (Wt.no rfl rfl rfl rfl) rfl ?_)
   refine TL.cons (TL.not (Wt.no rfl rfl rfl rfl) rfl ?_)
   refine TL.cons (TL.not (Wt.no rfl rfl rfl rfl) rfl ?_)
   refine TV rfl rfl rfl (Val.pickN rfl rfl rfl) ?_
   refine TV rfl rfl rfl (Val.move rfl) ?_
   refine TL.cons (TL.not (Wt.no rfl rfl rfl rfl) rfl ?_)
   refine TL.cons (TL.not (Wt.no rfl rfl rfl rfl) rfl ?_)
   refine TL.cons (TL.not (Wt.no rfl rfl rfl rfl) rfl ?_)
   refine TL.cons (TL.not (Wt.no rfl rfl rfl rfl) rfl ?_)
   refine TL.cons (TL.not (Wt.no rfl rfl rfl rfl) rfl ?_)
   refine TV rfl rfl rfl (Val.pickN rfl rfl rfl) ?_
   refine TV rfl rfl rfl (Val.move rfl) ?_
   refine TL.cons (TL.not (Wt.no rfl rfl rfl rfl) rfl ?_)
   refine TL.cons (TL.not (Wt.no rfl rfl rfl rfl) rfl ?_)
   refine TL.cons (TL.not (Wt.no rfl rfl rfl rfl) rfl ?_)
   refine TL.cons (TL.not (Wt.no rfl rfl rfl rfl) rfl ?_)
   refine TL.cons (TL.not (Wt.no rfl rfl rfl rfl) rfl ?_)
   refine TV rfl rfl rfl (Val.pickN rfl rfl rfl) ?_
   refine TV rfl rfl rfl (Val.assign rfl) ?_
   refine TL.nil ?_
   refine TQ.then_ ?_
   refine TC.ret ?_
   obtain rfl:=Option.some.inj h
   exact TQ.fin (.inl rfl) rfl Try.results9 (.tmp rfl .nil) rfl (FRel.mk (Ls:=[]) [] 2 (Gd.le.refl _) rfl rfl rfl ⟨rfl,rfl,rfl⟩)
 ·
  have hk42:y11=false:=(by simpa using hg28)
  refine TL.cons (TL.not (Wt.no rfl rfl rfl hk42) rfl ?_)
  refine TL.cons (TL.not (Wt.no rfl rfl rfl hk42) rfl ?_)
  refine TL.cons (TL.not (Wt.no rfl rfl rfl hk42) rfl ?_)
  refine TL.cons (TL.not (Wt.no rfl rfl rfl hk42) rfl ?_)
  refine TL.cons (TL.not (Wt.no rfl rfl rfl hk42) rfl ?_)
  refine TV rfl rfl rfl (Val.pickN rfl hk42 rfl) ?_
  refine TV rfl rfl rfl (Val.move rfl) ?_
  refine TL.cons (TL.not (Wt.no rfl rfl rfl rfl) rfl ?_)
  refine TL.cons (TL.not (Wt.no rfl rfl rfl rfl) rfl ?_)
  refine TL.cons (TL.not (Wt.no rfl rfl rfl rfl) rfl ?_)
  refine TL.cons (TL.not (Wt.no rfl rfl rfl rfl) rfl ?_)
  refine TL.cons (TL.not (Wt.no rfl rfl rfl rfl) rfl ?_)
  refine TV rfl rfl rfl (Val.pickN rfl rfl rfl) ?_
  refine TV rfl rfl rfl (Val.move rfl) ?_
  refine TL.cons (TL.not (Wt.no rfl rfl rfl rfl) rfl ?_)
  refine TL.cons (TL.not (Wt.no rfl rfl rfl rfl) rfl ?_)
  refine TL.cons (TL.not (Wt.no rfl rfl rfl rfl) rfl ?_)
  refine TL.cons (TL.not (Wt.no rfl rfl rfl rfl) rfl ?_)
  refine TL.cons (TL.not (Wt.no rfl rfl rfl rfl) rfl ?_)
  refine TV rfl rfl rfl (Val.pickN rfl rfl rfl) ?_
  refine TV rfl rfl rfl (Val.move rfl) ?_
  refine TL.cons (TL.not (Wt.no rfl rfl rfl rfl) rfl ?_)
  refine TL.cons (TL.not (Wt.no rfl rfl rfl rfl) rfl ?_)
  refine TL.cons (TL.not (Wt.no rfl rfl rfl rfl) rfl ?_)
  refine TL.cons (TL.not (Wt.no rfl rfl rfl rfl) rfl ?_)
  refine TL.cons (TL.not (Wt.no rfl rfl rfl rfl) rfl ?_)
  refine TV rfl rfl rfl (Val.pickN rfl rfl rfl) ?_
  refine TV rfl rfl rfl (Val.move rfl) ?_
  refine TL.cons (TL.not (Wt.no rfl rfl rfl rfl) rfl ?_)
  refine TL.cons (TL.not (Wt.no rfl rfl rfl rfl) rfl ?_)
  refine TL.cons (TL.not (Wt.no rfl rfl rfl rfl) rfl ?_)
  refine TL.cons (TL.not (Wt.no rfl rfl rfl rfl) rfl ?_)
  refine TL.cons (TL.not (Wt.no rfl rfl rfl rfl) rfl ?_)
  refine TV rfl rfl rfl (Val.pickN rfl rfl rfl) ?_
  refine TV rfl rfl rfl (Val.assign rfl) ?_
  refine TL.nil ?_
  refine TQ.then_ ?_
  refine TC.ret ?_
  obtain rfl:=Option.some.inj h
  exact TQ.fin (.inl rfl) rfl Try.results9 (.tmp rfl .nil) rfl (FRel.mk (Ls:=[]) [] 2 (Gd.le.refl _) rfl rfl rfl ⟨rfl,rfl,rfl⟩)
def swageref14_Same.l1 (a0:S24) (a1:S24) (x2185:Int):Nat → Int → Option (Sum (Sum Bool (Unit)) (Unit))
 | 0,_=>none
 | n5638 + 1,x5453=>(at? a0.f1 x2185).bind fun y5822=>(if x5453 < (y5822.f0.length:Int) then (at? y5822.f0 x5453).bind fun y5962=>(at? a1.f1 x2185).bind fun y5975=>(at? y5975.f0 x5453).bind fun y5988=>(swageref14_SameOp.f y5962 y5988).bind fun (y6001:Bool)=>(if (!y6001)=true then some (.inl (.inl false)) else swageref14_Same.l1 a0 a1 x2185 n5638 (IntKind.i64.wrap (x5453 + 1))) else some (.inr ()))
def swageref14_Same.l0 (a0:S24) (a1:S24):Nat → Int → Option (Sum Bool (Unit))
 | 0,_=>none
 | n3270 + 1,x2185=>(if x2185 < (a0.f1.length:Int) then jn (γ:=(Sum Bool (Unit))) (fun (x5082:Bool)=>(if x5082=true then some (.inl false) else (swageref14_Same.l1 a0 a1 x2185 ((at? a0.f1 x2185).elim 0 (fun vy5639=>vy5639.f0.length) + 1) 0).bind fun | .inl q_=>some q_ | .inr _=>(swageref14_Same.l0 a0 a1 n3270 (IntKind.i64.wrap (x2185 + 1))))) (fun (j5083:(Bool → Option (Sum Bool (Unit))))=>(at? a0.f1 x2185).bind fun y6034=>(at? a1.f1 x2185).bind fun y6047=>(if (!((y6034.f1.f0 == y6047.f1.f0) && ((y6034.f1.f1 == y6047.f1.f1) && ((y6034.f1.f2 == y6047.f1.f2) && (y6034.f1.f3 == y6047.f1.f3)))))=true then j5083 true else j5083 (!decide ((y6034.f0.length:Int)=(y6047.f0.length:Int))))) else some (.inr ()))
def swageref14_Same.f (a0:S24) (a1:S24):Option Bool:=jn (γ:=Bool) (fun (x14:Bool)=>(if x14=true then some false else (swageref14_Same.l0 a0 a1 (a0.f1.length + 1) 0).bind fun | .inl q_=>some q_ | .inr _=>(some true))) (fun (j15:(Bool → Option Bool))=>(if (!decide (a0.f0=a1.f0))=true then j15 true else j15 (!decide ((a0.f1.length:Int)=(a1.f1.length:Int)))))
def swageref14_Same.post (G:Gd)  (r:Bool) (v:Value) (G':Gd) (Lr:List Ch):Prop:=G=G'∧v=.bool r∧Lr=[]
theorem swageref14_Same.calls {G:Gd} {r:Bool} {a0:S24} {a1:S24} {A1:Option Addr} {c2:Nat} {A5:Option Addr} {c6:Nat} (hr3:Rd G k35 A1 a0.f1) (hl4:a0.f1.length ≤ c2) (hr7:Rd G k35 A5 a1.f1) (hl8:a1.f1.length ≤ c6) (h:swageref14_Same.f a0 a1=some r):Fn Try.prog 12 G [] [.agg #[VI a0.f0,.slice A1 a0.f1.length c2],.agg #[VI a1.f0,.slice A5 a1.f1.length c6]] (swageref14_Same.post G  r):=by
 refine Fn.intro (e:=[(0,.agg #[VI a0.f0,.slice A1 a0.f1.length c2]),(1,.agg #[VI a1.f0,.slice A5 a1.f1.length c6])]) 91 Try.func12 rfl Try.ntmps12 rfl rfl (Nat.le_of_ble_eq_true rfl) (fun L=>?_)
 unfold swageref14_Same.f at h
 refine TC.seq ?_
 refine TC.region ?_
 refine TL.cons (TL.box (cs:=[VI a0.f0,.slice A1 a0.f1.length c2]) rfl rfl rfl rfl (fun b9=>?_))
 refine TL.cons (TL.box (cs:=[VI a1.f0,.slice A5 a1.f1.length c6]) rfl rfl rfl rfl (fun b10=>?_))
 refine TV rfl rfl rfl (Val.assign rfl) ?_
 refine TL.nil ?_
 refine TQ.then_ ?_
 refine TC.seq ?_
 refine TC.seq ?_
 obtain ⟨j15,hj15,h⟩:=jn_no h
 refine TC.tail (fun a W=>∃ (x14:Bool),j15 x14=some r∧Fr 91 a [(2,VP b9 0),(3,VP b10 0),(21,.bool x14)]∧Own G (Blk b10 [VI a1.f0,.slice A5 a1.f1.length c6] 24::Blk b9 [VI a0.f0,.slice A1 a0.f1.length c2] 24::L) W) ?_ ?_
 ·
  rintro a W ⟨x14,h,hF,hO⟩
  rw [hj15] at h
  refine TQ.use ?_ hF hO
  clear hF hO
  refine TQ.then_ ?_
  refine TC.cond_b rfl h (fun hc17 h=>?_) (fun hc17 h=>?_)
  ·
   refine TC.seq ?_
   refine TC.region ?_
   refine TV rfl rfl rfl (Val.assign rfl) ?_
   refine TL.nil ?_
   refine TQ.then_ ?_
   refine TC.ret ?_
   refine TQ.thenR ?_
   obtain rfl:=Option.some.inj h
   exact TQ.fin (.inl rfl) rfl Try.results12 (.tmp rfl .nil) rfl (FRel.mk (Ls:=[]) [] 2 (Gd.le.refl _) rfl rfl rfl ⟨rfl,rfl,rfl⟩)
  ·
   refine TC.skip ?_
   refine TQ.then_ ?_
   refine TC.seq ?_
   refine TC.seq ?_
   refine TC.region ?_
   refine TV rfl rfl rfl (Val.assign rfl) ?_
   refine TL.nil ?_
   refine TQ.then_ ?_
   obtain ⟨o3269,ho3269,ko3269⟩:=bind_no h
   clear h
   refine TC.tail (fun a W=>(.inr ())=o3269∧Fr 91 a []∧Own G (L) W) ?_ ?_
   ·
    rintro a W ⟨rfl,hF,hO⟩
    have h:=ko3269
    clear ko3269 ho3269
    refine TQ.use ?_ hF hO
    clear hF hO
    refine TQ.then_ ?_
    refine TC.seq ?_
    refine TC.region ?_
    refine TV rfl rfl rfl (Val.assign rfl) ?_
    refine TL.nil ?_
    refine TQ.then_ ?_
    refine TC.ret ?_
    obtain rfl:=Option.some.inj h
    exact TQ.fin (.inl rfl) rfl Try.results12 (.tmp rfl .nil) rfl (FRel.mk (Ls:=[]) [] 0 (Gd.le.refl _) rfl rfl rfl ⟨rfl,rfl,rfl⟩)
   ·
    refine TC.block ?_
    intro a W hF hO
    have hS:∃ (x2185:Int),swageref14_Same.l0 a0 a1 (a0.f1.length + 1) x2185=some o3269∧Fr 91 a [(2,VP b9 0),(3,VP b10 0),(5,VI x2185)]∧Own G (Blk b10 [VI a1.f0,.slice A5 a1.f1.length c6] 24::Blk b9 [VI a0.f0,.slice A1 a0.f1.length c2] 24::L) W:=by
     exact ⟨0,ho3269,hF.sub ⟨rfl,rfl,rfl,trivial⟩,hO.selT (Ls:=[Blk b10 [VI a1.f0,.slice A5 a1.f1.length c6] 24,Blk b9 [VI a0.f0,.slice A1 a0.f1.length c2] 24]) [0,1] 2 rfl rfl rfl⟩
    clear hF hO ho3269
    refine TC.loop (fun n3270 a W=>∃ (x2185:Int),swageref14_Same.l0 a0 a1 n3270 x2185=some o3269∧Fr 91 a [(2,VP b9 0),(3,VP b10 0),(5,VI x2185)]∧Own G (Blk b10 [VI a1.f0,.slice A5 a1.f1.length c6] 24::Blk b9 [VI a0.f0,.slice A1 a0.f1.length c2] 24::L) W) ?_ ?_ hS
    ·
     rintro a W ⟨x2185,h,hF,hO⟩
     exact none_no h
    ·
     clear hS
     rintro n3270 a W ⟨x2185,h,hF,hO⟩
     rw [swageref14_Same.l0] at h
     refine TC.use ?_ hF hO
     clear hF hO
     refine TC.seq ?_
     refine TC.seq ?_
     refine TC.region ?_
     refine TV rfl rfl rfl (Val.move rfl) ?_
     refine TV rfl rfl rfl (Val.fieldAddrB Try.underlying24 rfl fsz22 rfl rfl rfl) ?_
     refine TV rfl rfl rfl (Val.loadB 1 agg22 rfl rfl rfl) ?_
     refine TV rfl rfl rfl (Val.len Try.underlying22 rfl) ?_
     refine TV rfl rfl rfl (Val.cmp rfl rfl run_lss) ?_
     refine TL.nil ?_
     refine TQ.then_ ?_
     refine TC.cond_p rfl h (fun hc4355 h=>?_) (fun hc4355 h=>?_)
     ·
      refine TC.skip ?_
      refine TQ.then_ ?_
      refine TC.seq ?_
      refine TC.block ?_
      refine TC.seq ?_
      refine TC.seq ?_
      obtain ⟨j5083,hj5083,h⟩:=jn_no h
      refine TC.tail (fun a W=>∃ (x5082:Bool),j5083 x5082=some o3269∧Fr 91 a [(2,VP b9 0),(3,VP b10 0),(5,VI x2185),(58,.bool x5082)]∧Own G (Blk b10 [VI a1.f0,.slice A5 a1.f1.length c6] 24::Blk b9 [VI a0.f0,.slice A1 a0.f1.length c2] 24::L) W) ?_ ?_
      ·
       rintro a W ⟨x5082,h,hF,hO⟩
       rw [hj5083] at h
       refine TQ.use ?_ hF hO
       clear hF hO
       refine TQ.then_ ?_
       refine TC.cond_b rfl h (fun hc5085 h=>?_) (fun hc5085 h=>?_)
       ·
        refine TC.seq ?_
        refine TC.region ?_
        refine TV rfl rfl rfl (Val.assign rfl) ?_
        refine TL.nil ?_
        refine TQ.then_ ?_
        refine TC.ret ?_
        refine TQ.thenR ?_
        refine TQ.inBR ?_
        refine TQ.thenR ?_
        refine TQ.thenR ?_
        refine TQ.inBR ?_
        refine TQ.thenR ?_
        refine TQ.thenR ?_
        obtain rfl:=Option.some.inj h
        have h:=ko3269
        obtain rfl:=Option.some.inj h
        exact TQ.fin (.inl rfl) rfl Try.results12 (.tmp rfl .nil) rfl (FRel.mk (Ls:=[]) [] 2 (Gd.le.refl _) rfl rfl rfl ⟨rfl,rfl,rfl⟩)
       ·
        refine TC.skip ?_
        refine TQ.then_ ?_
        refine TC.seq ?_
        refine TC.region ?_
        refine TV rfl rfl rfl (Val.assign rfl) ?_
        refine TL.nil ?_
        refine TQ.then_ ?_
        obtain ⟨o5637,ho5637,ko5637⟩:=bind_no h
        clear h
        refine TC.tail (fun a W=>(.inr ())=o5637∧Fr 91 a [(2,VP b9 0),(3,VP b10 0),(5,VI x2185)]∧Own G (Blk b10 [VI a1.f0,.slice A5 a1.f1.length c6] 24::Blk b9 [VI a0.f0,.slice A1 a0.f1.length c2] 24::L) W) ?_ ?_
        ·
         rintro a W ⟨rfl,hF,hO⟩
         have h:=ko5637
         clear ko5637 ho5637
         refine TQ.use ?_ hF hO
         clear hF hO
         refine TQ.inB ?_
         refine TQ.then_ ?_
         refine TC.region ?_
         refine TV rfl rfl rfl (Val.move rfl) ?_
         refine TV rfl rfl rfl (Val.cmp rfl rfl run_add) ?_
         refine TV rfl rfl rfl (Val.assign rfl) ?_
         refine TL.nil ?_
         exact fun a W hF hO=>⟨IntKind.i64.wrap (x2185 + 1),h,hF.sub ⟨rfl,rfl,rfl,trivial⟩,hO.selT (Ls:=[Blk b10 [VI a1.f0,.slice A5 a1.f1.length c6] 24,Blk b9 [VI a0.f0,.slice A1 a0.f1.length c2] 24]) [0,1] 2 rfl rfl rfl⟩
        ·
         refine TC.block ?_
         intro a W hF hO
         have hS:∃ (x5453:Int),swageref14_Same.l1 a0 a1 x2185 ((at? a0.f1 x2185).elim 0 (fun vy5639=>vy5639.f0.length) + 1) x5453=some o5637∧Fr 91 a [(2,VP b9 0),(3,VP b10 0),(5,VI x2185),(6,VI x5453)]∧Own G (Blk b10 [VI a1.f0,.slice A5 a1.f1.length c6] 24::Blk b9 [VI a0.f0,.slice A1 a0.f1.length c2] 24::L) W:=by
          exact ⟨0,ho5637,hF.sub ⟨rfl,rfl,rfl,rfl,trivial⟩,hO.selT (Ls:=[Blk b10 [VI a1.f0,.slice A5 a1.f1.length c6] 24,Blk b9 [VI a0.f0,.slice A1 a0.f1.length c2] 24]) [0,1] 2 rfl rfl rfl⟩
         clear hF hO ho5637
         refine TC.loop (fun n5638 a W=>∃ (x5453:Int),swageref14_Same.l1 a0 a1 x2185 n5638 x5453=some o5637∧Fr 91 a [(2,VP b9 0),(3,VP b10 0),(5,VI x2185),(6,VI x5453)]∧Own G (Blk b10 [VI a1.f0,.slice A5 a1.f1.length c6] 24::Blk b9 [VI a0.f0,.slice A1 a0.f1.length c2] 24::L) W) ?_ ?_ hS
         ·
          rintro a W ⟨x5453,h,hF,hO⟩
          exact none_no h
         ·
          clear hS
          rintro n5638 a W ⟨x5453,h,hF,hO⟩
          rw [swageref14_Same.l1] at h
          refine TC.use ?_ hF hO
          clear hF hO
          refine TC.seq ?_
          refine TC.seq ?_
          refine TC.region ?_
          refine TV rfl rfl rfl (Val.move rfl) ?_
          refine TV rfl rfl rfl (Val.fieldAddrB Try.underlying24 rfl fsz22 rfl rfl rfl) ?_
          refine TV rfl rfl rfl (Val.loadB 1 agg22 rfl rfl rfl) ?_
          refine TV rfl rfl rfl (Val.move rfl) ?_
          obtain ⟨y5822,hx5823,h⟩:=bind_no h
          obtain ⟨ad5824,cs5830,hA5825,hi5826,hj5827,hcl5828,hK5829⟩:=Rd.at hr3 hx5823
          obtain ⟨A5831,c5832,rfl,hr5833,hl5834⟩:=k35_openR hK5829
          refine TV rfl rfl rfl (Val.indexAddr Try.underlying22 fsz35 rfl hA5825 rfl hi5826 hj5827) ?_
          refine TV rfl rfl rfl (Val.fieldAddrE Try.underlying35 rfl fsz31 rfl rfl) ?_
          refine TV rfl rfl rfl (Val.loadS agg31 rfl (hcl5828 0 _ rfl)) ?_
          refine TV rfl rfl rfl (Val.len Try.underlying31 rfl) ?_
          refine TV rfl rfl rfl (Val.cmp rfl rfl run_lss) ?_
          refine TL.nil ?_
          refine TQ.then_ ?_
          refine TC.cond_p rfl h (fun hc5836 h=>?_) (fun hc5836 h=>?_)
          ·
           refine TC.skip ?_
           refine TQ.then_ ?_
           refine TC.seq ?_
           refine TC.block ?_
           refine TC.seq ?_
           refine TC.regionAny [] [0,1,2,3,4,5,6,7,8,9,10,11,12,13,14,15,16,17,19] mixed (by kernel_rfl) ?_
           refine TA.take 0 rfl (by kernel_rfl) rfl (PQ.then_ (PQ.inB (PQ.then_ (PQ.then_ (PQ.inB (PQ.then_ (PQ.inB (PQ.then_ (PQ.then_ (PQ.inB (PQ.then_ (PQ.then_ PQ.body)))))))))))) rfl (Val.fieldAddrB Try.underlying24 rfl fsz22 rfl rfl rfl) (fun W hO=>hO) ?_
           refine TA.take 1 rfl (by kernel_rfl) rfl (PQ.then_ (PQ.inB (PQ.then_ (PQ.then_ (PQ.inB (PQ.then_ (PQ.inB (PQ.then_ (PQ.then_ (PQ.inB (PQ.then_ (PQ.then_ PQ.body)))))))))))) rfl (Val.loadB 1 agg22 rfl rfl rfl) (fun W hO=>hO) ?_
           refine TA.take 2 rfl (by kernel_rfl) rfl (PQ.then_ (PQ.inB (PQ.then_ (PQ.then_ (PQ.inB (PQ.then_ (PQ.inB (PQ.then_ (PQ.then_ (PQ.inB (PQ.then_ (PQ.then_ PQ.body)))))))))))) rfl (Val.move rfl) (fun W hO=>hO) ?_
           refine TA.take 3 rfl (by kernel_rfl) rfl (PQ.then_ (PQ.inB (PQ.then_ (PQ.then_ (PQ.inB (PQ.then_ (PQ.inB (PQ.then_ (PQ.then_ (PQ.inB (PQ.then_ (PQ.then_ PQ.body)))))))))))) rfl (Val.indexAddr Try.underlying22 fsz35 rfl hA5825 rfl hi5826 hj5827) (fun W hO=>hO) ?_
           refine TA.take 4 rfl (by kernel_rfl) rfl (PQ.then_ (PQ.inB (PQ.then_ (PQ.then_ (PQ.inB (PQ.then_ (PQ.inB (PQ.then_ (PQ.then_ (PQ.inB (PQ.then_ (PQ.then_ PQ.body)))))))))))) rfl (Val.fieldAddrE Try.underlying35 rfl fsz31 rfl rfl) (fun W hO=>hO) ?_
           refine TA.take 5 rfl (by kernel_rfl) rfl (PQ.then_ (PQ.inB (PQ.then_ (PQ.then_ (PQ.inB (PQ.then_ (PQ.inB (PQ.then_ (PQ.then_ (PQ.inB (PQ.then_ (PQ.then_ PQ.body)))))))))))) rfl (Val.loadS agg31 rfl (hcl5828 0 _ rfl)) (fun W hO=>hO) ?_
           refine TA.take 6 rfl (by kernel_rfl) rfl (PQ.then_ (PQ.inB (PQ.then_ (PQ.then_ (PQ.inB (PQ.then_ (PQ.inB (PQ.then_ (PQ.then_ (PQ.inB (PQ.then_ (PQ.then_ PQ.body)))))))))))) rfl (Val.move rfl) (fun W hO=>hO) ?_
           obtain ⟨y5962,hx5963,h⟩:=bind_no h
           obtain ⟨ad5964,cs5970,hA5965,hi5966,hj5967,hcl5968,hK5969⟩:=Rd.at hr5833 hx5963
           obtain ⟨A5971,c5972,rfl,hr5973,hl5974⟩:=k37_openR hK5969
           refine TA.take 7 rfl (by kernel_rfl) rfl (PQ.then_ (PQ.inB (PQ.then_ (PQ.then_ (PQ.inB (PQ.then_ (PQ.inB (PQ.then_ (PQ.then_ (PQ.inB (PQ.then_ (PQ.then_ PQ.body)))))))))))) rfl (Val.indexAddr Try.underlying31 fsz37 rfl hA5965 rfl hi5966 hj5967) (fun W hO=>hO) ?_
           refine TA.take 8 rfl (by kernel_rfl) rfl (PQ.then_ (PQ.inB (PQ.then_ (PQ.then_ (PQ.inB (PQ.then_ (PQ.inB (PQ.then_ (PQ.then_ (PQ.inB (PQ.then_ (PQ.then_ PQ.body)))))))))))) rfl (Val.loadsS (cs:=[VI y5962.f0,VI y5962.f1,VI y5962.f2,VI y5962.f3,VI y5962.f4,.slice A5971 y5962.f5.length c5972]) agg37 fsz37 rfl rfl (Cl.sub (off:=0) (n:=6) hcl5968 rfl)) (fun W hO=>hO) ?_
           refine TA.take 9 rfl (by kernel_rfl) rfl (PQ.then_ (PQ.inB (PQ.then_ (PQ.then_ (PQ.inB (PQ.then_ (PQ.inB (PQ.then_ (PQ.then_ (PQ.inB (PQ.then_ (PQ.then_ PQ.body)))))))))))) rfl (Val.fieldAddrB Try.underlying24 rfl fsz22 rfl rfl rfl) (fun W hO=>hO) ?_
           refine TA.take 10 rfl (by kernel_rfl) rfl (PQ.then_ (PQ.inB (PQ.then_ (PQ.then_ (PQ.inB (PQ.then_ (PQ.inB (PQ.then_ (PQ.then_ (PQ.inB (PQ.then_ (PQ.then_ PQ.body)))))))))))) rfl (Val.loadB 0 agg22 rfl rfl rfl) (fun W hO=>hO) ?_
           refine TA.take 11 rfl (by kernel_rfl) rfl (PQ.then_ (PQ.inB (PQ.then_ (PQ.then_ (PQ.inB (PQ.then_ (PQ.inB (PQ.then_ (PQ.then_ (PQ.inB (PQ.then_ (PQ.then_ PQ.body)))))))))))) rfl (Val.move rfl) (fun W hO=>hO) ?_
           obtain ⟨y5975,hx5976,h⟩:=bind_no h
           obtain ⟨ad5977,cs5983,hA5978,hi5979,hj5980,hcl5981,hK5982⟩:=Rd.at hr7 hx5976
           obtain ⟨A5984,c5985,rfl,hr5986,hl5987⟩:=k35_openR hK5982
           refine TA.take 12 rfl (by kernel_rfl) rfl (PQ.then_ (PQ.inB (PQ.then_ (PQ.then_ (PQ.inB (PQ.then_ (PQ.inB (PQ.then_ (PQ.then_ (PQ.inB (PQ.then_ (PQ.then_ PQ.body)))))))))))) rfl (Val.indexAddr Try.underlying22 fsz35 rfl hA5978 rfl hi5979 hj5980) (fun W hO=>hO) ?_
           refine TA.take 13 rfl (by kernel_rfl) rfl (PQ.then_ (PQ.inB (PQ.then_ (PQ.then_ (PQ.inB (PQ.then_ (PQ.inB (PQ.then_ (PQ.then_ (PQ.inB (PQ.then_ (PQ.then_ PQ.body)))))))))))) rfl (Val.fieldAddrE Try.underlying35 rfl fsz31 rfl rfl) (fun W hO=>hO) ?_
           refine TA.take 14 rfl (by kernel_rfl) rfl (PQ.then_ (PQ.inB (PQ.then_ (PQ.then_ (PQ.inB (PQ.then_ (PQ.inB (PQ.then_ (PQ.then_ (PQ.inB (PQ.then_ (PQ.then_ PQ.body)))))))))))) rfl (Val.loadS agg31 rfl (hcl5981 0 _ rfl)) (fun W hO=>hO) ?_
           refine TA.take 15 rfl (by kernel_rfl) rfl (PQ.then_ (PQ.inB (PQ.then_ (PQ.then_ (PQ.inB (PQ.then_ (PQ.inB (PQ.then_ (PQ.then_ (PQ.inB (PQ.then_ (PQ.then_ PQ.body)))))))))))) rfl (Val.move rfl) (fun W hO=>hO) ?_
           obtain ⟨y5988,hx5989,h⟩:=bind_no h
           obtain ⟨ad5990,cs5996,hA5991,hi5992,hj5993,hcl5994,hK5995⟩:=Rd.at hr5986 hx5989
           obtain ⟨A5997,c5998,rfl,hr5999,hl6000⟩:=k37_openR hK5995
           refine TA.take 16 rfl (by kernel_rfl) rfl (PQ.then_ (PQ.inB (PQ.then_ (PQ.then_ (PQ.inB (PQ.then_ (PQ.inB (PQ.then_ (PQ.then_ (PQ.inB (PQ.then_ (PQ.then_ PQ.body)))))))))))) rfl (Val.indexAddr Try.underlying31 fsz37 rfl hA5991 rfl hi5992 hj5993) (fun W hO=>hO) ?_
           refine TA.take 17 rfl (by kernel_rfl) rfl (PQ.then_ (PQ.inB (PQ.then_ (PQ.then_ (PQ.inB (PQ.then_ (PQ.inB (PQ.then_ (PQ.then_ (PQ.inB (PQ.then_ (PQ.then_ PQ.body)))))))))))) rfl (Val.loadsS (cs:=[VI y5988.f0,VI y5988.f1,VI y5988.f2,VI y5988.f3,VI y5988.f4,.slice A5997 y5988.f5.length c5998]) agg37 fsz37 rfl rfl (Cl.sub (off:=0) (n:=6) hcl5994 rfl)) (fun W hO=>hO) ?_
           obtain ⟨y6001,hy6002,h⟩:=bind_no h
           refine TA.eff 18 rfl (by kernel_rfl) rfl (TL.callV (Lin:=[]) (args:=[.agg #[VI y5962.f0,VI y5962.f1,VI y5962.f2,VI y5962.f3,VI y5962.f4,.slice A5971 y5962.f5.length c5972],.agg #[VI y5988.f0,VI y5988.f1,VI y5988.f2,VI y5988.f3,VI y5988.f4,.slice A5997 y5988.f5.length c5998]]) rfl rfl rfl hbd9 rfl rfl (swageref14_SameOp.calls (a0:=y5962) (a1:=y5988) hr5973 hl5974 hr5999 hl6000 hy6002) rfl ?_)
           rintro _ _ _ _ ⟨rfl,rfl,rfl⟩
           refine TA.next (fun W hO=>hO) ?_
           refine TA.take 19 rfl (by kernel_rfl) rfl (PQ.then_ (PQ.inB (PQ.then_ (PQ.then_ (PQ.inB (PQ.then_ (PQ.inB (PQ.then_ (PQ.then_ (PQ.inB (PQ.then_ (PQ.then_ PQ.body)))))))))))) rfl (Val.assign rfl) (fun W hO=>hO) ?_
           refine TA.done (by kernel_rfl) ?_
           refine TQ.then_ ?_
           refine TC.seq ?_
           refine TC.region ?_
           refine TV rfl rfl rfl (Val.move rfl) ?_
           refine TV rfl rfl rfl (Val.not_ rfl) ?_
           refine TL.nil ?_
           refine TQ.then_ ?_
           refine TC.cond_b rfl h (fun hc6004 h=>?_) (fun hc6004 h=>?_)
           ·
            refine TC.seq ?_
            refine TC.region ?_
            refine TV rfl rfl rfl (Val.assign rfl) ?_
            refine TL.nil ?_
            refine TQ.then_ ?_
            refine TC.ret ?_
            refine TQ.inBR ?_
            refine TQ.thenR ?_
            refine TQ.thenR ?_
            refine TQ.inBR ?_
            refine TQ.thenR ?_
            refine TQ.inBR ?_
            refine TQ.thenR ?_
            refine TQ.thenR ?_
            refine TQ.inBR ?_
            refine TQ.thenR ?_
            refine TQ.thenR ?_
            obtain rfl:=Option.some.inj h
            have h:=ko5637
            obtain rfl:=Option.some.inj h
            have h:=ko3269
            obtain rfl:=Option.some.inj h
            exact TQ.fin (.inl rfl) rfl Try.results12 (.tmp rfl .nil) rfl (FRel.mk (Ls:=[]) [] 2 (Gd.le.refl _) rfl rfl rfl ⟨rfl,rfl,rfl⟩)
           ·
            refine TC.skip ?_
            refine TQ.inB ?_
            refine TQ.then_ ?_
            refine TC.region ?_
            refine TV rfl rfl rfl (Val.move rfl) ?_
            refine TV rfl rfl rfl (Val.cmp rfl rfl run_add) ?_
            refine TV rfl rfl rfl (Val.assign rfl) ?_
            refine TL.nil ?_
            exact fun a W hF hO=>⟨IntKind.i64.wrap (x5453 + 1),h,hF.sub ⟨rfl,rfl,rfl,rfl,trivial⟩,hO.selT (Ls:=[Blk b10 [VI a1.f0,.slice A5 a1.f1.length c6] 24,Blk b9 [VI a0.f0,.slice A1 a0.f1.length c2] 24]) [0,1] 2 rfl rfl rfl⟩
          ·
           refine TC.exit ?_
           refine TQ.thenX ?_
           refine TQ.thenX ?_
           refine TQ.inBX ?_
           exact fun a W hF hO=>⟨Option.some.inj h,hF.sub ⟨rfl,rfl,rfl,trivial⟩,hO.selT (Ls:=[Blk b10 [VI a1.f0,.slice A5 a1.f1.length c6] 24,Blk b9 [VI a0.f0,.slice A1 a0.f1.length c2] 24]) [0,1] 2 rfl rfl rfl⟩
      ·
       refine TC.regionAny [] [0,1,2,3,4,5,6,7,8,9,10,11,12,13,14,15,16,17,18,19,20,21,22,23,24,25,26,27,28,29] mixed (by kernel_rfl) ?_
       refine TA.take 0 rfl (by kernel_rfl) rfl (PQ.then_ (PQ.then_ (PQ.then_ (PQ.inB (PQ.then_ (PQ.then_ (PQ.inB (PQ.then_ (PQ.then_ PQ.body))))))))) rfl (Val.fieldAddrB Try.underlying24 rfl fsz22 rfl rfl rfl) (fun W hO=>hO) ?_
       refine TA.take 1 rfl (by kernel_rfl) rfl (PQ.then_ (PQ.then_ (PQ.then_ (PQ.inB (PQ.then_ (PQ.then_ (PQ.inB (PQ.then_ (PQ.then_ PQ.body))))))))) rfl (Val.loadB 1 agg22 rfl rfl rfl) (fun W hO=>hO) ?_
       refine TA.take 2 rfl (by kernel_rfl) rfl (PQ.then_ (PQ.then_ (PQ.then_ (PQ.inB (PQ.then_ (PQ.then_ (PQ.inB (PQ.then_ (PQ.then_ PQ.body))))))))) rfl (Val.move rfl) (fun W hO=>hO) ?_
       obtain ⟨y6034,hx6035,h⟩:=bind_no h
       obtain ⟨ad6036,cs6042,hA6037,hi6038,hj6039,hcl6040,hK6041⟩:=Rd.at hr3 hx6035
       obtain ⟨A6043,c6044,rfl,hr6045,hl6046⟩:=k35_openR hK6041
       refine TA.take 3 rfl (by kernel_rfl) rfl (PQ.then_ (PQ.then_ (PQ.then_ (PQ.inB (PQ.then_ (PQ.then_ (PQ.inB (PQ.then_ (PQ.then_ PQ.body))))))))) rfl (Val.indexAddr Try.underlying22 fsz35 rfl hA6037 rfl hi6038 hj6039) (fun W hO=>hO) ?_
       refine TA.take 4 rfl (by kernel_rfl) rfl (PQ.then_ (PQ.then_ (PQ.then_ (PQ.inB (PQ.then_ (PQ.then_ (PQ.inB (PQ.then_ (PQ.then_ PQ.body))))))))) rfl (Val.fieldAddrE Try.underlying35 rfl fsz33 rfl rfl) (fun W hO=>hO) ?_
       refine TA.take 5 rfl (by kernel_rfl) rfl (PQ.then_ (PQ.then_ (PQ.then_ (PQ.inB (PQ.then_ (PQ.then_ (PQ.inB (PQ.then_ (PQ.then_ PQ.body))))))))) rfl (Val.loadsS (cs:=[VI y6034.f1.f0,VI y6034.f1.f1,VI y6034.f1.f2,VI y6034.f1.f3]) agg33 fsz33 rfl rfl (Cl.sub (off:=1) (n:=4) hcl6040 rfl)) (fun W hO=>hO) ?_
       refine TA.take 6 rfl (by kernel_rfl) rfl (PQ.then_ (PQ.then_ (PQ.then_ (PQ.inB (PQ.then_ (PQ.then_ (PQ.inB (PQ.then_ (PQ.then_ PQ.body))))))))) rfl (Val.fieldAddrB Try.underlying24 rfl fsz22 rfl rfl rfl) (fun W hO=>hO) ?_
       refine TA.take 7 rfl (by kernel_rfl) rfl (PQ.then_ (PQ.then_ (PQ.then_ (PQ.inB (PQ.then_ (PQ.then_ (PQ.inB (PQ.then_ (PQ.then_ PQ.body))))))))) rfl (Val.loadB 0 agg22 rfl rfl rfl) (fun W hO=>hO) ?_
       refine TA.take 8 rfl (by kernel_rfl) rfl (PQ.then_ (PQ.then_ (PQ.then_ (PQ.inB (PQ.then_ (PQ.then_ (PQ.inB (PQ.then_ (PQ.then_ PQ.body))))))))) rfl (Val.move rfl) (fun W hO=>hO) ?_
       obtain ⟨y6047,hx6048,h⟩:=bind_no h
       obtain ⟨ad6049,cs6055,hA6050,hi6051,hj6052,hcl6053,hK6054⟩:=Rd.at hr7 hx6048
       obtain ⟨A6056,c6057,rfl,hr6058,hl6059⟩:=k35_openR hK6054
       refine TA.take 9 rfl (by kernel_rfl) rfl (PQ.then_ (PQ.then_ (PQ.then_ (PQ.inB (PQ.then_ (PQ.then_ (PQ.inB (PQ.then_ (PQ.then_ PQ.body))))))))) rfl (Val.indexAddr Try.underlying22 fsz35 rfl hA6050 rfl hi6051 hj6052) (fun W hO=>hO) ?_
       refine TA.take 10 rfl (by kernel_rfl) rfl (PQ.then_ (PQ.then_ (PQ.then_ (PQ.inB (PQ.then_ (PQ.then_ (PQ.inB (PQ.then_ (PQ.then_ PQ.body))))))))) rfl (Val.fieldAddrE Try.underlying35 rfl fsz33 rfl rfl) (fun W hO=>hO) ?_
       refine TA.take 11 rfl (by kernel_rfl) rfl (PQ.then_ (PQ.then_ (PQ.then_ (PQ.inB (PQ.then_ (PQ.then_ (PQ.inB (PQ.then_ (PQ.then_ PQ.body))))))))) rfl (Val.loadsS (cs:=[VI y6047.f1.f0,VI y6047.f1.f1,VI y6047.f1.f2,VI y6047.f1.f3]) agg33 fsz33 rfl rfl (Cl.sub (off:=1) (n:=4) hcl6053 rfl)) (fun W hO=>hO) ?_
       refine TA.take 12 rfl (by kernel_rfl) rfl (PQ.then_ (PQ.then_ (PQ.then_ (PQ.inB (PQ.then_ (PQ.then_ (PQ.inB (PQ.then_ (PQ.then_ PQ.body))))))))) rfl (Val.neA eqg33 rfl rfl (fun W=>eqs33 9998 W _ _ _ _ _ _ _ _)) (fun W hO=>hO) ?_
       refine TA.take 13 rfl (by kernel_rfl) rfl (PQ.then_ (PQ.then_ (PQ.then_ (PQ.inB (PQ.then_ (PQ.then_ (PQ.inB (PQ.then_ (PQ.then_ PQ.body))))))))) rfl (Val.move rfl) (fun W hO=>hO) ?_
       refine TK.split (p:=(!((y6034.f1.f0 == y6047.f1.f0) && ((y6034.f1.f1 == y6047.f1.f1) && ((y6034.f1.f2 == y6047.f1.f2) && (y6034.f1.f3 == y6047.f1.f3)))))=true) h (fun hg6060 h=>?_) (fun hg6060 h=>?_)
       ·
        have hk6061:(!((y6034.f1.f0 == y6047.f1.f0) && ((y6034.f1.f1 == y6047.f1.f1) && ((y6034.f1.f2 == y6047.f1.f2) && (y6034.f1.f3 == y6047.f1.f3)))))=true:=hg6060
        refine TA.not 14 rfl (by kernel_rfl) rfl (PQ.then_ (PQ.then_ (PQ.then_ (PQ.inB (PQ.then_ (PQ.then_ (PQ.inB (PQ.then_ (PQ.then_ PQ.body))))))))) (Wt.no rfl rfl rfl hk6061) (fun W hO=>hO) ?_
        refine TA.not 15 rfl (by kernel_rfl) rfl (PQ.then_ (PQ.then_ (PQ.then_ (PQ.inB (PQ.then_ (PQ.then_ (PQ.inB (PQ.then_ (PQ.then_ PQ.body))))))))) (Wt.no rfl rfl rfl hk6061) (fun W hO=>hO) ?_
        refine TA.not 16 rfl (by kernel_rfl) rfl (PQ.then_ (PQ.then_ (PQ.then_ (PQ.inB (PQ.then_ (PQ.then_ (PQ.inB (PQ.then_ (PQ.then_ PQ.body))))))))) (Wt.no rfl rfl rfl hk6061) (fun W hO=>hO) ?_
        refine TA.not 17 rfl (by kernel_rfl) rfl (PQ.then_ (PQ.then_ (PQ.then_ (PQ.inB (PQ.then_ (PQ.then_ (PQ.inB (PQ.then_ (PQ.then_ PQ.body))))))))) (Wt.no rfl rfl rfl hk6061) (fun W hO=>hO) ?_
        refine TA.not 18 rfl (by kernel_rfl) rfl (PQ.then_ (PQ.then_ (PQ.then_ (PQ.inB (PQ.then_ (PQ.then_ (PQ.inB (PQ.then_ (PQ.then_ PQ.body))))))))) (Wt.no rfl rfl rfl hk6061) (fun W hO=>hO) ?_
        refine TA.not 19 rfl (by kernel_rfl) rfl (PQ.then_ (PQ.then_ (PQ.then_ (PQ.inB (PQ.then_ (PQ.then_ (PQ.inB (PQ.then_ (PQ.then_ PQ.body))))))))) (Wt.no rfl rfl rfl hk6061) (fun W hO=>hO) ?_
        refine TA.not 20 rfl (by kernel_rfl) rfl (PQ.then_ (PQ.then_ (PQ.then_ (PQ.inB (PQ.then_ (PQ.then_ (PQ.inB (PQ.then_ (PQ.then_ PQ.body))))))))) (Wt.no rfl rfl rfl hk6061) (fun W hO=>hO) ?_
        refine TA.not 21 rfl (by kernel_rfl) rfl (PQ.then_ (PQ.then_ (PQ.then_ (PQ.inB (PQ.then_ (PQ.then_ (PQ.inB (PQ.then_ (PQ.then_ PQ.body))))))))) (Wt.no rfl rfl rfl hk6061) (fun W hO=>hO) ?_
        refine TA.not 22 rfl (by kernel_rfl) rfl (PQ.then_ (PQ.then_ (PQ.then_ (PQ.inB (PQ.then_ (PQ.then_ (PQ.inB (PQ.then_ (PQ.then_ PQ.body))))))))) (Wt.no rfl rfl rfl hk6061) (fun W hO=>hO) ?_
        refine TA.not 23 rfl (by kernel_rfl) rfl (PQ.then_ (PQ.then_ (PQ.then_ (PQ.inB (PQ.then_ (PQ.then_ (PQ.inB (PQ.then_ (PQ.then_ PQ.body))))))))) (Wt.no rfl rfl rfl hk6061) (fun W hO=>hO) ?_
        refine TA.not 24 rfl (by kernel_rfl) rfl (PQ.then_ (PQ.then_ (PQ.then_ (PQ.inB (PQ.then_ (PQ.then_ (PQ.inB (PQ.then_ (PQ.then_ PQ.body))))))))) (Wt.no rfl rfl rfl hk6061) (fun W hO=>hO) ?_
        refine TA.not 25 rfl (by kernel_rfl) rfl (PQ.then_ (PQ.then_ (PQ.then_ (PQ.inB (PQ.then_ (PQ.then_ (PQ.inB (PQ.then_ (PQ.then_ PQ.body))))))))) (Wt.no rfl rfl rfl hk6061) (fun W hO=>hO) ?_
        refine TA.not 26 rfl (by kernel_rfl) rfl (PQ.then_ (PQ.then_ (PQ.then_ (PQ.inB (PQ.then_ (PQ.then_ (PQ.inB (PQ.then_ (PQ.then_ PQ.body))))))))) (Wt.no rfl rfl rfl hk6061) (fun W hO=>hO) ?_
        refine TA.not 27 rfl (by kernel_rfl) rfl (PQ.then_ (PQ.then_ (PQ.then_ (PQ.inB (PQ.then_ (PQ.then_ (PQ.inB (PQ.then_ (PQ.then_ PQ.body))))))))) (Wt.no rfl rfl rfl hk6061) (fun W hO=>hO) ?_
        refine TA.not 28 rfl (by kernel_rfl) rfl (PQ.then_ (PQ.then_ (PQ.then_ (PQ.inB (PQ.then_ (PQ.then_ (PQ.inB (PQ.then_ (PQ.then_ PQ.body))))))))) (Wt.no rfl rfl rfl hk6061) (fun W hO=>hO) ?_
        refine TA.take 29 rfl (by kernel_rfl) rfl (PQ.then_ (PQ.then_ (PQ.then_ (PQ.inB (PQ.then_ (PQ.then_ (PQ.inB (PQ.then_ (PQ.then_ PQ.body))))))))) rfl (Val.pickY rfl hk6061 rfl) (fun W hO=>hO) ?_
        refine TA.done (by kernel_rfl) ?_
        exact fun a W hF hO=>⟨true,h,hF.sub ⟨rfl,rfl,rfl,rfl,trivial⟩,hO.selT (Ls:=[Blk b10 [VI a1.f0,.slice A5 a1.f1.length c6] 24,Blk b9 [VI a0.f0,.slice A1 a0.f1.length c2] 24]) [0,1] 2 rfl rfl rfl⟩
       ·
        have hk6062:(!((y6034.f1.f0 == y6047.f1.f0) && ((y6034.f1.f1 == y6047.f1.f1) && ((y6034.f1.f2 == y6047.f1.f2) && (y6034.f1.f3 == y6047.f1.f3)))))=false:=(by simpa using hg6060)
        refine TA.take 14 rfl (by kernel_rfl) rfl (PQ.then_ (PQ.then_ (PQ.then_ (PQ.inB (PQ.then_ (PQ.then_ (PQ.inB (PQ.then_ (PQ.then_ PQ.body))))))))) (Wt.yes rfl rfl rfl hk6062) (Val.fieldAddrB Try.underlying24 rfl fsz22 rfl rfl rfl) (fun W hO=>hO) ?_
        refine TA.take 15 rfl (by kernel_rfl) rfl (PQ.then_ (PQ.then_ (PQ.then_ (PQ.inB (PQ.then_ (PQ.then_ (PQ.inB (PQ.then_ (PQ.then_ PQ.body))))))))) (Wt.yes rfl rfl rfl hk6062) (Val.loadB 1 agg22 rfl rfl rfl) (fun W hO=>hO) ?_
        refine TA.take 16 rfl (by kernel_rfl) rfl (PQ.then_ (PQ.then_ (PQ.then_ (PQ.inB (PQ.then_ (PQ.then_ (PQ.inB (PQ.then_ (PQ.then_ PQ.body))))))))) (Wt.yes rfl rfl rfl hk6062) (Val.move rfl) (fun W hO=>hO) ?_
        refine TA.take 17 rfl (by kernel_rfl) rfl (PQ.then_ (PQ.then_ (PQ.then_ (PQ.inB (PQ.then_ (PQ.then_ (PQ.inB (PQ.then_ (PQ.then_ PQ.body))))))))) (Wt.yes rfl rfl rfl hk6062) (Val.indexAddr Try.underlying22 fsz35 rfl hA6037 rfl hi6038 hj6039) (fun W hO=>hO) ?_
        refine TA.take 18 rfl (by kernel_rfl) rfl (PQ.then_ (PQ.then_ (PQ.then_ (PQ.inB (PQ.then_ (PQ.then_ (PQ.inB (PQ.then_ (PQ.then_ PQ.body))))))))) (Wt.yes rfl rfl rfl hk6062) (Val.fieldAddrE Try.underlying35 rfl fsz31 rfl rfl) (fun W hO=>hO) ?_
        refine TA.take 19 rfl (by kernel_rfl) rfl (PQ.then_ (PQ.then_ (PQ.then_ (PQ.inB (PQ.then_ (PQ.then_ (PQ.inB (PQ.then_ (PQ.then_ PQ.body))))))))) (Wt.yes rfl rfl rfl hk6062) (Val.loadS agg31 rfl (hcl6040 0 _ rfl)) (fun W hO=>hO) ?_
        refine TA.take 20 rfl (by kernel_rfl) rfl (PQ.then_ (PQ.then_ (PQ.then_ (PQ.inB (PQ.then_ (PQ.then_ (PQ.inB (PQ.then_ (PQ.then_ PQ.body))))))))) (Wt.yes rfl rfl rfl hk6062) (Val.len Try.underlying31 rfl) (fun W hO=>hO) ?_
        refine TA.take 21 rfl (by kernel_rfl) rfl (PQ.then_ (PQ.then_ (PQ.then_ (PQ.inB (PQ.then_ (PQ.then_ (PQ.inB (PQ.then_ (PQ.then_ PQ.body))))))))) (Wt.yes rfl rfl rfl hk6062) (Val.fieldAddrB Try.underlying24 rfl fsz22 rfl rfl rfl) (fun W hO=>hO) ?_
        refine TA.take 22 rfl (by kernel_rfl) rfl (PQ.then_ (PQ.then_ (PQ.then_ (PQ.inB (PQ.then_ (PQ.then_ (PQ.inB (PQ.then_ (PQ.then_ PQ.body))))))))) (Wt.yes rfl rfl rfl hk6062) (Val.loadB 0 agg22 rfl rfl rfl) (fun W hO=>hO) ?_
        refine TA.take 23 rfl (by kernel_rfl) rfl (PQ.then_ (PQ.then_ (PQ.then_ (PQ.inB (PQ.then_ (PQ.then_ (PQ.inB (PQ.then_ (PQ.then_ PQ.body))))))))) (Wt.yes rfl rfl rfl hk6062) (Val.move rfl) (fun W hO=>hO) ?_
        refine TA.take 24 rfl (by kernel_rfl) rfl (PQ.then_ (PQ.then_ (PQ.then_ (PQ.inB (PQ.then_ (PQ.then_ (PQ.inB (PQ.then_ (PQ.then_ PQ.body))))))))) (Wt.yes rfl rfl rfl hk6062) (Val.indexAddr Try.underlying22 fsz35 rfl hA6050 rfl hi6051 hj6052) (fun W hO=>hO) ?_
        refine TA.take 25 rfl (by kernel_rfl) rfl (PQ.then_ (PQ.then_ (PQ.then_ (PQ.inB (PQ.then_ (PQ.then_ (PQ.inB (PQ.then_ (PQ.then_ PQ.body))))))))) (Wt.yes rfl rfl rfl hk6062) (Val.fieldAddrE Try.underlying35 rfl fsz31 rfl rfl) (fun W hO=>hO) ?_
        refine TA.take 26 rfl (by kernel_rfl) rfl (PQ.then_ (PQ.then_ (PQ.then_ (PQ.inB (PQ.then_ (PQ.then_ (PQ.inB (PQ.then_ (PQ.then_ PQ.body))))))))) (Wt.yes rfl rfl rfl hk6062) (Val.loadS agg31 rfl (hcl6053 0 _ rfl)) (fun W hO=>hO) ?_
        refine TA.take 27 rfl (by kernel_rfl) rfl (PQ.then_ (PQ.then_ (PQ.then_ (PQ.inB (PQ.then_ (PQ.then_ (PQ.inB (PQ.then_ (PQ.then_ PQ.body))))))))) (Wt.yes rfl rfl rfl hk6062) (Val.len Try.underlying31 rfl) (fun W hO=>hO) ?_
        refine TA.take 28 rfl (by kernel_rfl) rfl (PQ.then_ (PQ.then_ (PQ.then_ (PQ.inB (PQ.then_ (PQ.then_ (PQ.inB (PQ.then_ (PQ.then_ PQ.body))))))))) (Wt.yes rfl rfl rfl hk6062) (Val.cmp rfl rfl run_neq) (fun W hO=>hO) ?_
        refine TA.take 29 rfl (by kernel_rfl) rfl (PQ.then_ (PQ.then_ (PQ.then_ (PQ.inB (PQ.then_ (PQ.then_ (PQ.inB (PQ.then_ (PQ.then_ PQ.body))))))))) rfl (Val.pickN rfl hk6062 rfl) (fun W hO=>hO) ?_
        refine TA.done (by kernel_rfl) ?_
        exact fun a W hF hO=>⟨(!decide ((y6034.f0.length:Int)=(y6047.f0.length:Int))),h,hF.sub ⟨rfl,rfl,rfl,rfl,trivial⟩,hO.selT (Ls:=[Blk b10 [VI a1.f0,.slice A5 a1.f1.length c6] 24,Blk b9 [VI a0.f0,.slice A1 a0.f1.length c2] 24]) [0,1] 2 rfl rfl rfl⟩
     ·
      refine TC.exit ?_
      refine TQ.thenX ?_
      refine TQ.thenX ?_
      refine TQ.inBX ?_
      exact fun a W hF hO=>⟨Option.some.inj h,hF.sub trivial,hO.selT (Ls:=[]) [] 2 rfl rfl rfl⟩
 ·
  refine TC.region ?_
  refine TV rfl rfl rfl (Val.fieldAddrB Try.underlying24 rfl fsz3 rfl rfl rfl) ?_
  refine TV rfl rfl rfl (Val.loadB 1 agg3 rfl rfl rfl) ?_
  refine TV rfl rfl rfl (Val.fieldAddrB Try.underlying24 rfl fsz3 rfl rfl rfl) ?_
  refine TV rfl rfl rfl (Val.loadB 0 agg3 rfl rfl rfl) ?_
  refine TV rfl rfl rfl (Val.cmp rfl rfl run_neq) ?_
  refine TV rfl rfl rfl (Val.move rfl) ?_
  refine TK.split (p:=(!decide (a0.f0=a1.f0))=true) h (fun hg6063 h=>?_) (fun hg6063 h=>?_)
  ·
   have hk6064:(!decide (a0.f0=a1.f0))=true:=hg6063
   refine TL.cons (TL.not (Wt.no rfl rfl rfl hk6064) rfl ?_)
   refine TL.cons (TL.not (Wt.no rfl rfl rfl hk6064) rfl ?_)
   refine TL.cons (TL.not (Wt.no rfl rfl rfl hk6064) rfl ?_)
   refine TL.cons (TL.not (Wt.no rfl rfl rfl hk6064) rfl ?_)
   refine TL.cons (TL.not (Wt.no rfl rfl rfl hk6064) rfl ?_)
   refine TL.cons (TL.not (Wt.no rfl rfl rfl hk6064) rfl ?_)
   refine TL.cons (TL.not (Wt.no rfl rfl rfl hk6064) rfl ?_)
   refine TV rfl rfl rfl (Val.pickY rfl hk6064 rfl) ?_
   refine TL.nil ?_
   exact fun a W hF hO=>⟨true,h,hF.sub ⟨rfl,rfl,rfl,trivial⟩,hO.selT (Ls:=[Blk b10 [VI a1.f0,.slice A5 a1.f1.length c6] 24,Blk b9 [VI a0.f0,.slice A1 a0.f1.length c2] 24]) [0,1] 2 rfl rfl rfl⟩
  ·
   have hk6065:(!decide (a0.f0=a1.f0))=false:=(by simpa using hg6063)
   refine TV (Wt.yes rfl rfl rfl hk6065) rfl rfl (Val.fieldAddrB Try.underlying24 rfl fsz22 rfl rfl rfl) ?_
   refine TV (Wt.yes rfl rfl rfl hk6065) rfl rfl (Val.loadB 1 agg22 rfl rfl rfl) ?_
   refine TV (Wt.yes rfl rfl rfl hk6065) rfl rfl (Val.len Try.underlying22 rfl) ?_
   refine TV (Wt.yes rfl rfl rfl hk6065) rfl rfl (Val.fieldAddrB Try.underlying24 rfl fsz22 rfl rfl rfl) ?_
   refine TV (Wt.yes rfl rfl rfl hk6065) rfl rfl (Val.loadB 0 agg22 rfl rfl rfl) ?_
   refine TV (Wt.yes rfl rfl rfl hk6065) rfl rfl (Val.len Try.underlying22 rfl) ?_
   refine TV (Wt.yes rfl rfl rfl hk6065) rfl rfl (Val.cmp rfl rfl run_neq) ?_
   refine TV rfl rfl rfl (Val.pickN rfl hk6065 rfl) ?_
   refine TL.nil ?_
   exact fun a W hF hO=>⟨(!decide ((a0.f1.length:Int)=(a1.f1.length:Int))),h,hF.sub ⟨rfl,rfl,rfl,trivial⟩,hO.selT (Ls:=[Blk b10 [VI a1.f0,.slice A5 a1.f1.length c6] 24,Blk b9 [VI a0.f0,.slice A1 a0.f1.length c2] 24]) [0,1] 2 rfl rfl rfl⟩
def swagelaw22_small.f:Option Bool:=(swagelaw22_some.f).bind fun (y1:S35)=>(forward_Block.f y1 ([]:List Int)).bind fun (y11:S35)=>(swageref14_Same.f (⟨0,([y11]:List S35)⟩:S24) (⟨0,([(⟨([(⟨5,0,1,2,0,([]:List Int)⟩:S37),(⟨3,3,2,0,0,([]:List Int)⟩:S37),(⟨4,4,1,0,1,([]:List Int)⟩:S37),(⟨3,5,4,0,0,([]:List Int)⟩:S37)]:List S37),(⟨3,5,0,0⟩:S33)⟩:S35)]:List S35)⟩:S24)).bind fun (y115:Bool)=>(if y115=true then (forward_Loads.f (⟨0,([y11]:List S35)⟩:S24)).bind fun (y126:Int)=>(if y126=1 then (forward_Apart.f ([0,1,2]:List Int) 1 2).bind fun (y137:Bool)=>(if y137=true then (forward_Apart.f ([0,1,0]:List Int) 1 2).bind fun (y148:Bool)=>some (!y148) else some false) else some false) else some false)
def swagelaw22_small.post (G:Gd)  (r:Bool) (v:Value) (G':Gd) (Lr:List Ch):Prop:=v=.bool r∧Lr=[]
theorem swagelaw22_small.calls {G:Gd} {r:Bool} (h:swagelaw22_small.f=some r):Fn Try.prog 4 G [] [] (swagelaw22_small.post G  r):=by
 refine Fn.intro (e:=[]) 35 Try.func4 rfl Try.ntmps4 rfl rfl (Nat.le_of_ble_eq_true rfl) (fun L=>?_)
 unfold swagelaw22_small.f at h
 refine TC.seq ?_
 refine TC.region ?_
 refine TV rfl rfl rfl (Val.assign rfl) ?_
 refine TL.nil ?_
 refine TQ.then_ ?_
 refine TC.seq ?_
 refine TC.region ?_
 obtain ⟨y1,hy2,h⟩:=bind_no h
 refine TL.cons (TL.callV (Lin:=[]) (args:=[]) rfl rfl rfl hbd11 rfl rfl (swagelaw22_some.calls hy2) rfl ?_)
 rintro _ _ _ _ ⟨rfl,A3,c4,rfl,rfl⟩
 refine TK.share (fun G6 e7 hs8 _=>?_)
 have rd9:Rd G6 k37 A3 y1.f0:=Rd.row hs8
 have le10:y1.f0.length ≤ c4:=Row.le hs8
 obtain ⟨y11,hy12,h⟩:=bind_no h
 refine TL.cons (TL.callV (Lin:=[]) (args:=[.agg #[.slice A3 y1.f0.length c4,VI y1.f1.f0,VI y1.f1.f1,VI y1.f1.f2,VI y1.f1.f3],.slice none 0 0]) rfl rfl rfl hbd10 rfl rfl (forward_Block.calls (a0:=y1) (a1:=([]:List Int)) rd9 le10 (Rd.nil _ _) (Nat.le_refl 0) hy12) rfl ?_)
 rintro _ _ _ _ ⟨rfl,A13,c14,rfl,rfl⟩
 refine TL.cons (TL.alloc (cs:=[.slice none 0 0,VI 0,VI 0,VI 0,VI 0]) rfl rfl zr35 rfl (fun b16=>?_))
 refine TL.cons (TL.store 0 (ds:=[.slice A13 y11.f0.length c14,VI y11.f1.f0,VI y11.f1.f1,VI y11.f1.f2,VI y11.f1.f3]) (cs':=[.slice A13 y11.f0.length c14,VI y11.f1.f0,VI y11.f1.f1,VI y11.f1.f2,VI y11.f1.f3]) (L':=(Blk b16 [.slice A13 y11.f0.length c14,VI y11.f1.f0,VI y11.f1.f1,VI y11.f1.f2,VI y11.f1.f3] 35::Row k37 37 (.slice A13 y11.f0.length c14) y11.f0::L)) rfl fsz35 rfl rfl rfl rfl rfl (Nat.le_of_ble_eq_true rfl) rfl rfl ?_)
 refine TL.nil ?_
 refine TQ.then_ ?_
 refine TC.seq ?_
 refine TC.region ?_
 refine TV rfl rfl rfl (Val.build (cs:=[VI 5,VI 0,VI 1,VI 2,VI 0,.slice none 0 0]) (is:=[0,2,3]) (xs:=[.const (VI 5),.const (VI 1),.const (VI 2)]) Try.underlying37 zr37 bld37 rfl rfl rfl rfl) ?_
 refine TV rfl rfl rfl (Val.build (cs:=[VI 3,VI 3,VI 2,VI 0,VI 0,.slice none 0 0]) (is:=[0,1,2]) (xs:=[.const (VI 3),.const (VI 3),.const (VI 2)]) Try.underlying37 zr37 bld37 rfl rfl rfl rfl) ?_
 refine TV rfl rfl rfl (Val.build (cs:=[VI 4,VI 4,VI 1,VI 0,VI 1,.slice none 0 0]) (is:=[0,1,2,4]) (xs:=[.const (VI 4),.const (VI 4),.const (VI 1),.const (VI 1)]) Try.underlying37 zr37 bld37 rfl rfl rfl rfl) ?_
 refine TV rfl rfl rfl (Val.build (cs:=[VI 3,VI 5,VI 4,VI 0,VI 0,.slice none 0 0]) (is:=[0,1,2]) (xs:=[.const (VI 3),.const (VI 5),.const (VI 4)]) Try.underlying37 zr37 bld37 rfl rfl rfl rfl) ?_
 refine TL.cons (TL.buildSlice (xs:=[.tmp 5,.tmp 6,.tmp 7,.tmp 8]) (vs:=[.agg #[VI 5,VI 0,VI 1,VI 2,VI 0,.slice none 0 0],.agg #[VI 3,VI 3,VI 2,VI 0,VI 0,.slice none 0 0],.agg #[VI 4,VI 4,VI 1,VI 0,VI 1,.slice none 0 0],.agg #[VI 3,VI 5,VI 4,VI 0,VI 0,.slice none 0 0]]) (cs:=[VI 5,VI 0,VI 1,VI 2,VI 0,.slice none 0 0,VI 3,VI 3,VI 2,VI 0,VI 0,.slice none 0 0,VI 4,VI 4,VI 1,VI 0,VI 1,.slice none 0 0,VI 3,VI 5,VI 4,VI 0,VI 0,.slice none 0 0]) rfl rfl Try.underlying31 zs37 rfl rfl rfl rfl rfl rfl rfl rfl (fun b17=>?_))
 refine TV rfl rfl rfl (Val.build (cs:=[VI 3,VI 5,VI 0,VI 0]) (is:=[0,1]) (xs:=[.const (VI 3),.const (VI 5)]) Try.underlying33 zr33 bld33 rfl rfl rfl rfl) ?_
 refine TV rfl rfl rfl (Val.build (cs:=[.slice (some ⟨b17,0,none⟩) 4 4,VI 3,VI 5,VI 0,VI 0]) (is:=[0,1]) (xs:=[.tmp 9,.tmp 10]) Try.underlying35 zr35 bld35 rfl rfl rfl rfl) ?_
 refine TL.cons (TL.alloc (cs:=[.slice none 0 0,VI 0,VI 0,VI 0,VI 0]) rfl rfl zr35 rfl (fun b18=>?_))
 refine TL.cons (TL.store 0 (ds:=[.slice (some ⟨b17,0,none⟩) 4 4,VI 3,VI 5,VI 0,VI 0]) (cs':=[.slice (some ⟨b17,0,none⟩) 4 4,VI 3,VI 5,VI 0,VI 0]) (L':=(Blk b18 [.slice (some ⟨b17,0,none⟩) 4 4,VI 3,VI 5,VI 0,VI 0] 35::Blk b17 [VI 5,VI 0,VI 1,VI 2,VI 0,.slice none 0 0,VI 3,VI 3,VI 2,VI 0,VI 0,.slice none 0 0,VI 4,VI 4,VI 1,VI 0,VI 1,.slice none 0 0,VI 3,VI 5,VI 4,VI 0,VI 0,.slice none 0 0] 37::Blk b16 [.slice A13 y11.f0.length c14,VI y11.f1.f0,VI y11.f1.f1,VI y11.f1.f2,VI y11.f1.f3] 35::Row k37 37 (.slice A13 y11.f0.length c14) y11.f0::L)) rfl fsz35 rfl rfl rfl rfl rfl (Nat.le_of_ble_eq_true rfl) rfl rfl ?_)
 refine TL.nil ?_
 refine TQ.then_ ?_
 refine TC.seq ?_
 refine TC.region ?_
 refine TV rfl rfl rfl (Val.loadsB 2 (cs:=[.slice A13 y11.f0.length c14,VI y11.f1.f0,VI y11.f1.f1,VI y11.f1.f2,VI y11.f1.f3]) agg35 fsz35 rfl rfl rfl rfl) ?_
 refine TL.cons (TL.buildSlice (xs:=[.tmp 12]) (vs:=[.agg #[.slice A13 y11.f0.length c14,VI y11.f1.f0,VI y11.f1.f1,VI y11.f1.f2,VI y11.f1.f3]]) (cs:=[.slice A13 y11.f0.length c14,VI y11.f1.f0,VI y11.f1.f1,VI y11.f1.f2,VI y11.f1.f3]) rfl rfl Try.underlying22 zs35 rfl rfl rfl rfl rfl rfl rfl rfl (fun b86=>?_))
 refine TV rfl rfl rfl (Val.build (cs:=[VI 0,.slice (some ⟨b86,0,none⟩) 1 1]) (is:=[1]) (xs:=[.tmp 13]) Try.underlying24 zr24 bld24 rfl rfl rfl rfl) ?_
 refine TV rfl rfl rfl (Val.loadsB 1 (cs:=[.slice (some ⟨b17,0,none⟩) 4 4,VI 3,VI 5,VI 0,VI 0]) agg35 fsz35 rfl rfl rfl rfl) ?_
 refine TL.cons (TL.buildSlice (xs:=[.tmp 15]) (vs:=[.agg #[.slice (some ⟨b17,0,none⟩) 4 4,VI 3,VI 5,VI 0,VI 0]]) (cs:=[.slice (some ⟨b17,0,none⟩) 4 4,VI 3,VI 5,VI 0,VI 0]) rfl rfl Try.underlying22 zs35 rfl rfl rfl rfl rfl rfl rfl rfl (fun b87=>?_))
 refine TV rfl rfl rfl (Val.build (cs:=[VI 0,.slice (some ⟨b87,0,none⟩) 1 1]) (is:=[1]) (xs:=[.tmp 16]) Try.underlying24 zr24 bld24 rfl rfl rfl rfl) ?_
 refine TK.sel (Ls:=[Row k37 37 (.slice A13 y11.f0.length c14) y11.f0,Blk b87 [.slice (some ⟨b17,0,none⟩) 4 4,VI 3,VI 5,VI 0,VI 0] 35,Blk b86 [.slice A13 y11.f0.length c14,VI y11.f1.f0,VI y11.f1.f1,VI y11.f1.f2,VI y11.f1.f3] 35,Blk b18 [.slice (some ⟨b17,0,none⟩) 4 4,VI 3,VI 5,VI 0,VI 0] 35,Blk b17 [VI 5,VI 0,VI 1,VI 2,VI 0,.slice none 0 0,VI 3,VI 3,VI 2,VI 0,VI 0,.slice none 0 0,VI 4,VI 4,VI 1,VI 0,VI 1,.slice none 0 0,VI 3,VI 5,VI 4,VI 0,VI 0,.slice none 0 0] 37,Blk b16 [.slice A13 y11.f0.length c14,VI y11.f1.f0,VI y11.f1.f1,VI y11.f1.f2,VI y11.f1.f3] 35]) [5,0,1,2,3,4] 6 rfl rfl rfl ?_
 refine TK.share (fun G88 e89 hs90 _=>?_)
 have rd91:Rd G88 k37 A13 y11.f0:=Rd.row hs90
 have le92:y11.f0.length ≤ c14:=Row.le hs90
 refine TK.new (Els.nil (Sh G88 k35)) ?_
 refine TK.new (El.of (k:=(Sh G88 k35)) (xv:=y11) (cs:=[.slice A13 y11.f0.length c14,VI y11.f1.f0,VI y11.f1.f1,VI y11.f1.f2,VI y11.f1.f3]) (fun W B=>Sh.mk (fun W hW=>k35_mk W y11 le92 (rd91 W hW)) W B _)) ?_
 refine TK.sel (Ls:=[Els (Sh G88 k35) [] [],El (Sh G88 k35) y11 [.slice A13 y11.f0.length c14,VI y11.f1.f0,VI y11.f1.f1,VI y11.f1.f2,VI y11.f1.f3],Blk b87 [.slice (some ⟨b17,0,none⟩) 4 4,VI 3,VI 5,VI 0,VI 0] 35,Blk b86 [.slice A13 y11.f0.length c14,VI y11.f1.f0,VI y11.f1.f1,VI y11.f1.f2,VI y11.f1.f3] 35,Blk b18 [.slice (some ⟨b17,0,none⟩) 4 4,VI 3,VI 5,VI 0,VI 0] 35,Blk b17 [VI 5,VI 0,VI 1,VI 2,VI 0,.slice none 0 0,VI 3,VI 3,VI 2,VI 0,VI 0,.slice none 0 0,VI 4,VI 4,VI 1,VI 0,VI 1,.slice none 0 0,VI 3,VI 5,VI 4,VI 0,VI 0,.slice none 0 0] 37,Blk b16 [.slice A13 y11.f0.length c14,VI y11.f1.f0,VI y11.f1.f1,VI y11.f1.f2,VI y11.f1.f3] 35]) [1,0,2,3,4,5,6] 7 rfl rfl rfl ?_
 refine TK.two (ch:=Els (Sh G88 k35) [y11] [.slice A13 y11.f0.length c14,VI y11.f1.f0,VI y11.f1.f1,VI y11.f1.f2,VI y11.f1.f3]) (Els.snoc (Sh G88 k35)) ?_
 refine TK.sel (Ls:=[Blk b86 [.slice A13 y11.f0.length c14,VI y11.f1.f0,VI y11.f1.f1,VI y11.f1.f2,VI y11.f1.f3] 35,Els (Sh G88 k35) [y11] [.slice A13 y11.f0.length c14,VI y11.f1.f0,VI y11.f1.f1,VI y11.f1.f2,VI y11.f1.f3],Blk b87 [.slice (some ⟨b17,0,none⟩) 4 4,VI 3,VI 5,VI 0,VI 0] 35,Blk b18 [.slice (some ⟨b17,0,none⟩) 4 4,VI 3,VI 5,VI 0,VI 0] 35,Blk b17 [VI 5,VI 0,VI 1,VI 2,VI 0,.slice none 0 0,VI 3,VI 3,VI 2,VI 0,VI 0,.slice none 0 0,VI 4,VI 4,VI 1,VI 0,VI 1,.slice none 0 0,VI 3,VI 5,VI 4,VI 0,VI 0,.slice none 0 0] 37,Blk b16 [.slice A13 y11.f0.length c14,VI y11.f1.f0,VI y11.f1.f1,VI y11.f1.f2,VI y11.f1.f3] 35]) [2,0,1,3,4,5] 6 rfl rfl rfl ?_
 refine TK.two (ch:=Row (Sh G88 k35) 35 (.slice (some ⟨b86,0,none⟩) 1 1) ([y11]:List S35)) (Row.lit (Sh G88 k35) rfl rfl) ?_
 refine TK.share (fun G94 e95 hs96 _=>?_)
 have rd97:Rd G94 k35 (some ⟨b86,0,none⟩) ([y11]:List S35):=Rd.unsh (Rd.row hs96) e95
 have le98:([y11]:List S35).length ≤ 1:=Row.le hs96
 refine TK.new (Els.nil k37) ?_
 refine TK.new (Row.nil kI 3) ?_
 refine TK.conv (ch':=El k37 (⟨5,0,1,2,0,([]:List Int)⟩:S37) [VI 5,VI 0,VI 1,VI 2,VI 0,.slice none 0 0]) (fun B W F hh=>k37_mkM W B F (⟨5,0,1,2,0,([]:List Int)⟩:S37) hh) ?_
 refine TK.sel (Ls:=[Els k37 [] [],El k37 (⟨5,0,1,2,0,([]:List Int)⟩:S37) [VI 5,VI 0,VI 1,VI 2,VI 0,.slice none 0 0],Blk b87 [.slice (some ⟨b17,0,none⟩) 4 4,VI 3,VI 5,VI 0,VI 0] 35,Blk b18 [.slice (some ⟨b17,0,none⟩) 4 4,VI 3,VI 5,VI 0,VI 0] 35,Blk b17 [VI 5,VI 0,VI 1,VI 2,VI 0,.slice none 0 0,VI 3,VI 3,VI 2,VI 0,VI 0,.slice none 0 0,VI 4,VI 4,VI 1,VI 0,VI 1,.slice none 0 0,VI 3,VI 5,VI 4,VI 0,VI 0,.slice none 0 0] 37,Blk b16 [.slice A13 y11.f0.length c14,VI y11.f1.f0,VI y11.f1.f1,VI y11.f1.f2,VI y11.f1.f3] 35]) [1,0,2,3,4,5] 6 rfl rfl rfl ?_
 refine TK.two (ch:=Els k37 [(⟨5,0,1,2,0,([]:List Int)⟩:S37)] [VI 5,VI 0,VI 1,VI 2,VI 0,.slice none 0 0]) (Els.snoc k37) ?_
 refine TK.new (Row.nil kI 3) ?_
 refine TK.conv (ch':=El k37 (⟨3,3,2,0,0,([]:List Int)⟩:S37) [VI 3,VI 3,VI 2,VI 0,VI 0,.slice none 0 0]) (fun B W F hh=>k37_mkM W B F (⟨3,3,2,0,0,([]:List Int)⟩:S37) hh) ?_
 refine TK.sel (Ls:=[Els k37 [(⟨5,0,1,2,0,([]:List Int)⟩:S37)] [VI 5,VI 0,VI 1,VI 2,VI 0,.slice none 0 0],El k37 (⟨3,3,2,0,0,([]:List Int)⟩:S37) [VI 3,VI 3,VI 2,VI 0,VI 0,.slice none 0 0],Blk b87 [.slice (some ⟨b17,0,none⟩) 4 4,VI 3,VI 5,VI 0,VI 0] 35,Blk b18 [.slice (some ⟨b17,0,none⟩) 4 4,VI 3,VI 5,VI 0,VI 0] 35,Blk b17 [VI 5,VI 0,VI 1,VI 2,VI 0,.slice none 0 0,VI 3,VI 3,VI 2,VI 0,VI 0,.slice none 0 0,VI 4,VI 4,VI 1,VI 0,VI 1,.slice none 0 0,VI 3,VI 5,VI 4,VI 0,VI 0,.slice none 0 0] 37,Blk b16 [.slice A13 y11.f0.length c14,VI y11.f1.f0,VI y11.f1.f1,VI y11.f1.f2,VI y11.f1.f3] 35]) [1,0,2,3,4,5] 6 rfl rfl rfl ?_
 refine TK.two (ch:=Els k37 [(⟨5,0,1,2,0,([]:List Int)⟩:S37),(⟨3,3,2,0,0,([]:List Int)⟩:S37)] [VI 5,VI 0,VI 1,VI 2,VI 0,.slice none 0 0,VI 3,VI 3,VI 2,VI 0,VI 0,.slice none 0 0]) (Els.snoc k37) ?_
 refine TK.new (Row.nil kI 3) ?_
 refine TK.conv (ch':=El k37 (⟨4,4,1,0,1,([]:List Int)⟩:S37) [VI 4,VI 4,VI 1,VI 0,VI 1,.slice none 0 0]) (fun B W F hh=>k37_mkM W B F (⟨4,4,1,0,1,([]:List Int)⟩:S37) hh) ?_
 refine TK.sel (Ls:=[Els k37 [(⟨5,0,1,2,0,([]:List Int)⟩:S37),(⟨3,3,2,0,0,([]:List Int)⟩:S37)] [VI 5,VI 0,VI 1,VI 2,VI 0,.slice none 0 0,VI 3,VI 3,VI 2,VI 0,VI 0,.slice none 0 0],El k37 (⟨4,4,1,0,1,([]:List Int)⟩:S37) [VI 4,VI 4,VI 1,VI 0,VI 1,.slice none 0 0],Blk b87 [.slice (some ⟨b17,0,none⟩) 4 4,VI 3,VI 5,VI 0,VI 0] 35,Blk b18 [.slice (some ⟨b17,0,none⟩) 4 4,VI 3,VI 5,VI 0,VI 0] 35,Blk b17 [VI 5,VI 0,VI 1,VI 2,VI 0,.slice none 0 0,VI 3,VI 3,VI 2,VI 0,VI 0,.slice none 0 0,VI 4,VI 4,VI 1,VI 0,VI 1,.slice none 0 0,VI 3,VI 5,VI 4,VI 0,VI 0,.slice none 0 0] 37,Blk b16 [.slice A13 y11.f0.length c14,VI y11.f1.f0,VI y11.f1.f1,VI y11.f1.f2,VI y11.f1.f3] 35]) [1,0,2,3,4,5] 6 rfl rfl rfl ?_
 refine TK.two (ch:=Els k37 [(⟨5,0,1,2,0,([]:List Int)⟩:S37),(⟨3,3,2,0,0,([]:List Int)⟩:S37),(⟨4,4,1,0,1,([]:List Int)⟩:S37)] [VI 5,VI 0,VI 1,VI 2,VI 0,.slice none 0 0,VI 3,VI 3,VI 2,VI 0,VI 0,.slice none 0 0,VI 4,VI 4,VI 1,VI 0,VI 1,.slice none 0 0]) (Els.snoc k37) ?_
 refine TK.new (Row.nil kI 3) ?_
 refine TK.conv (ch':=El k37 (⟨3,5,4,0,0,([]:List Int)⟩:S37) [VI 3,VI 5,VI 4,VI 0,VI 0,.slice none 0 0]) (fun B W F hh=>k37_mkM W B F (⟨3,5,4,0,0,([]:List Int)⟩:S37) hh) ?_
 refine TK.sel (Ls:=[Els k37 [(⟨5,0,1,2,0,([]:List Int)⟩:S37),(⟨3,3,2,0,0,([]:List Int)⟩:S37),(⟨4,4,1,0,1,([]:List Int)⟩:S37)] [VI 5,VI 0,VI 1,VI 2,VI 0,.slice none 0 0,VI 3,VI 3,VI 2,VI 0,VI 0,.slice none 0 0,VI 4,VI 4,VI 1,VI 0,VI 1,.slice none 0 0],El k37 (⟨3,5,4,0,0,([]:List Int)⟩:S37) [VI 3,VI 5,VI 4,VI 0,VI 0,.slice none 0 0],Blk b87 [.slice (some ⟨b17,0,none⟩) 4 4,VI 3,VI 5,VI 0,VI 0] 35,Blk b18 [.slice (some ⟨b17,0,none⟩) 4 4,VI 3,VI 5,VI 0,VI 0] 35,Blk b17 [VI 5,VI 0,VI 1,VI 2,VI 0,.slice none 0 0,VI 3,VI 3,VI 2,VI 0,VI 0,.slice none 0 0,VI 4,VI 4,VI 1,VI 0,VI 1,.slice none 0 0,VI 3,VI 5,VI 4,VI 0,VI 0,.slice none 0 0] 37,Blk b16 [.slice A13 y11.f0.length c14,VI y11.f1.f0,VI y11.f1.f1,VI y11.f1.f2,VI y11.f1.f3] 35]) [1,0,2,3,4,5] 6 rfl rfl rfl ?_
 refine TK.two (ch:=Els k37 [(⟨5,0,1,2,0,([]:List Int)⟩:S37),(⟨3,3,2,0,0,([]:List Int)⟩:S37),(⟨4,4,1,0,1,([]:List Int)⟩:S37),(⟨3,5,4,0,0,([]:List Int)⟩:S37)] [VI 5,VI 0,VI 1,VI 2,VI 0,.slice none 0 0,VI 3,VI 3,VI 2,VI 0,VI 0,.slice none 0 0,VI 4,VI 4,VI 1,VI 0,VI 1,.slice none 0 0,VI 3,VI 5,VI 4,VI 0,VI 0,.slice none 0 0]) (Els.snoc k37) ?_
 refine TK.sel (Ls:=[Blk b17 [VI 5,VI 0,VI 1,VI 2,VI 0,.slice none 0 0,VI 3,VI 3,VI 2,VI 0,VI 0,.slice none 0 0,VI 4,VI 4,VI 1,VI 0,VI 1,.slice none 0 0,VI 3,VI 5,VI 4,VI 0,VI 0,.slice none 0 0] 37,Els k37 [(⟨5,0,1,2,0,([]:List Int)⟩:S37),(⟨3,3,2,0,0,([]:List Int)⟩:S37),(⟨4,4,1,0,1,([]:List Int)⟩:S37),(⟨3,5,4,0,0,([]:List Int)⟩:S37)] [VI 5,VI 0,VI 1,VI 2,VI 0,.slice none 0 0,VI 3,VI 3,VI 2,VI 0,VI 0,.slice none 0 0,VI 4,VI 4,VI 1,VI 0,VI 1,.slice none 0 0,VI 3,VI 5,VI 4,VI 0,VI 0,.slice none 0 0],Blk b87 [.slice (some ⟨b17,0,none⟩) 4 4,VI 3,VI 5,VI 0,VI 0] 35,Blk b18 [.slice (some ⟨b17,0,none⟩) 4 4,VI 3,VI 5,VI 0,VI 0] 35,Blk b16 [.slice A13 y11.f0.length c14,VI y11.f1.f0,VI y11.f1.f1,VI y11.f1.f2,VI y11.f1.f3] 35]) [3,0,1,2,4] 5 rfl rfl rfl ?_
 refine TK.two (ch:=Row k37 37 (.slice (some ⟨b17,0,none⟩) 4 4) ([(⟨5,0,1,2,0,([]:List Int)⟩:S37),(⟨3,3,2,0,0,([]:List Int)⟩:S37),(⟨4,4,1,0,1,([]:List Int)⟩:S37),(⟨3,5,4,0,0,([]:List Int)⟩:S37)]:List S37)) (Row.lit k37 rfl rfl) ?_
 refine TK.share (fun G104 e105 hs106 _=>?_)
 have rd107:Rd G104 k37 (some ⟨b17,0,none⟩) ([(⟨5,0,1,2,0,([]:List Int)⟩:S37),(⟨3,3,2,0,0,([]:List Int)⟩:S37),(⟨4,4,1,0,1,([]:List Int)⟩:S37),(⟨3,5,4,0,0,([]:List Int)⟩:S37)]:List S37):=Rd.row hs106
 have le108:([(⟨5,0,1,2,0,([]:List Int)⟩:S37),(⟨3,3,2,0,0,([]:List Int)⟩:S37),(⟨4,4,1,0,1,([]:List Int)⟩:S37),(⟨3,5,4,0,0,([]:List Int)⟩:S37)]:List S37).length ≤ 4:=Row.le hs106
 refine TK.new (Els.nil (Sh G104 k35)) ?_
 refine TK.new (El.of (k:=(Sh G104 k35)) (xv:=(⟨([(⟨5,0,1,2,0,([]:List Int)⟩:S37),(⟨3,3,2,0,0,([]:List Int)⟩:S37),(⟨4,4,1,0,1,([]:List Int)⟩:S37),(⟨3,5,4,0,0,([]:List Int)⟩:S37)]:List S37),(⟨3,5,0,0⟩:S33)⟩:S35)) (cs:=[.slice (some ⟨b17,0,none⟩) 4 4,VI 3,VI 5,VI 0,VI 0]) (fun W B=>Sh.mk (fun W hW=>k35_mk W (⟨([(⟨5,0,1,2,0,([]:List Int)⟩:S37),(⟨3,3,2,0,0,([]:List Int)⟩:S37),(⟨4,4,1,0,1,([]:List Int)⟩:S37),(⟨3,5,4,0,0,([]:List Int)⟩:S37)]:List S37),(⟨3,5,0,0⟩:S33)⟩:S35) le108 (rd107 W hW)) W B _)) ?_
 refine TK.sel (Ls:=[Els (Sh G104 k35) [] [],El (Sh G104 k35) (⟨([(⟨5,0,1,2,0,([]:List Int)⟩:S37),(⟨3,3,2,0,0,([]:List Int)⟩:S37),(⟨4,4,1,0,1,([]:List Int)⟩:S37),(⟨3,5,4,0,0,([]:List Int)⟩:S37)]:List S37),(⟨3,5,0,0⟩:S33)⟩:S35) [.slice (some ⟨b17,0,none⟩) 4 4,VI 3,VI 5,VI 0,VI 0],Blk b87 [.slice (some ⟨b17,0,none⟩) 4 4,VI 3,VI 5,VI 0,VI 0] 35,Blk b18 [.slice (some ⟨b17,0,none⟩) 4 4,VI 3,VI 5,VI 0,VI 0] 35,Blk b16 [.slice A13 y11.f0.length c14,VI y11.f1.f0,VI y11.f1.f1,VI y11.f1.f2,VI y11.f1.f3] 35]) [1,0,2,3,4] 5 rfl rfl rfl ?_
 refine TK.two (ch:=Els (Sh G104 k35) [(⟨([(⟨5,0,1,2,0,([]:List Int)⟩:S37),(⟨3,3,2,0,0,([]:List Int)⟩:S37),(⟨4,4,1,0,1,([]:List Int)⟩:S37),(⟨3,5,4,0,0,([]:List Int)⟩:S37)]:List S37),(⟨3,5,0,0⟩:S33)⟩:S35)] [.slice (some ⟨b17,0,none⟩) 4 4,VI 3,VI 5,VI 0,VI 0]) (Els.snoc (Sh G104 k35)) ?_
 refine TK.sel (Ls:=[Blk b87 [.slice (some ⟨b17,0,none⟩) 4 4,VI 3,VI 5,VI 0,VI 0] 35,Els (Sh G104 k35) [(⟨([(⟨5,0,1,2,0,([]:List Int)⟩:S37),(⟨3,3,2,0,0,([]:List Int)⟩:S37),(⟨4,4,1,0,1,([]:List Int)⟩:S37),(⟨3,5,4,0,0,([]:List Int)⟩:S37)]:List S37),(⟨3,5,0,0⟩:S33)⟩:S35)] [.slice (some ⟨b17,0,none⟩) 4 4,VI 3,VI 5,VI 0,VI 0],Blk b18 [.slice (some ⟨b17,0,none⟩) 4 4,VI 3,VI 5,VI 0,VI 0] 35,Blk b16 [.slice A13 y11.f0.length c14,VI y11.f1.f0,VI y11.f1.f1,VI y11.f1.f2,VI y11.f1.f3] 35]) [1,0,2,3] 4 rfl rfl rfl ?_
 refine TK.two (ch:=Row (Sh G104 k35) 35 (.slice (some ⟨b87,0,none⟩) 1 1) ([(⟨([(⟨5,0,1,2,0,([]:List Int)⟩:S37),(⟨3,3,2,0,0,([]:List Int)⟩:S37),(⟨4,4,1,0,1,([]:List Int)⟩:S37),(⟨3,5,4,0,0,([]:List Int)⟩:S37)]:List S37),(⟨3,5,0,0⟩:S33)⟩:S35)]:List S35)) (Row.lit (Sh G104 k35) rfl rfl) ?_
 refine TK.share (fun G110 e111 hs112 _=>?_)
 have rd113:Rd G110 k35 (some ⟨b87,0,none⟩) ([(⟨([(⟨5,0,1,2,0,([]:List Int)⟩:S37),(⟨3,3,2,0,0,([]:List Int)⟩:S37),(⟨4,4,1,0,1,([]:List Int)⟩:S37),(⟨3,5,4,0,0,([]:List Int)⟩:S37)]:List S37),(⟨3,5,0,0⟩:S33)⟩:S35)]:List S35):=Rd.unsh (Rd.row hs112) e111
 have le114:([(⟨([(⟨5,0,1,2,0,([]:List Int)⟩:S37),(⟨3,3,2,0,0,([]:List Int)⟩:S37),(⟨4,4,1,0,1,([]:List Int)⟩:S37),(⟨3,5,4,0,0,([]:List Int)⟩:S37)]:List S37),(⟨3,5,0,0⟩:S33)⟩:S35)]:List S35).length ≤ 1:=Row.le hs112
 obtain ⟨y115,hy116,h⟩:=bind_no h
 refine TL.cons (TL.callV (Lin:=[]) (args:=[.agg #[VI 0,.slice (some ⟨b86,0,none⟩) 1 1],.agg #[VI 0,.slice (some ⟨b87,0,none⟩) 1 1]]) rfl rfl rfl hbd12 rfl rfl (swageref14_Same.calls (a0:=(⟨0,([y11]:List S35)⟩:S24)) (a1:=(⟨0,([(⟨([(⟨5,0,1,2,0,([]:List Int)⟩:S37),(⟨3,3,2,0,0,([]:List Int)⟩:S37),(⟨4,4,1,0,1,([]:List Int)⟩:S37),(⟨3,5,4,0,0,([]:List Int)⟩:S37)]:List S37),(⟨3,5,0,0⟩:S33)⟩:S35)]:List S35)⟩:S24)) (rd97.up (Gd.le.trans e105 e111)) le98 rd113 le114 hy116) rfl ?_)
 rintro _ _ _ _ ⟨rfl,rfl,rfl⟩
 refine TV rfl rfl rfl (Val.move rfl) ?_
 refine TK.split (p:=y115=true) h (fun hg117 h=>?_) (fun hg117 h=>?_)
 ·
  have hk118:y115=true:=hg117
  refine TV (Wt.yes rfl rfl rfl hk118) rfl rfl (Val.loadsB 1 (cs:=[.slice A13 y11.f0.length c14,VI y11.f1.f0,VI y11.f1.f1,VI y11.f1.f2,VI y11.f1.f3]) agg35 fsz35 rfl rfl rfl rfl) ?_
  refine TL.cons (TL.buildSlice (xs:=[.tmp 20]) (vs:=[.agg #[.slice A13 y11.f0.length c14,VI y11.f1.f0,VI y11.f1.f1,VI y11.f1.f2,VI y11.f1.f3]]) (cs:=[.slice A13 y11.f0.length c14,VI y11.f1.f0,VI y11.f1.f1,VI y11.f1.f2,VI y11.f1.f3]) (Wt.yes rfl rfl rfl hk118) rfl Try.underlying22 zs35 rfl rfl rfl rfl rfl rfl rfl rfl (fun b119=>?_))
  refine TV (Wt.yes rfl rfl rfl hk118) rfl rfl (Val.build (cs:=[VI 0,.slice (some ⟨b119,0,none⟩) 1 1]) (is:=[1]) (xs:=[.tmp 21]) Try.underlying24 zr24 bld24 rfl rfl rfl rfl) ?_
  refine TK.new (Els.nil (Sh G110 k35)) ?_
  refine TK.new (El.of (k:=(Sh G110 k35)) (xv:=y11) (cs:=[.slice A13 y11.f0.length c14,VI y11.f1.f0,VI y11.f1.f1,VI y11.f1.f2,VI y11.f1.f3]) (fun W B=>Sh.mk (fun W hW=>k35_mk W y11 le92 ((rd91.up (Gd.le.trans (Gd.le.trans e95 e105) e111)) W hW)) W B _)) ?_
  refine TK.sel (Ls:=[Els (Sh G110 k35) [] [],El (Sh G110 k35) y11 [.slice A13 y11.f0.length c14,VI y11.f1.f0,VI y11.f1.f1,VI y11.f1.f2,VI y11.f1.f3],Blk b119 [.slice A13 y11.f0.length c14,VI y11.f1.f0,VI y11.f1.f1,VI y11.f1.f2,VI y11.f1.f3] 35,Blk b18 [.slice (some ⟨b17,0,none⟩) 4 4,VI 3,VI 5,VI 0,VI 0] 35,Blk b16 [.slice A13 y11.f0.length c14,VI y11.f1.f0,VI y11.f1.f1,VI y11.f1.f2,VI y11.f1.f3] 35]) [1,0,2,3,4] 5 rfl rfl rfl ?_
  refine TK.two (ch:=Els (Sh G110 k35) [y11] [.slice A13 y11.f0.length c14,VI y11.f1.f0,VI y11.f1.f1,VI y11.f1.f2,VI y11.f1.f3]) (Els.snoc (Sh G110 k35)) ?_
  refine TK.sel (Ls:=[Blk b119 [.slice A13 y11.f0.length c14,VI y11.f1.f0,VI y11.f1.f1,VI y11.f1.f2,VI y11.f1.f3] 35,Els (Sh G110 k35) [y11] [.slice A13 y11.f0.length c14,VI y11.f1.f0,VI y11.f1.f1,VI y11.f1.f2,VI y11.f1.f3],Blk b18 [.slice (some ⟨b17,0,none⟩) 4 4,VI 3,VI 5,VI 0,VI 0] 35,Blk b16 [.slice A13 y11.f0.length c14,VI y11.f1.f0,VI y11.f1.f1,VI y11.f1.f2,VI y11.f1.f3] 35]) [1,0,2,3] 4 rfl rfl rfl ?_
  refine TK.two (ch:=Row (Sh G110 k35) 35 (.slice (some ⟨b119,0,none⟩) 1 1) ([y11]:List S35)) (Row.lit (Sh G110 k35) rfl rfl) ?_
  refine TK.share (fun G121 e122 hs123 _=>?_)
  have rd124:Rd G121 k35 (some ⟨b119,0,none⟩) ([y11]:List S35):=Rd.unsh (Rd.row hs123) e122
  have le125:([y11]:List S35).length ≤ 1:=Row.le hs123
  obtain ⟨y126,hy127,h⟩:=bind_no h
  refine TL.cons (TL.callV (Lin:=[]) (args:=[.agg #[VI 0,.slice (some ⟨b119,0,none⟩) 1 1]]) (Wt.yes rfl rfl rfl hk118) rfl rfl hbd8 rfl rfl (forward_Loads.calls (a0:=(⟨0,([y11]:List S35)⟩:S24)) rd124 le125 hy127) rfl ?_)
  rintro _ _ _ _ ⟨rfl,rfl,rfl⟩
  refine TV (Wt.yes rfl rfl rfl hk118) rfl rfl (Val.cmp rfl rfl run_eql) ?_
  refine TV rfl rfl rfl (Val.pickY rfl hk118 rfl) ?_
  refine TV rfl rfl rfl (Val.move rfl) ?_
  refine TK.split (p:=y126=1) h (fun hg128 h=>?_) (fun hg128 h=>?_)
  ·
   have hk129:decide (y126=1)=true:=decide_eq_true hg128
   refine TL.cons (TL.buildSlice (xs:=[.const (VI 0),.const (VI 1),.const (VI 2)]) (vs:=[VI 0,VI 1,VI 2]) (cs:=[VI 0,VI 1,VI 2]) (Wt.yes rfl rfl rfl hk129) rfl Try.underlying25 zs3 rfl rfl rfl rfl rfl rfl rfl rfl (fun b130=>?_))
   refine TK.new (Els.nil kI) ?_
   refine TK.new (El.of (k:=kI) (xv:=0) (cs:=[VI 0]) (fun W B=>rfl)) ?_
   refine TK.sel (Ls:=[Els kI [] [],El kI 0 [VI 0],Blk b130 [VI 0,VI 1,VI 2] 3,Blk b18 [.slice (some ⟨b17,0,none⟩) 4 4,VI 3,VI 5,VI 0,VI 0] 35,Blk b16 [.slice A13 y11.f0.length c14,VI y11.f1.f0,VI y11.f1.f1,VI y11.f1.f2,VI y11.f1.f3] 35]) [1,0,2,3,4] 5 rfl rfl rfl ?_
   refine TK.two (ch:=Els kI [0] [VI 0]) (Els.snoc kI) ?_
   refine TK.new (El.of (k:=kI) (xv:=1) (cs:=[VI 1]) (fun W B=>rfl)) ?_
   refine TK.sel (Ls:=[Els kI [0] [VI 0],El kI 1 [VI 1],Blk b130 [VI 0,VI 1,VI 2] 3,Blk b18 [.slice (some ⟨b17,0,none⟩) 4 4,VI 3,VI 5,VI 0,VI 0] 35,Blk b16 [.slice A13 y11.f0.length c14,VI y11.f1.f0,VI y11.f1.f1,VI y11.f1.f2,VI y11.f1.f3] 35]) [1,0,2,3,4] 5 rfl rfl rfl ?_
   refine TK.two (ch:=Els kI [0,1] [VI 0,VI 1]) (Els.snoc kI) ?_
   refine TK.new (El.of (k:=kI) (xv:=2) (cs:=[VI 2]) (fun W B=>rfl)) ?_
   refine TK.sel (Ls:=[Els kI [0,1] [VI 0,VI 1],El kI 2 [VI 2],Blk b130 [VI 0,VI 1,VI 2] 3,Blk b18 [.slice (some ⟨b17,0,none⟩) 4 4,VI 3,VI 5,VI 0,VI 0] 35,Blk b16 [.slice A13 y11.f0.length c14,VI y11.f1.f0,VI y11.f1.f1,VI y11.f1.f2,VI y11.f1.f3] 35]) [1,0,2,3,4] 5 rfl rfl rfl ?_
   refine TK.two (ch:=Els kI [0,1,2] [VI 0,VI 1,VI 2]) (Els.snoc kI) ?_
   refine TK.sel (Ls:=[Blk b130 [VI 0,VI 1,VI 2] 3,Els kI [0,1,2] [VI 0,VI 1,VI 2],Blk b18 [.slice (some ⟨b17,0,none⟩) 4 4,VI 3,VI 5,VI 0,VI 0] 35,Blk b16 [.slice A13 y11.f0.length c14,VI y11.f1.f0,VI y11.f1.f1,VI y11.f1.f2,VI y11.f1.f3] 35]) [1,0,2,3] 4 rfl rfl rfl ?_
   refine TK.two (ch:=Row kI 3 (.slice (some ⟨b130,0,none⟩) 3 3) ([0,1,2]:List Int)) (Row.lit kI rfl rfl) ?_
   refine TK.share (fun G132 e133 hs134 _=>?_)
   have rd135:Rd G132 kI (some ⟨b130,0,none⟩) ([0,1,2]:List Int):=Rd.row hs134
   have le136:([0,1,2]:List Int).length ≤ 3:=Row.le hs134
   obtain ⟨y137,hy138,h⟩:=bind_no h
   refine TL.cons (TL.callV (Lin:=[]) (args:=[.slice (some ⟨b130,0,none⟩) 3 3,VI 1,VI 2]) (Wt.yes rfl rfl rfl hk129) rfl rfl hbd13 rfl rfl (forward_Apart.calls (a0:=([0,1,2]:List Int)) (a1:=1) (a2:=2) rd135 le136 hy138) rfl ?_)
   rintro _ _ _ _ ⟨rfl,rfl,rfl⟩
   refine TV rfl rfl rfl (Val.pickY rfl hk129 rfl) ?_
   refine TV rfl rfl rfl (Val.move rfl) ?_
   refine TK.split (p:=y137=true) h (fun hg139 h=>?_) (fun hg139 h=>?_)
   ·
    have hk140:y137=true:=hg139
    refine TL.cons (TL.buildSlice (xs:=[.const (VI 0),.const (VI 1),.const (VI 0)]) (vs:=[VI 0,VI 1,VI 0]) (cs:=[VI 0,VI 1,VI 0]) (Wt.yes rfl rfl rfl hk140) rfl Try.underlying25 zs3 rfl rfl rfl rfl rfl rfl rfl rfl (fun b141=>?_))
    refine TK.new (Els.nil kI) ?_
    refine TK.new (El.of (k:=kI) (xv:=0) (cs:=[VI 0]) (fun W B=>rfl)) ?_
    refine TK.sel (Ls:=[Els kI [] [],El kI 0 [VI 0],Blk b141 [VI 0,VI 1,VI 0] 3,Blk b18 [.slice (some ⟨b17,0,none⟩) 4 4,VI 3,VI 5,VI 0,VI 0] 35,Blk b16 [.slice A13 y11.f0.length c14,VI y11.f1.f0,VI y11.f1.f1,VI y11.f1.f2,VI y11.f1.f3] 35]) [1,0,2,3,4] 5 rfl rfl rfl ?_
    refine TK.two (ch:=Els kI [0] [VI 0]) (Els.snoc kI) ?_
    refine TK.new (El.of (k:=kI) (xv:=1) (cs:=[VI 1]) (fun W B=>rfl)) ?_
    refine TK.sel (Ls:=[Els kI [0] [VI 0],El kI 1 [VI 1],Blk b141 [VI 0,VI 1,VI 0] 3,Blk b18 [.slice (some ⟨b17,0,none⟩) 4 4,VI 3,VI 5,VI 0,VI 0] 35,Blk b16 [.slice A13 y11.f0.length c14,VI y11.f1.f0,VI y11.f1.f1,VI y11.f1.f2,VI y11.f1.f3] 35]) [1,0,2,3,4] 5 rfl rfl rfl ?_
    refine TK.two (ch:=Els kI [0,1] [VI 0,VI 1]) (Els.snoc kI) ?_
    refine TK.new (El.of (k:=kI) (xv:=0) (cs:=[VI 0]) (fun W B=>rfl)) ?_
    refine TK.sel (Ls:=[Els kI [0,1] [VI 0,VI 1],El kI 0 [VI 0],Blk b141 [VI 0,VI 1,VI 0] 3,Blk b18 [.slice (some ⟨b17,0,none⟩) 4 4,VI 3,VI 5,VI 0,VI 0] 35,Blk b16 [.slice A13 y11.f0.length c14,VI y11.f1.f0,VI y11.f1.f1,VI y11.f1.f2,VI y11.f1.f3] 35]) [1,0,2,3,4] 5 rfl rfl rfl ?_
    refine TK.two (ch:=Els kI [0,1,0] [VI 0,VI 1,VI 0]) (Els.snoc kI) ?_
    refine TK.sel (Ls:=[Blk b141 [VI 0,VI 1,VI 0] 3,Els kI [0,1,0] [VI 0,VI 1,VI 0],Blk b18 [.slice (some ⟨b17,0,none⟩) 4 4,VI 3,VI 5,VI 0,VI 0] 35,Blk b16 [.slice A13 y11.f0.length c14,VI y11.f1.f0,VI y11.f1.f1,VI y11.f1.f2,VI y11.f1.f3] 35]) [1,0,2,3] 4 rfl rfl rfl ?_
    refine TK.two (ch:=Row kI 3 (.slice (some ⟨b141,0,none⟩) 3 3) ([0,1,0]:List Int)) (Row.lit kI rfl rfl) ?_
    refine TK.share (fun G143 e144 hs145 _=>?_)
    have rd146:Rd G143 kI (some ⟨b141,0,none⟩) ([0,1,0]:List Int):=Rd.row hs145
    have le147:([0,1,0]:List Int).length ≤ 3:=Row.le hs145
    obtain ⟨y148,hy149,h⟩:=bind_no h
    refine TL.cons (TL.callV (Lin:=[]) (args:=[.slice (some ⟨b141,0,none⟩) 3 3,VI 1,VI 2]) (Wt.yes rfl rfl rfl hk140) rfl rfl hbd13 rfl rfl (forward_Apart.calls (a0:=([0,1,0]:List Int)) (a1:=1) (a2:=2) rd146 le147 hy149) rfl ?_)
    rintro _ _ _ _ ⟨rfl,rfl,rfl⟩
    refine TV (Wt.yes rfl rfl rfl hk140) rfl rfl (Val.not_ rfl) ?_
    refine TV rfl rfl rfl (Val.pickY rfl hk140 rfl) ?_
    refine TV rfl rfl rfl (Val.assign rfl) ?_
    refine TL.nil ?_
    refine TQ.then_ ?_
    refine TC.ret ?_
    obtain rfl:=Option.some.inj h
    exact TQ.fin (.inl rfl) rfl Try.results4 (.tmp rfl .nil) rfl (FRel.mk (Ls:=[]) [] 2 (Gd.le.trans (Gd.le.trans (Gd.le.trans (Gd.le.trans (Gd.le.trans (Gd.le.trans (Gd.le.trans e7 e89) e95) e105) e111) e122) e133) e144) rfl rfl rfl ⟨rfl,rfl⟩)
   ·
    have hk150:y137=false:=(by simpa using hg139)
    refine TL.cons (TL.not (Wt.no rfl rfl rfl hk150) rfl ?_)
    refine TL.cons (TL.not (Wt.no rfl rfl rfl hk150) rfl ?_)
    refine TL.cons (TL.not (Wt.no rfl rfl rfl hk150) rfl ?_)
    refine TV rfl rfl rfl (Val.pickN rfl hk150 rfl) ?_
    refine TV rfl rfl rfl (Val.assign rfl) ?_
    refine TL.nil ?_
    refine TQ.then_ ?_
    refine TC.ret ?_
    obtain rfl:=Option.some.inj h
    exact TQ.fin (.inl rfl) rfl Try.results4 (.tmp rfl .nil) rfl (FRel.mk (Ls:=[]) [] 2 (Gd.le.trans (Gd.le.trans (Gd.le.trans (Gd.le.trans (Gd.le.trans (Gd.le.trans e7 e89) e95) e105) e111) e122) e133) rfl rfl rfl ⟨rfl,rfl⟩)
  ·
   have hk151:decide (y126=1)=false:=decide_eq_false hg128
   refine TL.cons (TL.not (Wt.no rfl rfl rfl hk151) rfl ?_)
   refine TL.cons (TL.not (Wt.no rfl rfl rfl hk151) rfl ?_)
   refine TV rfl rfl rfl (Val.pickN rfl hk151 rfl) ?_
   refine TV rfl rfl rfl (Val.move rfl) ?_
   refine TL.cons (TL.not (Wt.no rfl rfl rfl rfl) rfl ?_)
   refine TL.cons (TL.not (Wt.no rfl rfl rfl rfl) rfl ?_)
   refine TL.cons (TL.not (Wt.no rfl rfl rfl rfl) rfl ?_)
   refine TV rfl rfl rfl (Val.pickN rfl rfl rfl) ?_
   refine TV rfl rfl rfl (Val.assign rfl) ?_
   refine TL.nil ?_
   refine TQ.then_ ?_
   refine TC.ret ?_
   obtain rfl:=Option.some.inj h
   exact TQ.fin (.inl rfl) rfl Try.results4 (.tmp rfl .nil) rfl (FRel.mk (Ls:=[]) [] 2 (Gd.le.trans (Gd.le.trans (Gd.le.trans (Gd.le.trans (Gd.le.trans e7 e89) e95) e105) e111) e122) rfl rfl rfl ⟨rfl,rfl⟩)
 ·
  have hk152:y115=false:=(by simpa using hg117)
  refine TL.cons (TL.not (Wt.no rfl rfl rfl hk152) rfl ?_)
  refine TL.cons (TL.not (Wt.no rfl rfl rfl hk152) rfl ?_)
  refine TL.cons (TL.not (Wt.no rfl rfl rfl hk152) rfl ?_)
  refine TL.cons (TL.not (Wt.no rfl rfl rfl hk152) rfl ?_)
  refine TL.cons (TL.not (Wt.no rfl rfl rfl hk152) rfl ?_)
  refine TV rfl rfl rfl (Val.pickN rfl hk152 rfl) ?_
  refine TV rfl rfl rfl (Val.move rfl) ?_
  refine TL.cons (TL.not (Wt.no rfl rfl rfl rfl) rfl ?_)
  refine TL.cons (TL.not (Wt.no rfl rfl rfl rfl) rfl ?_)
  refine TV rfl rfl rfl (Val.pickN rfl rfl rfl) ?_
  refine TV rfl rfl rfl (Val.move rfl) ?_
  refine TL.cons (TL.not (Wt.no rfl rfl rfl rfl) rfl ?_)
  refine TL.cons (TL.not (Wt.no rfl rfl rfl rfl) rfl ?_)
  refine TL.cons (TL.not (Wt.no rfl rfl rfl rfl) rfl ?_)
  refine TV rfl rfl rfl (Val.pickN rfl rfl rfl) ?_
  refine TV rfl rfl rfl (Val.assign rfl) ?_
  refine TL.nil ?_
  refine TQ.then_ ?_
  refine TC.ret ?_
  obtain rfl:=Option.some.inj h
  exact TQ.fin (.inl rfl) rfl Try.results4 (.tmp rfl .nil) rfl (FRel.mk (Ls:=[]) [] 2 (Gd.le.trans (Gd.le.trans (Gd.le.trans (Gd.le.trans e7 e89) e95) e105) e111) rfl rfl rfl ⟨rfl,rfl⟩)
def slices_Clone_api_Block_api_Block.f (a0:(List S35)):Option (List S35):=(if ([]:List S35).length + a0.length ≤ 2513169434916 then some (([]:List S35) ++ a0) else none)
def slices_Clone_api_Block_api_Block.post (G:Gd)  (r:(List S35)) (v:Value) (G':Gd) (Lr:List Ch):Prop:=G=G'∧∃ (A_1:Option Addr) (c_1:Nat),v=.slice A_1 r.length c_1∧Lr=[Row (Sh G k35) 35 (.slice A_1 r.length c_1) r]
theorem slices_Clone_api_Block_api_Block.calls {G:Gd} {r:(List S35)} {a0:(List S35)} {A1:Option Addr} {c2:Nat} (hr3:Rd G k35 A1 a0) (hl4:a0.length ≤ c2) (h:slices_Clone_api_Block_api_Block.f a0=some r):Fn Try.prog 20 G [] [.slice A1 a0.length c2] (slices_Clone_api_Block_api_Block.post G  r):=by
 refine Fn.intro (e:=[(0,.slice A1 a0.length c2)]) 8 Try.func20 rfl Try.ntmps20 rfl rfl (Nat.le_of_ble_eq_true rfl) (fun L=>?_)
 unfold slices_Clone_api_Block_api_Block.f at h
 refine TC.seq ?_
 refine TC.region ?_
 refine TV rfl rfl rfl (Val.assign rfl) ?_
 refine TL.nil ?_
 refine TQ.then_ ?_
 refine TC.seq ?_
 refine TC.seq ?_
 refine TC.region ?_
 refine TV rfl rfl rfl (Val.move rfl) ?_
 refine TV rfl rfl rfl (Val.eqNil Try.underlying22 rfl) ?_
 refine TL.nil ?_
 refine TQ.then_ ?_
 refine TC.cond rfl (fun hc6=>?_) (fun hc6=>?_)
 ·
  have hn:=Rd.nilEq hr3 hc6
  have h:some ([]:List S35)=some r:=by first | (simpa [hn] using h) | (simp [hn] at h; simp [h,hn])
  refine TC.seq ?_
  refine TC.region ?_
  refine TV rfl rfl rfl (Val.assign rfl) ?_
  refine TL.nil ?_
  refine TQ.then_ ?_
  refine TC.ret ?_
  refine TQ.thenR ?_
  refine TQ.nilRow (Sh G k35) 35 ?_
  obtain rfl:=Option.some.inj h
  exact TQ.fin (.inl rfl) rfl Try.results20 (.tmp rfl .nil) rfl (FRel.mk (Ls:=[Row (Sh G k35) 35 (.slice none 0 0) ([]:List S35)]) [0] 1 (Gd.le.refl _) rfl rfl rfl ⟨rfl,none,0,rfl,rfl⟩)
 ·
  refine TC.skip ?_
  refine TQ.then_ ?_
  refine TC.seq ?_
  refine TC.region ?_
  refine TL.cons (TL.buildSlice0 k35 rfl rfl Try.underlying22 zs35 (fun b8=>?_))
  refine TV rfl rfl rfl (Val.move rfl) ?_
  refine TK.conv (ch':=Row (Sh G k35) 35 (.slice (some ⟨b8,0,none⟩) 0 0) ([]:List S35)) (fun B W F hh=>Row.empty k35 (Sh G k35) rfl B W F hh) ?_
  obtain ⟨ha10,h⟩:=ite_no h
  refine TL.cons (TL.appendR (xs:=([]:List S35)) (ys:=a0) (Sh G k35) (Sh G k35) rfl rfl Try.underlying22 inf35 rfl (Nat.le_of_ble_eq_true rfl) (Nat.le_of_ble_eq_true rfl) rfl rfl (by omega) (Rd.sh hr3) rfl (fun _ _ _ _ _ h=>h) (fun A11 c12=>?_))
  refine TV rfl rfl rfl (Val.assign rfl) ?_
  refine TL.nil ?_
  refine TQ.then_ ?_
  refine TC.ret ?_
  obtain rfl:=Option.some.inj h
  exact TQ.fin (.inl rfl) rfl Try.results20 (.tmp rfl .nil) rfl (FRel.mk (Ls:=[Row (Sh G k35) 35 (.slice A11 (([]:List S35) ++ a0).length c12) (([]:List S35) ++ a0)]) [0] 1 (Gd.le.refl _) rfl rfl rfl ⟨rfl,A11,c12,rfl,rfl⟩)
def forward_Func.l0 (a1:(List Int)) (y11:(List S35)):Nat → (List S35) → Int → Option ((List S35))
 | 0,_,_=>none
 | n542 + 1,l439,x444=>(if x444 < (y11.length:Int) then (at? l439 x444).bind fun y689=>(forward_Block.f y689 a1).bind fun (y715:S35)=>(at? l439 x444).bind fun y720=>forward_Func.l0 a1 y11 n542 (l439.set x444.toNat y715) (IntKind.i64.wrap (x444 + 1)) else some l439)
def forward_Func.f (a0:S24) (a1:(List Int)):Option S24:=(slices_Clone_api_Block_api_Block.f a0.f1).bind fun (y11:(List S35))=>(forward_Func.l0 a1 y11 (y11.length + 1) y11 0).bind fun (l537:(List S35))=>some (⟨a0.f0,l537⟩:S24)
def forward_Func.post (G:Gd)  (r:S24) (v:Value) (G':Gd) (Lr:List Ch):Prop:=G=G'∧∃ (A_1:Option Addr) (c_1:Nat),v=.agg #[VI r.f0,.slice A_1 r.f1.length c_1]∧Lr=[Row k35 35 (.slice A_1 r.f1.length c_1) r.f1]
theorem forward_Func.calls {G:Gd} {r:S24} {a0:S24} {a1:(List Int)} {A1:Option Addr} {c2:Nat} {A5:Option Addr} {c6:Nat} (hr3:Rd G k35 A1 a0.f1) (hl4:a0.f1.length ≤ c2) (hr7:Rd G kI A5 a1) (hl8:a1.length ≤ c6) (h:forward_Func.f a0 a1=some r):Fn Try.prog 7 G [] [.agg #[VI a0.f0,.slice A1 a0.f1.length c2],.slice A5 a1.length c6] (forward_Func.post G  r):=by
 refine Fn.intro (e:=[(0,.agg #[VI a0.f0,.slice A1 a0.f1.length c2]),(1,.slice A5 a1.length c6)]) 28 Try.func7 rfl Try.ntmps7 rfl rfl (Nat.le_of_ble_eq_true rfl) (fun L=>?_)
 unfold forward_Func.f at h
 refine TC.seq ?_
 refine TC.region ?_
 refine TL.cons (TL.box (cs:=[VI a0.f0,.slice A1 a0.f1.length c2]) rfl rfl rfl rfl (fun b9=>?_))
 refine TL.cons (TL.alloc (cs:=[VI 0,.slice none 0 0]) rfl rfl zr24 rfl (fun b10=>?_))
 refine TL.nil ?_
 refine TQ.then_ ?_
 refine TC.seq ?_
 refine TC.region ?_
 refine TV rfl rfl rfl (Val.fieldAddrB Try.underlying24 rfl fsz22 rfl rfl rfl) ?_
 refine TV rfl rfl rfl (Val.loadB 1 agg22 rfl rfl rfl) ?_
 obtain ⟨y11,hy12,h⟩:=bind_no h
 refine TL.cons (TL.callV (Lin:=[]) (args:=[.slice A1 a0.f1.length c2]) rfl rfl rfl hbd20 rfl rfl (slices_Clone_api_Block_api_Block.calls (a0:=a0.f1) hr3 hl4 hy12) rfl ?_)
 rintro _ _ _ _ ⟨rfl,A13,c14,rfl,rfl⟩
 refine TV rfl rfl rfl (Val.fieldAddrB Try.underlying24 rfl fsz22 rfl rfl rfl) ?_
 refine TL.cons (TL.store 2 (ds:=[.slice A13 y11.length c14]) (cs':=[VI a0.f0,.slice A13 y11.length c14]) (L':=(Row (Sh G k35) 35 (.slice A13 y11.length c14) y11::Blk b10 [VI 0,.slice none 0 0] 24::Blk b9 [VI a0.f0,.slice A13 y11.length c14] 24::L)) rfl fsz22 rfl rfl rfl rfl rfl (Nat.le_of_ble_eq_true rfl) rfl rfl ?_)
 refine TL.nil ?_
 refine TQ.then_ ?_
 refine TC.seq ?_
 refine TC.seq ?_
 refine TC.region ?_
 refine TV rfl rfl rfl (Val.fieldAddrB Try.underlying24 rfl fsz22 rfl rfl rfl) ?_
 refine TV rfl rfl rfl (Val.loadB 2 agg22 rfl rfl rfl) ?_
 refine TV rfl rfl rfl (Val.len Try.underlying22 rfl) ?_
 refine TV rfl rfl rfl (Val.move rfl) ?_
 refine TL.nil ?_
 refine TQ.then_ ?_
 refine TC.conv (ch':=Row (Tg G k35) 35 (.slice A13 y11.length c14) (mixl 0 y11)) (fun B W F hh=>Row.mix0 B W F hh) ?_
 obtain ⟨o541,ho541,ko541⟩:=bind_no h
 clear h
 refine TC.tail (fun a W=>∃ (l537:(List S35)) (A538:Option Addr) (c539:Nat),l537=o541∧Fr 28 a [(2,VP b9 0),(4,VP b10 0)]∧Own G (Blk b10 [VI 0,.slice none 0 0] 24::Blk b9 [VI a0.f0,.slice A538 l537.length c539] 24::Row k35 35 (.slice A538 l537.length c539) l537::L) W) ?_ ?_
 ·
  rintro a W ⟨l537,A538,c539,rfl,hF,hO⟩
  have h:=ko541
  clear ko541 ho541
  refine TQ.use ?_ hF hO
  clear hF hO
  refine TQ.then_ ?_
  refine TC.seq ?_
  refine TC.region ?_
  refine TV rfl rfl rfl (Val.loadsB 1 (cs:=[VI a0.f0,.slice A538 l537.length c539]) agg24 fsz24 rfl rfl rfl rfl) ?_
  refine TL.cons (TL.store 0 (ds:=[VI a0.f0,.slice A538 l537.length c539]) (cs':=[VI a0.f0,.slice A538 l537.length c539]) (L':=(Blk b10 [VI a0.f0,.slice A538 l537.length c539] 24::Blk b9 [VI a0.f0,.slice A538 l537.length c539] 24::Row k35 35 (.slice A538 l537.length c539) l537::L)) rfl fsz24 rfl rfl rfl rfl rfl (Nat.le_of_ble_eq_true rfl) rfl rfl ?_)
  refine TL.nil ?_
  refine TQ.then_ ?_
  refine TC.ret ?_
  obtain rfl:=Option.some.inj h
  exact TQ.fin (.inl rfl) rfl Try.results7 (.cells 0 rfl rfl agg24 fsz24 .nil) rfl (FRel.mk (Ls:=[Row k35 35 (.slice A538 l537.length c539) l537]) [2] 3 (Gd.le.refl _) rfl rfl rfl ⟨rfl,A538,c539,rfl,rfl⟩)
 ·
  refine TC.block ?_
  intro a W hF hO
  have hS:∃ (l439:(List S35)) (x444:Int) (A440:Option Addr) (c441:Nat),forward_Func.l0 a1 y11 (y11.length + 1) l439 x444=some o541∧l439.length=y11.length∧Fr 28 a [(1,.slice A5 a1.length c6),(2,VP b9 0),(4,VP b10 0),(12,.slice A440 l439.length c441),(13,VI (y11.length:Int)),(14,VI x444)]∧Own G (Blk b10 [VI 0,.slice none 0 0] 24::Blk b9 [VI a0.f0,.slice A440 l439.length c441] 24::Row (Tg G k35) 35 (.slice A440 l439.length c441) (mixl x444 l439)::L) W:=by
   exact ⟨y11,0,A13,c14,ho541,(by first | rfl | assumption | omega | (simp only [List.length_set]; first | rfl | assumption | omega)),hF.sub ⟨rfl,rfl,rfl,rfl,rfl,rfl,trivial⟩,hO.selT (Ls:=[Blk b10 [VI 0,.slice none 0 0] 24,Blk b9 [VI a0.f0,.slice A13 y11.length c14] 24,Row (Tg G k35) 35 (.slice A13 y11.length c14) (mixl 0 y11)]) [1,2,0] 3 rfl rfl rfl⟩
  clear hF hO ho541 ko541
  refine TC.loop (fun n542 a W=>∃ (l439:(List S35)) (x444:Int) (A440:Option Addr) (c441:Nat),forward_Func.l0 a1 y11 n542 l439 x444=some o541∧l439.length=y11.length∧Fr 28 a [(1,.slice A5 a1.length c6),(2,VP b9 0),(4,VP b10 0),(12,.slice A440 l439.length c441),(13,VI (y11.length:Int)),(14,VI x444)]∧Own G (Blk b10 [VI 0,.slice none 0 0] 24::Blk b9 [VI a0.f0,.slice A440 l439.length c441] 24::Row (Tg G k35) 35 (.slice A440 l439.length c441) (mixl x444 l439)::L) W) ?_ ?_ hS
  ·
   rintro a W ⟨l439,x444,A440,c441,h,hl443,hF,hO⟩
   exact none_no h
  ·
   clear hS
   rintro n542 a W ⟨l439,x444,A440,c441,h,hl443,hF,hO⟩
   rw [forward_Func.l0] at h
   refine TC.use ?_ hF hO
   clear hF hO
   refine TC.seq ?_
   refine TC.region ?_
   refine TV rfl rfl rfl (Val.cmp rfl rfl run_lss) ?_
   refine TL.nil ?_
   refine TQ.then_ ?_
   refine TC.seq ?_
   refine TC.cond_p rfl h (fun hc636 h=>?_) (fun hc636 h=>?_)
   ·
    refine TC.skip ?_
    refine TQ.then_ ?_
    refine TC.seq ?_
    refine TC.block ?_
    refine TC.seq ?_
    refine TC.region ?_
    refine TV rfl rfl rfl (Val.move rfl) ?_
    refine TK.sel (Ls:=[Row (Tg G k35) 35 (.slice A440 l439.length c441) (mixl x444 l439),Blk b10 [VI 0,.slice none 0 0] 24,Blk b9 [VI a0.f0,.slice A440 l439.length c441] 24]) [2,0,1] 3 rfl rfl rfl ?_
    refine TK.share (fun G682 e683 hs684 hb685=>?_)
    have rd686:Rd G682 k35 A440 l439:=Rd.mixed (Rd.row hs684) e683
    have le687:l439.length ≤ c441:=(by have h_:=Row.le hs684; rwa [mixl_length] at h_)
    have rd688:=Rd.row hs684
    obtain ⟨y689,hx690,h⟩:=bind_no h
    obtain ⟨ad691,cs697,hA692,hi693,hj694,hcl695,hK696⟩:=Rd.at rd688 (at_mixl hx690)
    have hK696:=Tg.shK (hK696 _ (Gd.self _))
    rw [mixl_length] at hj694
    obtain ⟨A698,c699,rfl,hr700,hl701⟩:=k35_openR hK696
    refine TV rfl rfl rfl (Val.indexAddr Try.underlying22 fsz35 rfl hA692 rfl hi693 hj694) ?_
    refine TV rfl rfl rfl (Val.loadsS (cs:=[.slice A698 y689.f0.length c699,VI y689.f1.f0,VI y689.f1.f1,VI y689.f1.f2,VI y689.f1.f3]) agg35 fsz35 rfl rfl (Cl.sub (off:=0) (n:=5) hcl695 rfl)) ?_
    refine TL.cons (TL.alloc (cs:=[.slice none 0 0,VI 0,VI 0,VI 0,VI 0]) rfl rfl zr35 rfl (fun b702=>?_))
    refine TV rfl rfl rfl (Val.assign rfl) ?_
    refine TL.cons (TL.store 0 (ds:=[.slice A698 y689.f0.length c699,VI y689.f1.f0,VI y689.f1.f1,VI y689.f1.f2,VI y689.f1.f3]) (cs':=[.slice A698 y689.f0.length c699,VI y689.f1.f0,VI y689.f1.f1,VI y689.f1.f2,VI y689.f1.f3]) (L':=(Blk b702 [.slice A698 y689.f0.length c699,VI y689.f1.f0,VI y689.f1.f1,VI y689.f1.f2,VI y689.f1.f3] 35::Blk b10 [VI 0,.slice none 0 0] 24::Blk b9 [VI a0.f0,.slice A440 l439.length c441] 24::L)) rfl fsz35 rfl rfl rfl rfl rfl (Nat.le_of_ble_eq_true rfl) rfl rfl ?_)
    refine TL.nil ?_
    refine TQ.then_ ?_
    refine TC.regionAny [7] [0,1,2,3,4,6] mixed (by kernel_rfl) ?_
    refine TA.take 0 rfl (by kernel_rfl) rfl (PQ.inB (PQ.then_ (PQ.then_ (PQ.inB (PQ.then_ (PQ.then_ PQ.body)))))) rfl (Val.fieldAddrB Try.underlying24 rfl fsz22 rfl rfl rfl) (fun W hO=>hO) ?_
    refine TA.take 1 rfl (by kernel_rfl) rfl (PQ.inB (PQ.then_ (PQ.then_ (PQ.inB (PQ.then_ (PQ.then_ PQ.body)))))) rfl (Val.loadB 2 agg22 rfl rfl rfl) (fun W hO=>hO) ?_
    refine TA.take 2 rfl (by kernel_rfl) rfl (PQ.inB (PQ.then_ (PQ.then_ (PQ.inB (PQ.then_ (PQ.then_ PQ.body)))))) rfl (Val.move rfl) (fun W hO=>hO) ?_
    refine TA.take 3 rfl (by kernel_rfl) rfl (PQ.inB (PQ.then_ (PQ.then_ (PQ.inB (PQ.then_ (PQ.then_ PQ.body)))))) rfl (Val.loadsB 0 (cs:=[.slice A698 y689.f0.length c699,VI y689.f1.f0,VI y689.f1.f1,VI y689.f1.f2,VI y689.f1.f3]) agg35 fsz35 rfl rfl rfl rfl) (fun W hO=>hO) ?_
    refine TA.take 4 rfl (by kernel_rfl) rfl (PQ.inB (PQ.then_ (PQ.then_ (PQ.inB (PQ.then_ (PQ.then_ PQ.body)))))) rfl (Val.move rfl) (fun W hO=>hO) ?_
    obtain ⟨y715,hy716,h⟩:=bind_no h
    refine TA.eff 5 rfl (by kernel_rfl) rfl (TL.callV (Lin:=[]) (args:=[.agg #[.slice A698 y689.f0.length c699,VI y689.f1.f0,VI y689.f1.f1,VI y689.f1.f2,VI y689.f1.f3],.slice A5 a1.length c6]) rfl rfl rfl hbd10 rfl rfl (forward_Block.calls (a0:=y689) (a1:=a1) (hr700.up e683) hl701 (hr7.up e683) hl8 hy716) rfl ?_)
    rintro _ _ _ _ ⟨rfl,A717,c718,rfl,rfl⟩
    refine TA.next (fun W hO=>hO.selT (Ls:=[Blk b702 [.slice A698 y689.f0.length c699,VI y689.f1.f0,VI y689.f1.f1,VI y689.f1.f2,VI y689.f1.f3] 35,Blk b10 [VI 0,.slice none 0 0] 24,Blk b9 [VI a0.f0,.slice A440 l439.length c441] 24]) [1,2,3] 4 rfl rfl rfl) ?_
    obtain ⟨y720,hy721,h⟩:=bind_no h
    obtain ⟨b722,hA723,hi724,hj725⟩:=Row.openedS hs684 (at_mixl hy721)
    refine TA.take 6 rfl (by kernel_rfl) rfl (PQ.inB (PQ.then_ (PQ.then_ (PQ.inB (PQ.then_ (PQ.then_ PQ.body)))))) rfl (Val.indexAddrW Try.underlying22 fsz35 rfl hA723 rfl hi724 hj725) (fun W hO=>hO.selT (Ls:=[Blk b702 [.slice A698 y689.f0.length c699,VI y689.f1.f0,VI y689.f1.f1,VI y689.f1.f2,VI y689.f1.f3] 35,Blk b10 [VI 0,.slice none 0 0] 24,Blk b9 [VI a0.f0,.slice A440 l439.length c441] 24]) [1,2,3] 4 rfl rfl rfl) ?_
    refine TK.back hb685 ?_
    refine TK.sel (Ls:=[Row k37 37 (.slice A717 y715.f0.length c718) y715.f0,Row (Tg G k35) 35 (.slice A440 l439.length c441) (mixl x444 l439),Blk b702 [.slice A698 y689.f0.length c699,VI y689.f1.f0,VI y689.f1.f1,VI y689.f1.f2,VI y689.f1.f3] 35,Blk b10 [VI 0,.slice none 0 0] 24,Blk b9 [VI a0.f0,.slice A440 l439.length c441] 24]) [1,0,2,3,4] 5 rfl rfl rfl ?_
    refine TK.conv (ch':=El k35 y715 [.slice A717 y715.f0.length c718,VI y715.f1.f0,VI y715.f1.f1,VI y715.f1.f2,VI y715.f1.f3]) (fun B W F hh=>k35_mkM W B F y715 hh) ?_
    refine TK.sel (Ls:=[Row (Tg G k35) 35 (.slice A440 l439.length c441) (mixl x444 l439),El k35 y715 [.slice A717 y715.f0.length c718,VI y715.f1.f0,VI y715.f1.f1,VI y715.f1.f2,VI y715.f1.f3],Blk b702 [.slice A698 y689.f0.length c699,VI y689.f1.f0,VI y689.f1.f1,VI y689.f1.f2,VI y689.f1.f3] 35,Blk b10 [VI 0,.slice none 0 0] 24,Blk b9 [VI a0.f0,.slice A440 l439.length c441] 24]) [1,0,2,3,4] 5 rfl rfl rfl ?_
    refine TA.eff 7 rfl (by kernel_rfl) rfl (TL.storeE (Tg G k35) (xs:=(mixl x444 l439)) (xv:=(y715,true)) (ds:=[.slice A717 y715.f0.length c718,VI y715.f1.f0,VI y715.f1.f1,VI y715.f1.f2,VI y715.f1.f3]) rfl fsz35 hA723 (at_mixl hy721) rfl rfl rfl rfl (Nat.le_of_ble_eq_true rfl) (wholeMT rfl) ?_)
    refine TA.last rfl ?_
    refine TK.conv (ch':=Row (Tg G k35) 35 (.slice A440 l439.length c441) (mixl (IntKind.i64.wrap (x444 + 1)) (l439.set x444.toNat y715))) (fun B W F hh=>Row.mixset hy721 hh) ?_
    rw [show (l439.length:Nat)=(l439.set x444.toNat y715).length from by simp only [List.length_set]]
    refine TA.done (by kernel_rfl) ?_
    refine TQ.inB ?_
    refine TQ.then_ ?_
    refine TC.region ?_
    refine TV rfl rfl rfl (Val.cmp rfl rfl run_add) ?_
    refine TV rfl rfl rfl (Val.move rfl) ?_
    refine TL.nil ?_
    exact fun a W hF hO=>⟨(l439.set x444.toNat y715),IntKind.i64.wrap (x444 + 1),A440,c441,h,(by first | rfl | assumption | omega | (simp only [List.length_set]; first | rfl | assumption | omega)),hF.sub ⟨rfl,rfl,rfl,rfl,rfl,rfl,trivial⟩,hO.selT (Ls:=[Blk b10 [VI 0,.slice none 0 0] 24,Blk b9 [VI a0.f0,.slice A440 (l439.set x444.toNat y715).length c441] 24,Row (Tg G k35) 35 (.slice A440 (l439.set x444.toNat y715).length c441) (mixl (IntKind.i64.wrap (x444 + 1)) (l439.set x444.toNat y715))]) [2,3,0] 4 rfl rfl rfl⟩
   ·
    refine TC.sel (Ls:=[Row (Tg G k35) 35 (.slice A440 l439.length c441) (mixl x444 l439),Blk b10 [VI 0,.slice none 0 0] 24,Blk b9 [VI a0.f0,.slice A440 l439.length c441] 24]) [2,0,1] 3 rfl rfl rfl ?_
    refine TC.conv (ch':=Row k35 35 (.slice A440 l439.length c441) l439) (fun B W F hh=>Row.mix1 (by omega) B W F hh) ?_
    refine TC.exit ?_
    refine TQ.thenX ?_
    refine TQ.thenX ?_
    refine TQ.inBX ?_
    exact fun a W hF hO=>⟨l439,A440,c441,Option.some.inj h,hF.sub ⟨rfl,rfl,trivial⟩,hO.selT (Ls:=[Blk b10 [VI 0,.slice none 0 0] 24,Blk b9 [VI a0.f0,.slice A440 l439.length c441] 24,Row k35 35 (.slice A440 l439.length c441) l439]) [1,2,0] 3 rfl rfl rfl⟩
def swagelaw22_ForwardCounts.l1 (a0:S24) (y30:S24) (x2096:Int):Nat → Int → Option (Sum (Sum Bool (Unit)) (Unit))
 | 0,_=>none
 | n5316 + 1,x5138=>(at? a0.f1 x2096).bind fun y5482=>(if x5138 < (y5482.f0.length:Int) then (at? y5482.f0 x5138).bind fun y5574=>(at? y30.f1 x2096).bind fun y5588=>(at? y5588.f0 x5138).bind fun y5601=>jn (γ:=(Sum (Sum Bool (Unit)) (Unit))) (fun (x5623:Bool)=>jn (γ:=(Sum (Sum Bool (Unit)) (Unit))) (fun (x5635:Bool)=>(if x5635=true then some (.inl (.inl false)) else swagelaw22_ForwardCounts.l1 a0 y30 x2096 n5316 (IntKind.i64.wrap (x5138 + 1)))) (fun (j5637:(Bool → Option (Sum (Sum Bool (Unit)) (Unit))))=>(if (!x5623)=true then (swageref14_SameOp.f y5574 y5601).bind fun (y5642:Bool)=>j5637 (!y5642) else j5637 false))) (fun (j5627:(Bool → Option (Sum (Sum Bool (Unit)) (Unit))))=>(if y5574.f0=4 then (if y5601.f0=3 then j5627 (decide (y5601.f1=y5574.f1)) else j5627 false) else j5627 false)) else some (.inr ()))
def swagelaw22_ForwardCounts.l0 (a0:S24) (y30:S24):Nat → Int → Option (Sum Bool (Unit))
 | 0,_=>none
 | n3106 + 1,x2096=>(if x2096 < (a0.f1.length:Int) then jn (γ:=(Sum Bool (Unit))) (fun (x4786:Bool)=>(if x4786=true then some (.inl false) else (swagelaw22_ForwardCounts.l1 a0 y30 x2096 ((at? a0.f1 x2096).elim 0 (fun vy5317=>vy5317.f0.length) + 1) 0).bind fun | .inl q_=>some q_ | .inr _=>(swagelaw22_ForwardCounts.l0 a0 y30 n3106 (IntKind.i64.wrap (x2096 + 1))))) (fun (j4788:(Bool → Option (Sum Bool (Unit))))=>(at? y30.f1 x2096).bind fun y5680=>(at? a0.f1 x2096).bind fun y5693=>(if (!decide ((y5680.f0.length:Int)=(y5693.f0.length:Int)))=true then j4788 true else j4788 (!((y5680.f1.f0 == y5693.f1.f0) && ((y5680.f1.f1 == y5693.f1.f1) && ((y5680.f1.f2 == y5693.f1.f2) && (y5680.f1.f3 == y5693.f1.f3))))))) else some (.inr ()))
def swagelaw22_ForwardCounts.f (a0:S24) (a1:(List Int)):Option Bool:=(swagelaw22_small.f).bind fun (y10:Bool)=>(swagelaw14_Few.f a0).bind fun (y14:Bool)=>jn (γ:=Bool) (fun (x26:Bool)=>(if x26=true then some y10 else (forward_Func.f a0 a1).bind fun (y30:S24)=>jn (γ:=Bool) (fun (x72:Bool)=>(if x72=true then some false else (swagelaw22_ForwardCounts.l0 a0 y30 (a0.f1.length + 1) 0).bind fun | .inl q_=>some q_ | .inr _=>(some y10))) (fun (j77:(Bool → Option Bool))=>(code_Right.f y30 256).bind fun (y5731:Bool)=>(if (!y5731)=true then j77 true else (if (!decide ((y30.f1.length:Int)=(a0.f1.length:Int)))=true then j77 true else (forward_Loads.f y30).bind fun (y5739:Int)=>(forward_Loads.f a0).bind fun (y5741:Int)=>j77 (decide (y5741 < y5739))))))) (fun (j27:(Bool → Option Bool))=>(if (!y14)=true then j27 true else (if 40 < (a1.length:Int) then j27 true else (code_Right.f a0 256).bind fun (y5749:Bool)=>j27 (!y5749))))
def swagelaw22_ForwardCounts.post (G:Gd)  (r:Bool) (v:Value) (G':Gd) (Lr:List Ch):Prop:=v=.bool r∧Lr=[]
theorem swagelaw22_ForwardCounts.calls {G:Gd} {r:Bool} {a0:S24} {a1:(List Int)} {A1:Option Addr} {c2:Nat} {A5:Option Addr} {c6:Nat} (hr3:Rd G k35 A1 a0.f1) (hl4:a0.f1.length ≤ c2) (hr7:Rd G kI A5 a1) (hl8:a1.length ≤ c6) (h:swagelaw22_ForwardCounts.f a0 a1=some r):Fn Try.prog 3 G [] [.agg #[VI a0.f0,.slice A1 a0.f1.length c2],.slice A5 a1.length c6] (swagelaw22_ForwardCounts.post G  r):=by
 refine Fn.intro (e:=[(0,.agg #[VI a0.f0,.slice A1 a0.f1.length c2]),(1,.slice A5 a1.length c6)]) 141 Try.func3 rfl Try.ntmps3 rfl rfl (Nat.le_of_ble_eq_true rfl) (fun L=>?_)
 unfold swagelaw22_ForwardCounts.f at h
 refine TC.seq ?_
 refine TC.region ?_
 refine TL.cons (TL.box (cs:=[VI a0.f0,.slice A1 a0.f1.length c2]) rfl rfl rfl rfl (fun b9=>?_))
 refine TV rfl rfl rfl (Val.assign rfl) ?_
 refine TL.nil ?_
 refine TQ.then_ ?_
 refine TC.seq ?_
 refine TC.region ?_
 obtain ⟨y10,hy11,h⟩:=bind_no h
 refine TL.cons (TL.callV (Lin:=[]) (args:=[]) rfl rfl rfl hbd4 rfl rfl (swagelaw22_small.calls hy11) rfl ?_)
 rintro _ G12 _ e13 ⟨rfl,rfl⟩
 refine TV rfl rfl rfl (Val.assign rfl) ?_
 refine TL.nil ?_
 refine TQ.then_ ?_
 refine TC.seq ?_
 refine TC.region ?_
 refine TV rfl rfl rfl (Val.loadsB 0 (cs:=[VI a0.f0,.slice A1 a0.f1.length c2]) agg24 fsz24 rfl rfl rfl rfl) ?_
 obtain ⟨y14,hy15,h⟩:=bind_no h
 refine TL.cons (TL.callV (Lin:=[]) (args:=[.agg #[VI a0.f0,.slice A1 a0.f1.length c2]]) rfl rfl rfl hbd5 rfl rfl (swagelaw14_Few.calls (a0:=a0) (hr3.up e13) hl4 hy15) rfl ?_)
 rintro _ _ _ _ ⟨rfl,rfl,rfl⟩
 refine TV rfl rfl rfl (Val.assign rfl) ?_
 refine TL.nil ?_
 refine TQ.then_ ?_
 refine TC.seq ?_
 refine TC.seq ?_
 obtain ⟨j27,hj27,h⟩:=jn_no h
 refine TC.tail (fun a W=>∃ (x26:Bool) (G24:Gd),j27 x26=some r∧G.le G24∧Fr 141 a [(1,.slice A5 a1.length c6),(2,VP b9 0),(5,.bool y10),(27,.bool x26)]∧Own G24 (Blk b9 [VI a0.f0,.slice A1 a0.f1.length c2] 24::L) W) ?_ ?_
 ·
  rintro a W ⟨x26,G24,h,e25,hF,hO⟩
  rw [hj27] at h
  refine TQ.use ?_ hF hO
  clear hF hO
  refine TQ.then_ ?_
  refine TC.cond_b rfl h (fun hc29 h=>?_) (fun hc29 h=>?_)
  ·
   refine TC.seq ?_
   refine TC.region ?_
   refine TV rfl rfl rfl (Val.move rfl) ?_
   refine TV rfl rfl rfl (Val.assign rfl) ?_
   refine TL.nil ?_
   refine TQ.then_ ?_
   refine TC.ret ?_
   refine TQ.thenR ?_
   obtain rfl:=Option.some.inj h
   exact TQ.fin (.inl rfl) rfl Try.results3 (.tmp rfl .nil) rfl (FRel.mk (Ls:=[]) [] 1 e25 rfl rfl rfl ⟨rfl,rfl⟩)
  ·
   refine TC.skip ?_
   refine TQ.then_ ?_
   refine TC.seq ?_
   refine TC.region ?_
   refine TV rfl rfl rfl (Val.loadsB 0 (cs:=[VI a0.f0,.slice A1 a0.f1.length c2]) agg24 fsz24 rfl rfl rfl rfl) ?_
   refine TV rfl rfl rfl (Val.move rfl) ?_
   obtain ⟨y30,hy31,h⟩:=bind_no h
   refine TL.cons (TL.callV (Lin:=[]) (args:=[.agg #[VI a0.f0,.slice A1 a0.f1.length c2],.slice A5 a1.length c6]) rfl rfl rfl hbd7 rfl rfl (forward_Func.calls (a0:=a0) (a1:=a1) (hr3.up e25) hl4 (hr7.up e25) hl8 hy31) rfl ?_)
   rintro _ _ _ _ ⟨rfl,A32,c33,rfl,rfl⟩
   refine TL.cons (TL.alloc (cs:=[VI 0,.slice none 0 0]) rfl rfl zr24 rfl (fun b35=>?_))
   refine TL.cons (TL.store 0 (ds:=[VI y30.f0,.slice A32 y30.f1.length c33]) (cs':=[VI y30.f0,.slice A32 y30.f1.length c33]) (L':=(Blk b35 [VI y30.f0,.slice A32 y30.f1.length c33] 24::Row k35 35 (.slice A32 y30.f1.length c33) y30.f1::Blk b9 [VI a0.f0,.slice A1 a0.f1.length c2] 24::L)) rfl fsz24 rfl rfl rfl rfl rfl (Nat.le_of_ble_eq_true rfl) rfl rfl ?_)
   refine TL.nil ?_
   refine TQ.then_ ?_
   refine TC.seq ?_
   refine TC.seq ?_
   obtain ⟨j77,hj77,h⟩:=jn_no h
   refine TC.tail (fun a W=>∃ (x72:Bool) (G70:Gd) (A73:Option Addr) (c74:Nat),j77 x72=some r∧G.le G70∧Rd G70 k35 A73 y30.f1∧y30.f1.length ≤ c74∧Fr 141 a [(2,VP b9 0),(5,.bool y10),(7,VP b35 0),(50,.bool x72)]∧Own G70 (Blk b35 [VI y30.f0,.slice A73 y30.f1.length c74] 24::Blk b9 [VI a0.f0,.slice A1 a0.f1.length c2] 24::L) W) ?_ ?_
   ·
    rintro a W ⟨x72,G70,A73,c74,h,e71,hr75,hl76,hF,hO⟩
    rw [hj77] at h
    refine TQ.use ?_ hF hO
    clear hF hO
    refine TQ.then_ ?_
    refine TC.cond_b rfl h (fun hc79 h=>?_) (fun hc79 h=>?_)
    ·
     refine TC.seq ?_
     refine TC.region ?_
     refine TV rfl rfl rfl (Val.assign rfl) ?_
     refine TL.nil ?_
     refine TQ.then_ ?_
     refine TC.ret ?_
     refine TQ.thenR ?_
     obtain rfl:=Option.some.inj h
     exact TQ.fin (.inl rfl) rfl Try.results3 (.tmp rfl .nil) rfl (FRel.mk (Ls:=[]) [] 2 e71 rfl rfl rfl ⟨rfl,rfl⟩)
    ·
     refine TC.skip ?_
     refine TQ.then_ ?_
     refine TC.seq ?_
     refine TC.seq ?_
     refine TC.region ?_
     refine TV rfl rfl rfl (Val.assign rfl) ?_
     refine TL.nil ?_
     refine TQ.then_ ?_
     obtain ⟨o3105,ho3105,ko3105⟩:=bind_no h
     clear h
     refine TC.tail (fun a W=>∃ (G3103:Gd),(.inr ())=o3105∧G.le G3103∧Fr 141 a [(5,.bool y10)]∧Own G3103 (L) W) ?_ ?_
     ·
      rintro a W ⟨G3103,rfl,e3104,hF,hO⟩
      have h:=ko3105
      clear ko3105 ho3105
      refine TQ.use ?_ hF hO
      clear hF hO
      refine TQ.then_ ?_
      refine TC.seq ?_
      refine TC.region ?_
      refine TV rfl rfl rfl (Val.move rfl) ?_
      refine TV rfl rfl rfl (Val.assign rfl) ?_
      refine TL.nil ?_
      refine TQ.then_ ?_
      refine TC.ret ?_
      obtain rfl:=Option.some.inj h
      exact TQ.fin (.inl rfl) rfl Try.results3 (.tmp rfl .nil) rfl (FRel.mk (Ls:=[]) [] 0 e3104 rfl rfl rfl ⟨rfl,rfl⟩)
     ·
      refine TC.block ?_
      intro a W hF hO
      have hS:∃ (x2096:Int) (G2094:Gd) (A2097:Option Addr) (c2098:Nat),swagelaw22_ForwardCounts.l0 a0 y30 (a0.f1.length + 1) x2096=some o3105∧G.le G2094∧Rd G2094 k35 A2097 y30.f1∧y30.f1.length ≤ c2098∧Fr 141 a [(2,VP b9 0),(5,.bool y10),(7,VP b35 0),(8,VI x2096)]∧Own G2094 (Blk b35 [VI y30.f0,.slice A2097 y30.f1.length c2098] 24::Blk b9 [VI a0.f0,.slice A1 a0.f1.length c2] 24::L) W:=by
       exact ⟨0,G70,A73,c74,ho3105,e71,hr75,hl76,hF.sub ⟨rfl,rfl,rfl,rfl,trivial⟩,hO.selT (Ls:=[Blk b35 [VI y30.f0,.slice A73 y30.f1.length c74] 24,Blk b9 [VI a0.f0,.slice A1 a0.f1.length c2] 24]) [0,1] 2 rfl rfl rfl⟩
      clear hF hO ho3105
      refine TC.loop (fun n3106 a W=>∃ (x2096:Int) (G2094:Gd) (A2097:Option Addr) (c2098:Nat),swagelaw22_ForwardCounts.l0 a0 y30 n3106 x2096=some o3105∧G.le G2094∧Rd G2094 k35 A2097 y30.f1∧y30.f1.length ≤ c2098∧Fr 141 a [(2,VP b9 0),(5,.bool y10),(7,VP b35 0),(8,VI x2096)]∧Own G2094 (Blk b35 [VI y30.f0,.slice A2097 y30.f1.length c2098] 24::Blk b9 [VI a0.f0,.slice A1 a0.f1.length c2] 24::L) W) ?_ ?_ hS
      ·
       rintro a W ⟨x2096,G2094,A2097,c2098,h,e2095,hr2099,hl2100,hF,hO⟩
       exact none_no h
      ·
       clear hS
       rintro n3106 a W ⟨x2096,G2094,A2097,c2098,h,e2095,hr2099,hl2100,hF,hO⟩
       rw [swagelaw22_ForwardCounts.l0] at h
       refine TC.use ?_ hF hO
       clear hF hO
       refine TC.seq ?_
       refine TC.seq ?_
       refine TC.region ?_
       refine TV rfl rfl rfl (Val.move rfl) ?_
       refine TV rfl rfl rfl (Val.fieldAddrB Try.underlying24 rfl fsz22 rfl rfl rfl) ?_
       refine TV rfl rfl rfl (Val.loadB 1 agg22 rfl rfl rfl) ?_
       refine TV rfl rfl rfl (Val.len Try.underlying22 rfl) ?_
       refine TV rfl rfl rfl (Val.cmp rfl rfl run_lss) ?_
       refine TL.nil ?_
       refine TQ.then_ ?_
       refine TC.cond_p rfl h (fun hc4102 h=>?_) (fun hc4102 h=>?_)
       ·
        refine TC.skip ?_
        refine TQ.then_ ?_
        refine TC.seq ?_
        refine TC.block ?_
        refine TC.seq ?_
        refine TC.seq ?_
        obtain ⟨j4788,hj4788,h⟩:=jn_no h
        refine TC.tail (fun a W=>∃ (x4786:Bool) (G4784:Gd),j4788 x4786=some o3105∧G.le G4784∧Rd G4784 k35 A2097 y30.f1∧Fr 141 a [(2,VP b9 0),(5,.bool y10),(7,VP b35 0),(8,VI x2096),(87,.bool x4786)]∧Own G4784 (Blk b35 [VI y30.f0,.slice A2097 y30.f1.length c2098] 24::Blk b9 [VI a0.f0,.slice A1 a0.f1.length c2] 24::L) W) ?_ ?_
        ·
         rintro a W ⟨x4786,G4784,h,e4785,hr4787,hF,hO⟩
         rw [hj4788] at h
         refine TQ.use ?_ hF hO
         clear hF hO
         refine TQ.then_ ?_
         refine TC.cond_b rfl h (fun hc4790 h=>?_) (fun hc4790 h=>?_)
         ·
          refine TC.seq ?_
          refine TC.region ?_
          refine TV rfl rfl rfl (Val.assign rfl) ?_
          refine TL.nil ?_
          refine TQ.then_ ?_
          refine TC.ret ?_
          refine TQ.thenR ?_
          refine TQ.inBR ?_
          refine TQ.thenR ?_
          refine TQ.thenR ?_
          refine TQ.inBR ?_
          refine TQ.thenR ?_
          refine TQ.thenR ?_
          obtain rfl:=Option.some.inj h
          have h:=ko3105
          obtain rfl:=Option.some.inj h
          exact TQ.fin (.inl rfl) rfl Try.results3 (.tmp rfl .nil) rfl (FRel.mk (Ls:=[]) [] 2 e4785 rfl rfl rfl ⟨rfl,rfl⟩)
         ·
          refine TC.skip ?_
          refine TQ.then_ ?_
          refine TC.seq ?_
          refine TC.region ?_
          refine TV rfl rfl rfl (Val.assign rfl) ?_
          refine TL.nil ?_
          refine TQ.then_ ?_
          obtain ⟨o5315,ho5315,ko5315⟩:=bind_no h
          clear h
          refine TC.tail (fun a W=>∃ (G5309:Gd) (A5311:Option Addr) (c5312:Nat),(.inr ())=o5315∧G.le G5309∧Rd G5309 k35 A5311 y30.f1∧y30.f1.length ≤ c5312∧Fr 141 a [(2,VP b9 0),(5,.bool y10),(7,VP b35 0),(8,VI x2096)]∧Own G5309 (Blk b35 [VI y30.f0,.slice A5311 y30.f1.length c5312] 24::Blk b9 [VI a0.f0,.slice A1 a0.f1.length c2] 24::L) W) ?_ ?_
          ·
           rintro a W ⟨G5309,A5311,c5312,rfl,e5310,hr5313,hl5314,hF,hO⟩
           have h:=ko5315
           clear ko5315 ho5315
           refine TQ.use ?_ hF hO
           clear hF hO
           refine TQ.inB ?_
           refine TQ.then_ ?_
           refine TC.region ?_
           refine TV rfl rfl rfl (Val.move rfl) ?_
           refine TV rfl rfl rfl (Val.cmp rfl rfl run_add) ?_
           refine TV rfl rfl rfl (Val.assign rfl) ?_
           refine TL.nil ?_
           exact fun a W hF hO=>⟨IntKind.i64.wrap (x2096 + 1),G5309,A5311,c5312,h,e5310,hr5313,hl5314,hF.sub ⟨rfl,rfl,rfl,rfl,trivial⟩,hO.selT (Ls:=[Blk b35 [VI y30.f0,.slice A5311 y30.f1.length c5312] 24,Blk b9 [VI a0.f0,.slice A1 a0.f1.length c2] 24]) [0,1] 2 rfl rfl rfl⟩
          ·
           refine TC.block ?_
           intro a W hF hO
           have hS:∃ (x5138:Int) (G5136:Gd),swagelaw22_ForwardCounts.l1 a0 y30 x2096 ((at? a0.f1 x2096).elim 0 (fun vy5317=>vy5317.f0.length) + 1) x5138=some o5315∧G.le G5136∧Rd G5136 k35 A2097 y30.f1∧Fr 141 a [(2,VP b9 0),(5,.bool y10),(7,VP b35 0),(8,VI x2096),(9,VI x5138)]∧Own G5136 (Blk b35 [VI y30.f0,.slice A2097 y30.f1.length c2098] 24::Blk b9 [VI a0.f0,.slice A1 a0.f1.length c2] 24::L) W:=by
            exact ⟨0,G4784,ho5315,e4785,hr4787,hF.sub ⟨rfl,rfl,rfl,rfl,rfl,trivial⟩,hO.selT (Ls:=[Blk b35 [VI y30.f0,.slice A2097 y30.f1.length c2098] 24,Blk b9 [VI a0.f0,.slice A1 a0.f1.length c2] 24]) [0,1] 2 rfl rfl rfl⟩
           clear hF hO ho5315
           refine TC.loop (fun n5316 a W=>∃ (x5138:Int) (G5136:Gd),swagelaw22_ForwardCounts.l1 a0 y30 x2096 n5316 x5138=some o5315∧G.le G5136∧Rd G5136 k35 A2097 y30.f1∧Fr 141 a [(2,VP b9 0),(5,.bool y10),(7,VP b35 0),(8,VI x2096),(9,VI x5138)]∧Own G5136 (Blk b35 [VI y30.f0,.slice A2097 y30.f1.length c2098] 24::Blk b9 [VI a0.f0,.slice A1 a0.f1.length c2] 24::L) W) ?_ ?_ hS
           ·
            rintro a W ⟨x5138,G5136,h,e5137,hr5139,hF,hO⟩
            exact none_no h
           ·
            clear hS
            rintro n5316 a W ⟨x5138,G5136,h,e5137,hr5139,hF,hO⟩
            rw [swagelaw22_ForwardCounts.l1] at h
            refine TC.use ?_ hF hO
            clear hF hO
            refine TC.seq ?_
            refine TC.seq ?_
            refine TC.region ?_
            refine TV rfl rfl rfl (Val.move rfl) ?_
            refine TV rfl rfl rfl (Val.fieldAddrB Try.underlying24 rfl fsz22 rfl rfl rfl) ?_
            refine TV rfl rfl rfl (Val.loadB 1 agg22 rfl rfl rfl) ?_
            refine TV rfl rfl rfl (Val.move rfl) ?_
            obtain ⟨y5482,hx5483,h⟩:=bind_no h
            obtain ⟨ad5484,cs5490,hA5485,hi5486,hj5487,hcl5488,hK5489⟩:=Rd.at (hr3.up e5137) hx5483
            obtain ⟨A5491,c5492,rfl,hr5493,hl5494⟩:=k35_openR hK5489
            refine TV rfl rfl rfl (Val.indexAddr Try.underlying22 fsz35 rfl hA5485 rfl hi5486 hj5487) ?_
            refine TV rfl rfl rfl (Val.fieldAddrE Try.underlying35 rfl fsz31 rfl rfl) ?_
            refine TV rfl rfl rfl (Val.loadS agg31 rfl (hcl5488 0 _ rfl)) ?_
            refine TV rfl rfl rfl (Val.len Try.underlying31 rfl) ?_
            refine TV rfl rfl rfl (Val.cmp rfl rfl run_lss) ?_
            refine TL.nil ?_
            refine TQ.then_ ?_
            refine TC.cond_p rfl h (fun hc5496 h=>?_) (fun hc5496 h=>?_)
            ·
             refine TC.skip ?_
             refine TQ.then_ ?_
             refine TC.seq ?_
             refine TC.block ?_
             refine TC.seq ?_
             refine TC.region ?_
             refine TV rfl rfl rfl (Val.fieldAddrB Try.underlying24 rfl fsz22 rfl rfl rfl) ?_
             refine TV rfl rfl rfl (Val.loadB 1 agg22 rfl rfl rfl) ?_
             refine TV rfl rfl rfl (Val.move rfl) ?_
             refine TV rfl rfl rfl (Val.indexAddr Try.underlying22 fsz35 rfl hA5485 rfl hi5486 hj5487) ?_
             refine TV rfl rfl rfl (Val.fieldAddrE Try.underlying35 rfl fsz31 rfl rfl) ?_
             refine TV rfl rfl rfl (Val.loadS agg31 rfl (hcl5488 0 _ rfl)) ?_
             refine TV rfl rfl rfl (Val.move rfl) ?_
             obtain ⟨y5574,hx5575,h⟩:=bind_no h
             obtain ⟨ad5576,cs5582,hA5577,hi5578,hj5579,hcl5580,hK5581⟩:=Rd.at hr5493 hx5575
             obtain ⟨A5583,c5584,rfl,hr5585,hl5586⟩:=k37_openR hK5581
             refine TV rfl rfl rfl (Val.indexAddr Try.underlying31 fsz37 rfl hA5577 rfl hi5578 hj5579) ?_
             refine TV rfl rfl rfl (Val.loadsS (cs:=[VI y5574.f0,VI y5574.f1,VI y5574.f2,VI y5574.f3,VI y5574.f4,.slice A5583 y5574.f5.length c5584]) agg37 fsz37 rfl rfl (Cl.sub (off:=0) (n:=6) hcl5580 rfl)) ?_
             refine TL.cons (TL.alloc (cs:=[VI 0,VI 0,VI 0,VI 0,VI 0,.slice none 0 0]) rfl rfl zr37 rfl (fun b5587=>?_))
             refine TL.cons (TL.store 0 (ds:=[VI y5574.f0,VI y5574.f1,VI y5574.f2,VI y5574.f3,VI y5574.f4,.slice A5583 y5574.f5.length c5584]) (cs':=[VI y5574.f0,VI y5574.f1,VI y5574.f2,VI y5574.f3,VI y5574.f4,.slice A5583 y5574.f5.length c5584]) (L':=(Blk b5587 [VI y5574.f0,VI y5574.f1,VI y5574.f2,VI y5574.f3,VI y5574.f4,.slice A5583 y5574.f5.length c5584] 37::Blk b35 [VI y30.f0,.slice A2097 y30.f1.length c2098] 24::Blk b9 [VI a0.f0,.slice A1 a0.f1.length c2] 24::L)) rfl fsz37 rfl rfl rfl rfl rfl (Nat.le_of_ble_eq_true rfl) rfl rfl ?_)
             refine TL.nil ?_
             refine TQ.then_ ?_
             refine TC.seq ?_
             refine TC.region ?_
             refine TV rfl rfl rfl (Val.fieldAddrB Try.underlying24 rfl fsz22 rfl rfl rfl) ?_
             refine TV rfl rfl rfl (Val.loadB 1 agg22 rfl rfl rfl) ?_
             refine TV rfl rfl rfl (Val.move rfl) ?_
             obtain ⟨y5588,hx5589,h⟩:=bind_no h
             obtain ⟨ad5590,cs5596,hA5591,hi5592,hj5593,hcl5594,hK5595⟩:=Rd.at hr5139 hx5589
             obtain ⟨A5597,c5598,rfl,hr5599,hl5600⟩:=k35_openR hK5595
             refine TV rfl rfl rfl (Val.indexAddr Try.underlying22 fsz35 rfl hA5591 rfl hi5592 hj5593) ?_
             refine TV rfl rfl rfl (Val.fieldAddrE Try.underlying35 rfl fsz31 rfl rfl) ?_
             refine TV rfl rfl rfl (Val.loadS agg31 rfl (hcl5594 0 _ rfl)) ?_
             refine TV rfl rfl rfl (Val.move rfl) ?_
             obtain ⟨y5601,hx5602,h⟩:=bind_no h
             obtain ⟨ad5603,cs5609,hA5604,hi5605,hj5606,hcl5607,hK5608⟩:=Rd.at hr5599 hx5602
             obtain ⟨A5610,c5611,rfl,hr5612,hl5613⟩:=k37_openR hK5608
             refine TV rfl rfl rfl (Val.indexAddr Try.underlying31 fsz37 rfl hA5604 rfl hi5605 hj5606) ?_
             refine TV rfl rfl rfl (Val.loadsS (cs:=[VI y5601.f0,VI y5601.f1,VI y5601.f2,VI y5601.f3,VI y5601.f4,.slice A5610 y5601.f5.length c5611]) agg37 fsz37 rfl rfl (Cl.sub (off:=0) (n:=6) hcl5607 rfl)) ?_
             refine TL.cons (TL.alloc (cs:=[VI 0,VI 0,VI 0,VI 0,VI 0,.slice none 0 0]) rfl rfl zr37 rfl (fun b5614=>?_))
             refine TL.cons (TL.store 0 (ds:=[VI y5601.f0,VI y5601.f1,VI y5601.f2,VI y5601.f3,VI y5601.f4,.slice A5610 y5601.f5.length c5611]) (cs':=[VI y5601.f0,VI y5601.f1,VI y5601.f2,VI y5601.f3,VI y5601.f4,.slice A5610 y5601.f5.length c5611]) (L':=(Blk b5614 [VI y5601.f0,VI y5601.f1,VI y5601.f2,VI y5601.f3,VI y5601.f4,.slice A5610 y5601.f5.length c5611] 37::Blk b5587 [VI y5574.f0,VI y5574.f1,VI y5574.f2,VI y5574.f3,VI y5574.f4,.slice A5583 y5574.f5.length c5584] 37::Blk b35 [VI y30.f0,.slice A2097 y30.f1.length c2098] 24::Blk b9 [VI a0.f0,.slice A1 a0.f1.length c2] 24::L)) rfl fsz37 rfl rfl rfl rfl rfl (Nat.le_of_ble_eq_true rfl) rfl rfl ?_)
             refine TL.nil ?_
             refine TQ.then_ ?_
             refine TC.seq ?_
             obtain ⟨j5627,hj5627,h⟩:=jn_no h
             refine TC.tail (fun a W=>∃ (x5623:Bool) (G5621:Gd),j5627 x5623=some o5315∧G.le G5621∧Rd G5621 k35 A2097 y30.f1∧Rd G5621 kI A5583 y5574.f5∧Rd G5621 kI A5610 y5601.f5∧Fr 141 a [(2,VP b9 0),(5,.bool y10),(7,VP b35 0),(8,VI x2096),(9,VI x5138),(10,VP b5587 0),(11,VP b5614 0),(12,.bool x5623)]∧Own G5621 (Blk b35 [VI y30.f0,.slice A2097 y30.f1.length c2098] 24::Blk b5587 [VI y5574.f0,VI y5574.f1,VI y5574.f2,VI y5574.f3,VI y5574.f4,.slice A5583 y5574.f5.length c5584] 37::Blk b5614 [VI y5601.f0,VI y5601.f1,VI y5601.f2,VI y5601.f3,VI y5601.f4,.slice A5610 y5601.f5.length c5611] 37::Blk b9 [VI a0.f0,.slice A1 a0.f1.length c2] 24::L) W) ?_ ?_
             ·
              rintro a W ⟨x5623,G5621,h,e5622,hr5624,hr5625,hr5626,hF,hO⟩
              rw [hj5627] at h
              refine TQ.use ?_ hF hO
              clear hF hO
              refine TQ.then_ ?_
              refine TC.seq ?_
              obtain ⟨j5637,hj5637,h⟩:=jn_no h
              refine TC.tail (fun a W=>∃ (x5635:Bool) (G5633:Gd),j5637 x5635=some o5315∧G.le G5633∧Rd G5633 k35 A2097 y30.f1∧Fr 141 a [(2,VP b9 0),(5,.bool y10),(7,VP b35 0),(8,VI x2096),(9,VI x5138),(139,.bool x5635)]∧Own G5633 (Blk b35 [VI y30.f0,.slice A2097 y30.f1.length c2098] 24::Blk b9 [VI a0.f0,.slice A1 a0.f1.length c2] 24::L) W) ?_ ?_
              ·
               rintro a W ⟨x5635,G5633,h,e5634,hr5636,hF,hO⟩
               rw [hj5637] at h
               refine TQ.use ?_ hF hO
               clear hF hO
               refine TQ.then_ ?_
               refine TC.cond_b rfl h (fun hc5639 h=>?_) (fun hc5639 h=>?_)
               ·
                refine TC.seq ?_
                refine TC.region ?_
                refine TV rfl rfl rfl (Val.assign rfl) ?_
                refine TL.nil ?_
                refine TQ.then_ ?_
                refine TC.ret ?_
                refine TQ.inBR ?_
                refine TQ.thenR ?_
                refine TQ.thenR ?_
                refine TQ.inBR ?_
                refine TQ.thenR ?_
                refine TQ.inBR ?_
                refine TQ.thenR ?_
                refine TQ.thenR ?_
                refine TQ.inBR ?_
                refine TQ.thenR ?_
                refine TQ.thenR ?_
                obtain rfl:=Option.some.inj h
                have h:=ko5315
                obtain rfl:=Option.some.inj h
                have h:=ko3105
                obtain rfl:=Option.some.inj h
                exact TQ.fin (.inl rfl) rfl Try.results3 (.tmp rfl .nil) rfl (FRel.mk (Ls:=[]) [] 2 e5634 rfl rfl rfl ⟨rfl,rfl⟩)
               ·
                refine TC.skip ?_
                refine TQ.inB ?_
                refine TQ.then_ ?_
                refine TC.region ?_
                refine TV rfl rfl rfl (Val.move rfl) ?_
                refine TV rfl rfl rfl (Val.cmp rfl rfl run_add) ?_
                refine TV rfl rfl rfl (Val.assign rfl) ?_
                refine TL.nil ?_
                exact fun a W hF hO=>⟨IntKind.i64.wrap (x5138 + 1),G5633,h,e5634,hr5636,hF.sub ⟨rfl,rfl,rfl,rfl,rfl,trivial⟩,hO.selT (Ls:=[Blk b35 [VI y30.f0,.slice A2097 y30.f1.length c2098] 24,Blk b9 [VI a0.f0,.slice A1 a0.f1.length c2] 24]) [0,1] 2 rfl rfl rfl⟩
              ·
               refine TC.region ?_
               refine TV rfl rfl rfl (Val.move rfl) ?_
               refine TV rfl rfl rfl (Val.not_ rfl) ?_
               refine TV rfl rfl rfl (Val.move rfl) ?_
               refine TK.split (p:=(!x5623)=true) h (fun hg5640 h=>?_) (fun hg5640 h=>?_)
               ·
                have hk5641:(!x5623)=true:=hg5640
                refine TV (Wt.yes rfl rfl rfl hk5641) rfl rfl (Val.loadsB 1 (cs:=[VI y5574.f0,VI y5574.f1,VI y5574.f2,VI y5574.f3,VI y5574.f4,.slice A5583 y5574.f5.length c5584]) agg37 fsz37 rfl rfl rfl rfl) ?_
                refine TV (Wt.yes rfl rfl rfl hk5641) rfl rfl (Val.loadsB 2 (cs:=[VI y5601.f0,VI y5601.f1,VI y5601.f2,VI y5601.f3,VI y5601.f4,.slice A5610 y5601.f5.length c5611]) agg37 fsz37 rfl rfl rfl rfl) ?_
                obtain ⟨y5642,hy5643,h⟩:=bind_no h
                refine TL.cons (TL.callV (Lin:=[]) (args:=[.agg #[VI y5574.f0,VI y5574.f1,VI y5574.f2,VI y5574.f3,VI y5574.f4,.slice A5583 y5574.f5.length c5584],.agg #[VI y5601.f0,VI y5601.f1,VI y5601.f2,VI y5601.f3,VI y5601.f4,.slice A5610 y5601.f5.length c5611]]) (Wt.yes rfl rfl rfl hk5641) rfl rfl hbd9 rfl rfl (swageref14_SameOp.calls (a0:=y5574) (a1:=y5601) hr5625 hl5586 hr5626 hl5613 hy5643) rfl ?_)
                rintro _ _ _ _ ⟨rfl,rfl,rfl⟩
                refine TV (Wt.yes rfl rfl rfl hk5641) rfl rfl (Val.not_ rfl) ?_
                refine TV rfl rfl rfl (Val.pickY rfl hk5641 rfl) ?_
                refine TL.nil ?_
                exact fun a W hF hO=>⟨(!y5642),G5621,h,e5622,hr5624,hF.sub ⟨rfl,rfl,rfl,rfl,rfl,rfl,trivial⟩,hO.selT (Ls:=[Blk b35 [VI y30.f0,.slice A2097 y30.f1.length c2098] 24,Blk b9 [VI a0.f0,.slice A1 a0.f1.length c2] 24]) [0,3] 4 rfl rfl rfl⟩
               ·
                have hk5644:(!x5623)=false:=(by simpa using hg5640)
                refine TL.cons (TL.not (Wt.no rfl rfl rfl hk5644) rfl ?_)
                refine TL.cons (TL.not (Wt.no rfl rfl rfl hk5644) rfl ?_)
                refine TL.cons (TL.not (Wt.no rfl rfl rfl hk5644) rfl ?_)
                refine TL.cons (TL.not (Wt.no rfl rfl rfl hk5644) rfl ?_)
                refine TV rfl rfl rfl (Val.pickN rfl hk5644 rfl) ?_
                refine TL.nil ?_
                exact fun a W hF hO=>⟨false,G5621,h,e5622,hr5624,hF.sub ⟨rfl,rfl,rfl,rfl,rfl,rfl,trivial⟩,hO.selT (Ls:=[Blk b35 [VI y30.f0,.slice A2097 y30.f1.length c2098] 24,Blk b9 [VI a0.f0,.slice A1 a0.f1.length c2] 24]) [0,3] 4 rfl rfl rfl⟩
             ·
              refine TC.region ?_
              refine TV rfl rfl rfl (Val.fieldAddrB Try.underlying37 rfl fsz3 rfl rfl rfl) ?_
              refine TV rfl rfl rfl (Val.loadB 1 agg3 rfl rfl rfl) ?_
              refine TV rfl rfl rfl (Val.cmp rfl rfl run_eql) ?_
              refine TV rfl rfl rfl (Val.move rfl) ?_
              refine TK.split (p:=y5574.f0=4) h (fun hg5645 h=>?_) (fun hg5645 h=>?_)
              ·
               have hk5646:decide (y5574.f0=4)=true:=decide_eq_true hg5645
               refine TV (Wt.yes rfl rfl rfl hk5646) rfl rfl (Val.fieldAddrB Try.underlying37 rfl fsz3 rfl rfl rfl) ?_
               refine TV (Wt.yes rfl rfl rfl hk5646) rfl rfl (Val.loadB 0 agg3 rfl rfl rfl) ?_
               refine TV (Wt.yes rfl rfl rfl hk5646) rfl rfl (Val.cmp rfl rfl run_eql) ?_
               refine TV rfl rfl rfl (Val.pickY rfl hk5646 rfl) ?_
               refine TV rfl rfl rfl (Val.move rfl) ?_
               refine TK.split (p:=y5601.f0=3) h (fun hg5647 h=>?_) (fun hg5647 h=>?_)
               ·
                have hk5648:decide (y5601.f0=3)=true:=decide_eq_true hg5647
                refine TV (Wt.yes rfl rfl rfl hk5648) rfl rfl (Val.fieldAddrB Try.underlying37 rfl fsz3 rfl rfl rfl) ?_
                refine TV (Wt.yes rfl rfl rfl hk5648) rfl rfl (Val.loadB 0 agg3 rfl rfl rfl) ?_
                refine TV (Wt.yes rfl rfl rfl hk5648) rfl rfl (Val.fieldAddrB Try.underlying37 rfl fsz3 rfl rfl rfl) ?_
                refine TV (Wt.yes rfl rfl rfl hk5648) rfl rfl (Val.loadB 1 agg3 rfl rfl rfl) ?_
                refine TV (Wt.yes rfl rfl rfl hk5648) rfl rfl (Val.cmp rfl rfl run_eql) ?_
                refine TV rfl rfl rfl (Val.pickY rfl hk5648 rfl) ?_
                refine TV rfl rfl rfl (Val.assign rfl) ?_
                refine TL.nil ?_
                exact fun a W hF hO=>⟨decide (y5601.f1=y5574.f1),G5136,h,e5137,hr5139,hr5585,hr5612,hF.sub ⟨rfl,rfl,rfl,rfl,rfl,rfl,rfl,rfl,trivial⟩,hO.selT (Ls:=[Blk b35 [VI y30.f0,.slice A2097 y30.f1.length c2098] 24,Blk b5587 [VI y5574.f0,VI y5574.f1,VI y5574.f2,VI y5574.f3,VI y5574.f4,.slice A5583 y5574.f5.length c5584] 37,Blk b5614 [VI y5601.f0,VI y5601.f1,VI y5601.f2,VI y5601.f3,VI y5601.f4,.slice A5610 y5601.f5.length c5611] 37,Blk b9 [VI a0.f0,.slice A1 a0.f1.length c2] 24]) [2,1,0,3] 4 rfl rfl rfl⟩
               ·
                have hk5649:decide (y5601.f0=3)=false:=decide_eq_false hg5647
                refine TL.cons (TL.not (Wt.no rfl rfl rfl hk5649) rfl ?_)
                refine TL.cons (TL.not (Wt.no rfl rfl rfl hk5649) rfl ?_)
                refine TL.cons (TL.not (Wt.no rfl rfl rfl hk5649) rfl ?_)
                refine TL.cons (TL.not (Wt.no rfl rfl rfl hk5649) rfl ?_)
                refine TL.cons (TL.not (Wt.no rfl rfl rfl hk5649) rfl ?_)
                refine TV rfl rfl rfl (Val.pickN rfl hk5649 rfl) ?_
                refine TV rfl rfl rfl (Val.assign rfl) ?_
                refine TL.nil ?_
                exact fun a W hF hO=>⟨false,G5136,h,e5137,hr5139,hr5585,hr5612,hF.sub ⟨rfl,rfl,rfl,rfl,rfl,rfl,rfl,rfl,trivial⟩,hO.selT (Ls:=[Blk b35 [VI y30.f0,.slice A2097 y30.f1.length c2098] 24,Blk b5587 [VI y5574.f0,VI y5574.f1,VI y5574.f2,VI y5574.f3,VI y5574.f4,.slice A5583 y5574.f5.length c5584] 37,Blk b5614 [VI y5601.f0,VI y5601.f1,VI y5601.f2,VI y5601.f3,VI y5601.f4,.slice A5610 y5601.f5.length c5611] 37,Blk b9 [VI a0.f0,.slice A1 a0.f1.length c2] 24]) [2,1,0,3] 4 rfl rfl rfl⟩
              ·
               have hk5650:decide (y5574.f0=4)=false:=decide_eq_false hg5645
               refine TL.cons (TL.not (Wt.no rfl rfl rfl hk5650) rfl ?_)
               refine TL.cons (TL.not (Wt.no rfl rfl rfl hk5650) rfl ?_)
               refine TL.cons (TL.not (Wt.no rfl rfl rfl hk5650) rfl ?_)
               refine TV rfl rfl rfl (Val.pickN rfl hk5650 rfl) ?_
               refine TV rfl rfl rfl (Val.move rfl) ?_
               refine TL.cons (TL.not (Wt.no rfl rfl rfl rfl) rfl ?_)
               refine TL.cons (TL.not (Wt.no rfl rfl rfl rfl) rfl ?_)
               refine TL.cons (TL.not (Wt.no rfl rfl rfl rfl) rfl ?_)
               refine TL.cons (TL.not (Wt.no rfl rfl rfl rfl) rfl ?_)
               refine TL.cons (TL.not (Wt.no rfl rfl rfl rfl) rfl ?_)
               refine TV rfl rfl rfl (Val.pickN rfl rfl rfl) ?_
               refine TV rfl rfl rfl (Val.assign rfl) ?_
               refine TL.nil ?_
               exact fun a W hF hO=>⟨false,G5136,h,e5137,hr5139,hr5585,hr5612,hF.sub ⟨rfl,rfl,rfl,rfl,rfl,rfl,rfl,rfl,trivial⟩,hO.selT (Ls:=[Blk b35 [VI y30.f0,.slice A2097 y30.f1.length c2098] 24,Blk b5587 [VI y5574.f0,VI y5574.f1,VI y5574.f2,VI y5574.f3,VI y5574.f4,.slice A5583 y5574.f5.length c5584] 37,Blk b5614 [VI y5601.f0,VI y5601.f1,VI y5601.f2,VI y5601.f3,VI y5601.f4,.slice A5610 y5601.f5.length c5611] 37,Blk b9 [VI a0.f0,.slice A1 a0.f1.length c2] 24]) [2,1,0,3] 4 rfl rfl rfl⟩
            ·
             refine TC.exit ?_
             refine TQ.thenX ?_
             refine TQ.thenX ?_
             refine TQ.inBX ?_
             exact fun a W hF hO=>⟨G5136,A2097,c2098,Option.some.inj h,e5137,hr5139,hl2100,hF.sub ⟨rfl,rfl,rfl,rfl,trivial⟩,hO.selT (Ls:=[Blk b35 [VI y30.f0,.slice A2097 y30.f1.length c2098] 24,Blk b9 [VI a0.f0,.slice A1 a0.f1.length c2] 24]) [0,1] 2 rfl rfl rfl⟩
        ·
         refine TC.regionAny [] [0,1,2,3,4,5,6,7,8,9,10,11,12,13,14,15,16,17,18,19,20,21,22,23,24,25,26,27,28,29] mixed (by kernel_rfl) ?_
         refine TA.take 0 rfl (by kernel_rfl) rfl (PQ.then_ (PQ.then_ (PQ.then_ (PQ.inB (PQ.then_ (PQ.then_ (PQ.inB (PQ.then_ (PQ.then_ PQ.body))))))))) rfl (Val.fieldAddrB Try.underlying24 rfl fsz22 rfl rfl rfl) (fun W hO=>hO) ?_
         refine TA.take 1 rfl (by kernel_rfl) rfl (PQ.then_ (PQ.then_ (PQ.then_ (PQ.inB (PQ.then_ (PQ.then_ (PQ.inB (PQ.then_ (PQ.then_ PQ.body))))))))) rfl (Val.loadB 0 agg22 rfl rfl rfl) (fun W hO=>hO) ?_
         refine TA.take 2 rfl (by kernel_rfl) rfl (PQ.then_ (PQ.then_ (PQ.then_ (PQ.inB (PQ.then_ (PQ.then_ (PQ.inB (PQ.then_ (PQ.then_ PQ.body))))))))) rfl (Val.move rfl) (fun W hO=>hO) ?_
         obtain ⟨y5680,hx5681,h⟩:=bind_no h
         obtain ⟨ad5682,cs5688,hA5683,hi5684,hj5685,hcl5686,hK5687⟩:=Rd.at hr2099 hx5681
         obtain ⟨A5689,c5690,rfl,hr5691,hl5692⟩:=k35_openR hK5687
         refine TA.take 3 rfl (by kernel_rfl) rfl (PQ.then_ (PQ.then_ (PQ.then_ (PQ.inB (PQ.then_ (PQ.then_ (PQ.inB (PQ.then_ (PQ.then_ PQ.body))))))))) rfl (Val.indexAddr Try.underlying22 fsz35 rfl hA5683 rfl hi5684 hj5685) (fun W hO=>hO) ?_
         refine TA.take 4 rfl (by kernel_rfl) rfl (PQ.then_ (PQ.then_ (PQ.then_ (PQ.inB (PQ.then_ (PQ.then_ (PQ.inB (PQ.then_ (PQ.then_ PQ.body))))))))) rfl (Val.fieldAddrE Try.underlying35 rfl fsz31 rfl rfl) (fun W hO=>hO) ?_
         refine TA.take 5 rfl (by kernel_rfl) rfl (PQ.then_ (PQ.then_ (PQ.then_ (PQ.inB (PQ.then_ (PQ.then_ (PQ.inB (PQ.then_ (PQ.then_ PQ.body))))))))) rfl (Val.loadS agg31 rfl (hcl5686 0 _ rfl)) (fun W hO=>hO) ?_
         refine TA.take 6 rfl (by kernel_rfl) rfl (PQ.then_ (PQ.then_ (PQ.then_ (PQ.inB (PQ.then_ (PQ.then_ (PQ.inB (PQ.then_ (PQ.then_ PQ.body))))))))) rfl (Val.len Try.underlying31 rfl) (fun W hO=>hO) ?_
         refine TA.take 7 rfl (by kernel_rfl) rfl (PQ.then_ (PQ.then_ (PQ.then_ (PQ.inB (PQ.then_ (PQ.then_ (PQ.inB (PQ.then_ (PQ.then_ PQ.body))))))))) rfl (Val.fieldAddrB Try.underlying24 rfl fsz22 rfl rfl rfl) (fun W hO=>hO) ?_
         refine TA.take 8 rfl (by kernel_rfl) rfl (PQ.then_ (PQ.then_ (PQ.then_ (PQ.inB (PQ.then_ (PQ.then_ (PQ.inB (PQ.then_ (PQ.then_ PQ.body))))))))) rfl (Val.loadB 1 agg22 rfl rfl rfl) (fun W hO=>hO) ?_
         refine TA.take 9 rfl (by kernel_rfl) rfl (PQ.then_ (PQ.then_ (PQ.then_ (PQ.inB (PQ.then_ (PQ.then_ (PQ.inB (PQ.then_ (PQ.then_ PQ.body))))))))) rfl (Val.move rfl) (fun W hO=>hO) ?_
         obtain ⟨y5693,hx5694,h⟩:=bind_no h
         obtain ⟨ad5695,cs5701,hA5696,hi5697,hj5698,hcl5699,hK5700⟩:=Rd.at (hr3.up e2095) hx5694
         obtain ⟨A5702,c5703,rfl,hr5704,hl5705⟩:=k35_openR hK5700
         refine TA.take 10 rfl (by kernel_rfl) rfl (PQ.then_ (PQ.then_ (PQ.then_ (PQ.inB (PQ.then_ (PQ.then_ (PQ.inB (PQ.then_ (PQ.then_ PQ.body))))))))) rfl (Val.indexAddr Try.underlying22 fsz35 rfl hA5696 rfl hi5697 hj5698) (fun W hO=>hO) ?_
         refine TA.take 11 rfl (by kernel_rfl) rfl (PQ.then_ (PQ.then_ (PQ.then_ (PQ.inB (PQ.then_ (PQ.then_ (PQ.inB (PQ.then_ (PQ.then_ PQ.body))))))))) rfl (Val.fieldAddrE Try.underlying35 rfl fsz31 rfl rfl) (fun W hO=>hO) ?_
         refine TA.take 12 rfl (by kernel_rfl) rfl (PQ.then_ (PQ.then_ (PQ.then_ (PQ.inB (PQ.then_ (PQ.then_ (PQ.inB (PQ.then_ (PQ.then_ PQ.body))))))))) rfl (Val.loadS agg31 rfl (hcl5699 0 _ rfl)) (fun W hO=>hO) ?_
         refine TA.take 13 rfl (by kernel_rfl) rfl (PQ.then_ (PQ.then_ (PQ.then_ (PQ.inB (PQ.then_ (PQ.then_ (PQ.inB (PQ.then_ (PQ.then_ PQ.body))))))))) rfl (Val.len Try.underlying31 rfl) (fun W hO=>hO) ?_
         refine TA.take 14 rfl (by kernel_rfl) rfl (PQ.then_ (PQ.then_ (PQ.then_ (PQ.inB (PQ.then_ (PQ.then_ (PQ.inB (PQ.then_ (PQ.then_ PQ.body))))))))) rfl (Val.cmp rfl rfl run_neq) (fun W hO=>hO) ?_
         refine TA.take 15 rfl (by kernel_rfl) rfl (PQ.then_ (PQ.then_ (PQ.then_ (PQ.inB (PQ.then_ (PQ.then_ (PQ.inB (PQ.then_ (PQ.then_ PQ.body))))))))) rfl (Val.move rfl) (fun W hO=>hO) ?_
         refine TK.split (p:=(!decide ((y5680.f0.length:Int)=(y5693.f0.length:Int)))=true) h (fun hg5706 h=>?_) (fun hg5706 h=>?_)
         ·
          have hk5707:(!decide ((y5680.f0.length:Int)=(y5693.f0.length:Int)))=true:=hg5706
          refine TA.not 16 rfl (by kernel_rfl) rfl (PQ.then_ (PQ.then_ (PQ.then_ (PQ.inB (PQ.then_ (PQ.then_ (PQ.inB (PQ.then_ (PQ.then_ PQ.body))))))))) (Wt.no rfl rfl rfl hk5707) (fun W hO=>hO) ?_
          refine TA.not 17 rfl (by kernel_rfl) rfl (PQ.then_ (PQ.then_ (PQ.then_ (PQ.inB (PQ.then_ (PQ.then_ (PQ.inB (PQ.then_ (PQ.then_ PQ.body))))))))) (Wt.no rfl rfl rfl hk5707) (fun W hO=>hO) ?_
          refine TA.not 18 rfl (by kernel_rfl) rfl (PQ.then_ (PQ.then_ (PQ.then_ (PQ.inB (PQ.then_ (PQ.then_ (PQ.inB (PQ.then_ (PQ.then_ PQ.body))))))))) (Wt.no rfl rfl rfl hk5707) (fun W hO=>hO) ?_
          refine TA.not 19 rfl (by kernel_rfl) rfl (PQ.then_ (PQ.then_ (PQ.then_ (PQ.inB (PQ.then_ (PQ.then_ (PQ.inB (PQ.then_ (PQ.then_ PQ.body))))))))) (Wt.no rfl rfl rfl hk5707) (fun W hO=>hO) ?_
          refine TA.not 20 rfl (by kernel_rfl) rfl (PQ.then_ (PQ.then_ (PQ.then_ (PQ.inB (PQ.then_ (PQ.then_ (PQ.inB (PQ.then_ (PQ.then_ PQ.body))))))))) (Wt.no rfl rfl rfl hk5707) (fun W hO=>hO) ?_
          refine TA.not 21 rfl (by kernel_rfl) rfl (PQ.then_ (PQ.then_ (PQ.then_ (PQ.inB (PQ.then_ (PQ.then_ (PQ.inB (PQ.then_ (PQ.then_ PQ.body))))))))) (Wt.no rfl rfl rfl hk5707) (fun W hO=>hO) ?_
          refine TA.not 22 rfl (by kernel_rfl) rfl (PQ.then_ (PQ.then_ (PQ.then_ (PQ.inB (PQ.then_ (PQ.then_ (PQ.inB (PQ.then_ (PQ.then_ PQ.body))))))))) (Wt.no rfl rfl rfl hk5707) (fun W hO=>hO) ?_
          refine TA.not 23 rfl (by kernel_rfl) rfl (PQ.then_ (PQ.then_ (PQ.then_ (PQ.inB (PQ.then_ (PQ.then_ (PQ.inB (PQ.then_ (PQ.then_ PQ.body))))))))) (Wt.no rfl rfl rfl hk5707) (fun W hO=>hO) ?_
          refine TA.not 24 rfl (by kernel_rfl) rfl (PQ.then_ (PQ.then_ (PQ.then_ (PQ.inB (PQ.then_ (PQ.then_ (PQ.inB (PQ.then_ (PQ.then_ PQ.body))))))))) (Wt.no rfl rfl rfl hk5707) (fun W hO=>hO) ?_
          refine TA.not 25 rfl (by kernel_rfl) rfl (PQ.then_ (PQ.then_ (PQ.then_ (PQ.inB (PQ.then_ (PQ.then_ (PQ.inB (PQ.then_ (PQ.then_ PQ.body))))))))) (Wt.no rfl rfl rfl hk5707) (fun W hO=>hO) ?_
          refine TA.not 26 rfl (by kernel_rfl) rfl (PQ.then_ (PQ.then_ (PQ.then_ (PQ.inB (PQ.then_ (PQ.then_ (PQ.inB (PQ.then_ (PQ.then_ PQ.body))))))))) (Wt.no rfl rfl rfl hk5707) (fun W hO=>hO) ?_
          refine TA.not 27 rfl (by kernel_rfl) rfl (PQ.then_ (PQ.then_ (PQ.then_ (PQ.inB (PQ.then_ (PQ.then_ (PQ.inB (PQ.then_ (PQ.then_ PQ.body))))))))) (Wt.no rfl rfl rfl hk5707) (fun W hO=>hO) ?_
          refine TA.not 28 rfl (by kernel_rfl) rfl (PQ.then_ (PQ.then_ (PQ.then_ (PQ.inB (PQ.then_ (PQ.then_ (PQ.inB (PQ.then_ (PQ.then_ PQ.body))))))))) (Wt.no rfl rfl rfl hk5707) (fun W hO=>hO) ?_
          refine TA.take 29 rfl (by kernel_rfl) rfl (PQ.then_ (PQ.then_ (PQ.then_ (PQ.inB (PQ.then_ (PQ.then_ (PQ.inB (PQ.then_ (PQ.then_ PQ.body))))))))) rfl (Val.pickY rfl hk5707 rfl) (fun W hO=>hO) ?_
          refine TA.done (by kernel_rfl) ?_
          exact fun a W hF hO=>⟨true,G2094,h,e2095,hr2099,hF.sub ⟨rfl,rfl,rfl,rfl,rfl,trivial⟩,hO.selT (Ls:=[Blk b35 [VI y30.f0,.slice A2097 y30.f1.length c2098] 24,Blk b9 [VI a0.f0,.slice A1 a0.f1.length c2] 24]) [0,1] 2 rfl rfl rfl⟩
         ·
          have hk5708:(!decide ((y5680.f0.length:Int)=(y5693.f0.length:Int)))=false:=(by simpa using hg5706)
          refine TA.take 16 rfl (by kernel_rfl) rfl (PQ.then_ (PQ.then_ (PQ.then_ (PQ.inB (PQ.then_ (PQ.then_ (PQ.inB (PQ.then_ (PQ.then_ PQ.body))))))))) (Wt.yes rfl rfl rfl hk5708) (Val.fieldAddrB Try.underlying24 rfl fsz22 rfl rfl rfl) (fun W hO=>hO) ?_
          refine TA.take 17 rfl (by kernel_rfl) rfl (PQ.then_ (PQ.then_ (PQ.then_ (PQ.inB (PQ.then_ (PQ.then_ (PQ.inB (PQ.then_ (PQ.then_ PQ.body))))))))) (Wt.yes rfl rfl rfl hk5708) (Val.loadB 0 agg22 rfl rfl rfl) (fun W hO=>hO) ?_
          refine TA.take 18 rfl (by kernel_rfl) rfl (PQ.then_ (PQ.then_ (PQ.then_ (PQ.inB (PQ.then_ (PQ.then_ (PQ.inB (PQ.then_ (PQ.then_ PQ.body))))))))) (Wt.yes rfl rfl rfl hk5708) (Val.move rfl) (fun W hO=>hO) ?_
          refine TA.take 19 rfl (by kernel_rfl) rfl (PQ.then_ (PQ.then_ (PQ.then_ (PQ.inB (PQ.then_ (PQ.then_ (PQ.inB (PQ.then_ (PQ.then_ PQ.body))))))))) (Wt.yes rfl rfl rfl hk5708) (Val.indexAddr Try.underlying22 fsz35 rfl hA5683 rfl hi5684 hj5685) (fun W hO=>hO) ?_
          refine TA.take 20 rfl (by kernel_rfl) rfl (PQ.then_ (PQ.then_ (PQ.then_ (PQ.inB (PQ.then_ (PQ.then_ (PQ.inB (PQ.then_ (PQ.then_ PQ.body))))))))) (Wt.yes rfl rfl rfl hk5708) (Val.fieldAddrE Try.underlying35 rfl fsz33 rfl rfl) (fun W hO=>hO) ?_
          refine TA.take 21 rfl (by kernel_rfl) rfl (PQ.then_ (PQ.then_ (PQ.then_ (PQ.inB (PQ.then_ (PQ.then_ (PQ.inB (PQ.then_ (PQ.then_ PQ.body))))))))) (Wt.yes rfl rfl rfl hk5708) (Val.loadsS (cs:=[VI y5680.f1.f0,VI y5680.f1.f1,VI y5680.f1.f2,VI y5680.f1.f3]) agg33 fsz33 rfl rfl (Cl.sub (off:=1) (n:=4) hcl5686 rfl)) (fun W hO=>hO) ?_
          refine TA.take 22 rfl (by kernel_rfl) rfl (PQ.then_ (PQ.then_ (PQ.then_ (PQ.inB (PQ.then_ (PQ.then_ (PQ.inB (PQ.then_ (PQ.then_ PQ.body))))))))) (Wt.yes rfl rfl rfl hk5708) (Val.fieldAddrB Try.underlying24 rfl fsz22 rfl rfl rfl) (fun W hO=>hO) ?_
          refine TA.take 23 rfl (by kernel_rfl) rfl (PQ.then_ (PQ.then_ (PQ.then_ (PQ.inB (PQ.then_ (PQ.then_ (PQ.inB (PQ.then_ (PQ.then_ PQ.body))))))))) (Wt.yes rfl rfl rfl hk5708) (Val.loadB 1 agg22 rfl rfl rfl) (fun W hO=>hO) ?_
          refine TA.take 24 rfl (by kernel_rfl) rfl (PQ.then_ (PQ.then_ (PQ.then_ (PQ.inB (PQ.then_ (PQ.then_ (PQ.inB (PQ.then_ (PQ.then_ PQ.body))))))))) (Wt.yes rfl rfl rfl hk5708) (Val.move rfl) (fun W hO=>hO) ?_
          refine TA.take 25 rfl (by kernel_rfl) rfl (PQ.then_ (PQ.then_ (PQ.then_ (PQ.inB (PQ.then_ (PQ.then_ (PQ.inB (PQ.then_ (PQ.then_ PQ.body))))))))) (Wt.yes rfl rfl rfl hk5708) (Val.indexAddr Try.underlying22 fsz35 rfl hA5696 rfl hi5697 hj5698) (fun W hO=>hO) ?_
          refine TA.take 26 rfl (by kernel_rfl) rfl (PQ.then_ (PQ.then_ (PQ.then_ (PQ.inB (PQ.then_ (PQ.then_ (PQ.inB (PQ.then_ (PQ.then_ PQ.body))))))))) (Wt.yes rfl rfl rfl hk5708) (Val.fieldAddrE Try.underlying35 rfl fsz33 rfl rfl) (fun W hO=>hO) ?_
          refine TA.take 27 rfl (by kernel_rfl) rfl (PQ.then_ (PQ.then_ (PQ.then_ (PQ.inB (PQ.then_ (PQ.then_ (PQ.inB (PQ.then_ (PQ.then_ PQ.body))))))))) (Wt.yes rfl rfl rfl hk5708) (Val.loadsS (cs:=[VI y5693.f1.f0,VI y5693.f1.f1,VI y5693.f1.f2,VI y5693.f1.f3]) agg33 fsz33 rfl rfl (Cl.sub (off:=1) (n:=4) hcl5699 rfl)) (fun W hO=>hO) ?_
          refine TA.take 28 rfl (by kernel_rfl) rfl (PQ.then_ (PQ.then_ (PQ.then_ (PQ.inB (PQ.then_ (PQ.then_ (PQ.inB (PQ.then_ (PQ.then_ PQ.body))))))))) (Wt.yes rfl rfl rfl hk5708) (Val.neA eqg33 rfl rfl (fun W=>eqs33 9998 W _ _ _ _ _ _ _ _)) (fun W hO=>hO) ?_
          refine TA.take 29 rfl (by kernel_rfl) rfl (PQ.then_ (PQ.then_ (PQ.then_ (PQ.inB (PQ.then_ (PQ.then_ (PQ.inB (PQ.then_ (PQ.then_ PQ.body))))))))) rfl (Val.pickN rfl hk5708 rfl) (fun W hO=>hO) ?_
          refine TA.done (by kernel_rfl) ?_
          exact fun a W hF hO=>⟨(!((y5680.f1.f0 == y5693.f1.f0) && ((y5680.f1.f1 == y5693.f1.f1) && ((y5680.f1.f2 == y5693.f1.f2) && (y5680.f1.f3 == y5693.f1.f3))))),G2094,h,e2095,hr2099,hF.sub ⟨rfl,rfl,rfl,rfl,rfl,trivial⟩,hO.selT (Ls:=[Blk b35 [VI y30.f0,.slice A2097 y30.f1.length c2098] 24,Blk b9 [VI a0.f0,.slice A1 a0.f1.length c2] 24]) [0,1] 2 rfl rfl rfl⟩
       ·
        refine TC.exit ?_
        refine TQ.thenX ?_
        refine TQ.thenX ?_
        refine TQ.inBX ?_
        exact fun a W hF hO=>⟨G2094,Option.some.inj h,e2095,hF.sub ⟨rfl,trivial⟩,hO.selT (Ls:=[]) [] 2 rfl rfl rfl⟩
   ·
    refine TC.sel (Ls:=[Row k35 35 (.slice A32 y30.f1.length c33) y30.f1,Blk b35 [VI y30.f0,.slice A32 y30.f1.length c33] 24,Blk b9 [VI a0.f0,.slice A1 a0.f1.length c2] 24]) [1,0,2] 3 rfl rfl rfl ?_
    refine TC.share (fun G5726 e5727 hs5728 _=>?_)
    have rd5729:Rd G5726 k35 A32 y30.f1:=Rd.row hs5728
    have le5730:y30.f1.length ≤ c33:=Row.le hs5728
    refine TC.regionAny [] [0,2,3,4,5,6,7,8,9,10,11,12,13,14,15,16,17,18] mixed (by kernel_rfl) ?_
    refine TA.take 0 rfl (by kernel_rfl) rfl (PQ.then_ (PQ.then_ (PQ.then_ PQ.body))) rfl (Val.loadsB 0 (cs:=[VI y30.f0,.slice A32 y30.f1.length c33]) agg24 fsz24 rfl rfl rfl rfl) (fun W hO=>hO) ?_
    obtain ⟨y5731,hy5732,h⟩:=bind_no h
    refine TA.eff 1 rfl (by kernel_rfl) rfl (TL.callV (Lin:=[]) (args:=[.agg #[VI y30.f0,.slice A32 y30.f1.length c33],VI 256]) rfl rfl rfl hbd6 rfl rfl (code_Right.calls (a0:=y30) (a1:=256) rd5729 le5730 hy5732) rfl ?_)
    rintro _ _ _ _ ⟨rfl,rfl,rfl⟩
    refine TA.next (fun W hO=>hO) ?_
    refine TA.take 2 rfl (by kernel_rfl) rfl (PQ.then_ (PQ.then_ (PQ.then_ PQ.body))) rfl (Val.not_ rfl) (fun W hO=>hO) ?_
    refine TA.take 3 rfl (by kernel_rfl) rfl (PQ.then_ (PQ.then_ (PQ.then_ PQ.body))) rfl (Val.move rfl) (fun W hO=>hO) ?_
    refine TK.split (p:=(!y5731)=true) h (fun hg5733 h=>?_) (fun hg5733 h=>?_)
    ·
     have hk5734:(!y5731)=true:=hg5733
     refine TA.not 4 rfl (by kernel_rfl) rfl (PQ.then_ (PQ.then_ (PQ.then_ PQ.body))) (Wt.no rfl rfl rfl hk5734) (fun W hO=>hO) ?_
     refine TA.not 5 rfl (by kernel_rfl) rfl (PQ.then_ (PQ.then_ (PQ.then_ PQ.body))) (Wt.no rfl rfl rfl hk5734) (fun W hO=>hO) ?_
     refine TA.not 6 rfl (by kernel_rfl) rfl (PQ.then_ (PQ.then_ (PQ.then_ PQ.body))) (Wt.no rfl rfl rfl hk5734) (fun W hO=>hO) ?_
     refine TA.not 7 rfl (by kernel_rfl) rfl (PQ.then_ (PQ.then_ (PQ.then_ PQ.body))) (Wt.no rfl rfl rfl hk5734) (fun W hO=>hO) ?_
     refine TA.not 8 rfl (by kernel_rfl) rfl (PQ.then_ (PQ.then_ (PQ.then_ PQ.body))) (Wt.no rfl rfl rfl hk5734) (fun W hO=>hO) ?_
     refine TA.not 9 rfl (by kernel_rfl) rfl (PQ.then_ (PQ.then_ (PQ.then_ PQ.body))) (Wt.no rfl rfl rfl hk5734) (fun W hO=>hO) ?_
     refine TA.not 10 rfl (by kernel_rfl) rfl (PQ.then_ (PQ.then_ (PQ.then_ PQ.body))) (Wt.no rfl rfl rfl hk5734) (fun W hO=>hO) ?_
     refine TA.take 11 rfl (by kernel_rfl) rfl (PQ.then_ (PQ.then_ (PQ.then_ PQ.body))) rfl (Val.pickY rfl hk5734 rfl) (fun W hO=>hO) ?_
     refine TA.take 12 rfl (by kernel_rfl) rfl (PQ.then_ (PQ.then_ (PQ.then_ PQ.body))) rfl (Val.move rfl) (fun W hO=>hO) ?_
     refine TA.not 13 rfl (by kernel_rfl) rfl (PQ.then_ (PQ.then_ (PQ.then_ PQ.body))) (Wt.no rfl rfl rfl rfl) (fun W hO=>hO) ?_
     refine TA.not 14 rfl (by kernel_rfl) rfl (PQ.then_ (PQ.then_ (PQ.then_ PQ.body))) (Wt.no rfl rfl rfl rfl) (fun W hO=>hO) ?_
     refine TA.not 15 rfl (by kernel_rfl) rfl (PQ.then_ (PQ.then_ (PQ.then_ PQ.body))) (Wt.no rfl rfl rfl rfl) (fun W hO=>hO) ?_
     refine TA.not 16 rfl (by kernel_rfl) rfl (PQ.then_ (PQ.then_ (PQ.then_ PQ.body))) (Wt.no rfl rfl rfl rfl) (fun W hO=>hO) ?_
     refine TA.not 17 rfl (by kernel_rfl) rfl (PQ.then_ (PQ.then_ (PQ.then_ PQ.body))) (Wt.no rfl rfl rfl rfl) (fun W hO=>hO) ?_
     refine TA.take 18 rfl (by kernel_rfl) rfl (PQ.then_ (PQ.then_ (PQ.then_ PQ.body))) rfl (Val.pickY rfl rfl rfl) (fun W hO=>hO) ?_
     refine TA.done (by kernel_rfl) ?_
     exact fun a W hF hO=>⟨true,G5726,A32,c33,h,(Gd.le.trans e25 e5727),rd5729,le5730,hF.sub ⟨rfl,rfl,rfl,rfl,trivial⟩,hO.selT (Ls:=[Blk b35 [VI y30.f0,.slice A32 y30.f1.length c33] 24,Blk b9 [VI a0.f0,.slice A1 a0.f1.length c2] 24]) [0,1] 2 rfl rfl rfl⟩
    ·
     have hk5735:(!y5731)=false:=(by simpa using hg5733)
     refine TA.take 4 rfl (by kernel_rfl) rfl (PQ.then_ (PQ.then_ (PQ.then_ PQ.body))) (Wt.yes rfl rfl rfl hk5735) (Val.fieldAddrB Try.underlying24 rfl fsz22 rfl rfl rfl) (fun W hO=>hO) ?_
     refine TA.take 5 rfl (by kernel_rfl) rfl (PQ.then_ (PQ.then_ (PQ.then_ PQ.body))) (Wt.yes rfl rfl rfl hk5735) (Val.loadB 0 agg22 rfl rfl rfl) (fun W hO=>hO) ?_
     refine TA.take 6 rfl (by kernel_rfl) rfl (PQ.then_ (PQ.then_ (PQ.then_ PQ.body))) (Wt.yes rfl rfl rfl hk5735) (Val.len Try.underlying22 rfl) (fun W hO=>hO) ?_
     refine TA.take 7 rfl (by kernel_rfl) rfl (PQ.then_ (PQ.then_ (PQ.then_ PQ.body))) (Wt.yes rfl rfl rfl hk5735) (Val.fieldAddrB Try.underlying24 rfl fsz22 rfl rfl rfl) (fun W hO=>hO) ?_
     refine TA.take 8 rfl (by kernel_rfl) rfl (PQ.then_ (PQ.then_ (PQ.then_ PQ.body))) (Wt.yes rfl rfl rfl hk5735) (Val.loadB 1 agg22 rfl rfl rfl) (fun W hO=>hO) ?_
     refine TA.take 9 rfl (by kernel_rfl) rfl (PQ.then_ (PQ.then_ (PQ.then_ PQ.body))) (Wt.yes rfl rfl rfl hk5735) (Val.len Try.underlying22 rfl) (fun W hO=>hO) ?_
     refine TA.take 10 rfl (by kernel_rfl) rfl (PQ.then_ (PQ.then_ (PQ.then_ PQ.body))) (Wt.yes rfl rfl rfl hk5735) (Val.cmp rfl rfl run_neq) (fun W hO=>hO) ?_
     refine TA.take 11 rfl (by kernel_rfl) rfl (PQ.then_ (PQ.then_ (PQ.then_ PQ.body))) rfl (Val.pickN rfl hk5735 rfl) (fun W hO=>hO) ?_
     refine TA.take 12 rfl (by kernel_rfl) rfl (PQ.then_ (PQ.then_ (PQ.then_ PQ.body))) rfl (Val.move rfl) (fun W hO=>hO) ?_
     refine TK.split (p:=(!decide ((y30.f1.length:Int)=(a0.f1.length:Int)))=true) h (fun hg5736 h=>?_) (fun hg5736 h=>?_)
     ·
      have hk5737:(!decide ((y30.f1.length:Int)=(a0.f1.length:Int)))=true:=hg5736
      refine TA.not 13 rfl (by kernel_rfl) rfl (PQ.then_ (PQ.then_ (PQ.then_ PQ.body))) (Wt.no rfl rfl rfl hk5737) (fun W hO=>hO) ?_
      refine TA.not 14 rfl (by kernel_rfl) rfl (PQ.then_ (PQ.then_ (PQ.then_ PQ.body))) (Wt.no rfl rfl rfl hk5737) (fun W hO=>hO) ?_
      refine TA.not 15 rfl (by kernel_rfl) rfl (PQ.then_ (PQ.then_ (PQ.then_ PQ.body))) (Wt.no rfl rfl rfl hk5737) (fun W hO=>hO) ?_
      refine TA.not 16 rfl (by kernel_rfl) rfl (PQ.then_ (PQ.then_ (PQ.then_ PQ.body))) (Wt.no rfl rfl rfl hk5737) (fun W hO=>hO) ?_
      refine TA.not 17 rfl (by kernel_rfl) rfl (PQ.then_ (PQ.then_ (PQ.then_ PQ.body))) (Wt.no rfl rfl rfl hk5737) (fun W hO=>hO) ?_
      refine TA.take 18 rfl (by kernel_rfl) rfl (PQ.then_ (PQ.then_ (PQ.then_ PQ.body))) rfl (Val.pickY rfl hk5737 rfl) (fun W hO=>hO) ?_
      refine TA.done (by kernel_rfl) ?_
      exact fun a W hF hO=>⟨true,G5726,A32,c33,h,(Gd.le.trans e25 e5727),rd5729,le5730,hF.sub ⟨rfl,rfl,rfl,rfl,trivial⟩,hO.selT (Ls:=[Blk b35 [VI y30.f0,.slice A32 y30.f1.length c33] 24,Blk b9 [VI a0.f0,.slice A1 a0.f1.length c2] 24]) [0,1] 2 rfl rfl rfl⟩
     ·
      have hk5738:(!decide ((y30.f1.length:Int)=(a0.f1.length:Int)))=false:=(by simpa using hg5736)
      refine TA.take 13 rfl (by kernel_rfl) rfl (PQ.then_ (PQ.then_ (PQ.then_ PQ.body))) (Wt.yes rfl rfl rfl hk5738) (Val.loadsB 0 (cs:=[VI y30.f0,.slice A32 y30.f1.length c33]) agg24 fsz24 rfl rfl rfl rfl) (fun W hO=>hO) ?_
      refine TA.take 15 rfl (by kernel_rfl) rfl (PQ.then_ (PQ.then_ (PQ.then_ PQ.body))) (Wt.yes rfl rfl rfl hk5738) (Val.loadsB 1 (cs:=[VI a0.f0,.slice A1 a0.f1.length c2]) agg24 fsz24 rfl rfl rfl rfl) (fun W hO=>hO) ?_
      obtain ⟨y5739,hy5740,h⟩:=bind_no h
      refine TA.eff 14 rfl (by kernel_rfl) rfl (TL.callV (Lin:=[]) (args:=[.agg #[VI y30.f0,.slice A32 y30.f1.length c33]]) (Wt.yes rfl rfl rfl hk5738) rfl rfl hbd8 rfl rfl (forward_Loads.calls (a0:=y30) rd5729 le5730 hy5740) rfl ?_)
      rintro _ _ _ _ ⟨rfl,rfl,rfl⟩
      refine TA.next (fun W hO=>hO) ?_
      obtain ⟨y5741,hy5742,h⟩:=bind_no h
      refine TA.eff 16 rfl (by kernel_rfl) rfl (TL.callV (Lin:=[]) (args:=[.agg #[VI a0.f0,.slice A1 a0.f1.length c2]]) (Wt.yes rfl rfl rfl hk5738) rfl rfl hbd8 rfl rfl (forward_Loads.calls (a0:=a0) (hr3.up (Gd.le.trans e25 e5727)) hl4 hy5742) rfl ?_)
      rintro _ _ _ _ ⟨rfl,rfl,rfl⟩
      refine TA.next (fun W hO=>hO) ?_
      refine TA.take 17 rfl (by kernel_rfl) rfl (PQ.then_ (PQ.then_ (PQ.then_ PQ.body))) (Wt.yes rfl rfl rfl hk5738) (Val.cmp rfl rfl run_gtr) (fun W hO=>hO) ?_
      refine TA.take 18 rfl (by kernel_rfl) rfl (PQ.then_ (PQ.then_ (PQ.then_ PQ.body))) rfl (Val.pickN rfl hk5738 rfl) (fun W hO=>hO) ?_
      refine TA.done (by kernel_rfl) ?_
      exact fun a W hF hO=>⟨decide (y5741 < y5739),G5726,A32,c33,h,(Gd.le.trans e25 e5727),rd5729,le5730,hF.sub ⟨rfl,rfl,rfl,rfl,trivial⟩,hO.selT (Ls:=[Blk b35 [VI y30.f0,.slice A32 y30.f1.length c33] 24,Blk b9 [VI a0.f0,.slice A1 a0.f1.length c2] 24]) [0,1] 2 rfl rfl rfl⟩
 ·
  refine TC.region ?_
  refine TV rfl rfl rfl (Val.move rfl) ?_
  refine TV rfl rfl rfl (Val.not_ rfl) ?_
  refine TV rfl rfl rfl (Val.move rfl) ?_
  refine TK.split (p:=(!y14)=true) h (fun hg5743 h=>?_) (fun hg5743 h=>?_)
  ·
   have hk5744:(!y14)=true:=hg5743
   refine TL.cons (TL.not (Wt.no rfl rfl rfl hk5744) rfl ?_)
   refine TL.cons (TL.not (Wt.no rfl rfl rfl hk5744) rfl ?_)
   refine TL.cons (TL.not (Wt.no rfl rfl rfl hk5744) rfl ?_)
   refine TV rfl rfl rfl (Val.pickY rfl hk5744 rfl) ?_
   refine TV rfl rfl rfl (Val.move rfl) ?_
   refine TL.cons (TL.not (Wt.no rfl rfl rfl rfl) rfl ?_)
   refine TL.cons (TL.not (Wt.no rfl rfl rfl rfl) rfl ?_)
   refine TL.cons (TL.not (Wt.no rfl rfl rfl rfl) rfl ?_)
   refine TV rfl rfl rfl (Val.pickY rfl rfl rfl) ?_
   refine TL.nil ?_
   exact fun a W hF hO=>⟨true,G12,h,e13,hF.sub ⟨rfl,rfl,rfl,rfl,trivial⟩,hO.selT (Ls:=[Blk b9 [VI a0.f0,.slice A1 a0.f1.length c2] 24]) [0] 1 rfl rfl rfl⟩
  ·
   have hk5745:(!y14)=false:=(by simpa using hg5743)
   refine TV (Wt.yes rfl rfl rfl hk5745) rfl rfl (Val.move rfl) ?_
   refine TV (Wt.yes rfl rfl rfl hk5745) rfl rfl (Val.len Try.underlying25 rfl) ?_
   refine TV (Wt.yes rfl rfl rfl hk5745) rfl rfl (Val.cmp rfl rfl run_gtr) ?_
   refine TV rfl rfl rfl (Val.pickN rfl hk5745 rfl) ?_
   refine TV rfl rfl rfl (Val.move rfl) ?_
   refine TK.split (p:=40 < (a1.length:Int)) h (fun hg5746 h=>?_) (fun hg5746 h=>?_)
   ·
    have hk5747:decide (40 < (a1.length:Int))=true:=decide_eq_true hg5746
    refine TL.cons (TL.not (Wt.no rfl rfl rfl hk5747) rfl ?_)
    refine TL.cons (TL.not (Wt.no rfl rfl rfl hk5747) rfl ?_)
    refine TL.cons (TL.not (Wt.no rfl rfl rfl hk5747) rfl ?_)
    refine TV rfl rfl rfl (Val.pickY rfl hk5747 rfl) ?_
    refine TL.nil ?_
    exact fun a W hF hO=>⟨true,G12,h,e13,hF.sub ⟨rfl,rfl,rfl,rfl,trivial⟩,hO.selT (Ls:=[Blk b9 [VI a0.f0,.slice A1 a0.f1.length c2] 24]) [0] 1 rfl rfl rfl⟩
   ·
    have hk5748:decide (40 < (a1.length:Int))=false:=decide_eq_false hg5746
    refine TV (Wt.yes rfl rfl rfl hk5748) rfl rfl (Val.loadsB 0 (cs:=[VI a0.f0,.slice A1 a0.f1.length c2]) agg24 fsz24 rfl rfl rfl rfl) ?_
    obtain ⟨y5749,hy5750,h⟩:=bind_no h
    refine TL.cons (TL.callV (Lin:=[]) (args:=[.agg #[VI a0.f0,.slice A1 a0.f1.length c2],VI 256]) (Wt.yes rfl rfl rfl hk5748) rfl rfl hbd6 rfl rfl (code_Right.calls (a0:=a0) (a1:=256) (hr3.up e13) hl4 hy5750) rfl ?_)
    rintro _ _ _ _ ⟨rfl,rfl,rfl⟩
    refine TV (Wt.yes rfl rfl rfl hk5748) rfl rfl (Val.not_ rfl) ?_
    refine TV rfl rfl rfl (Val.pickN rfl hk5748 rfl) ?_
    refine TL.nil ?_
    exact fun a W hF hO=>⟨(!y5749),G12,h,e13,hF.sub ⟨rfl,rfl,rfl,rfl,trivial⟩,hO.selT (Ls:=[Blk b9 [VI a0.f0,.slice A1 a0.f1.length c2] 24]) [0] 1 rfl rfl rfl⟩
end Go.Proofs.Ytpngojifibakiaa.Sy
set_option linter.unusedVariables false
set_option linter.unusedSimpArgs false
namespace Go.Proofs.Ytpngojifibakiaa.Sy
open Go Go.RowKit Go.Proofs.YtpngojifibakiaaW.PrintWords Go.Proofs.Ytpngojifibakiaa.SyO
theorem clone_i {l : List Int} (h : l.length ≤ 1000) : slices_Clone_int_int.f l = some l := by
  unfold slices_Clone_int_int.f; rw [if_pos (by simp; omega)]; simp
structure Wo (o : S37) : Prop where
  f1 : wfi o.f1
  f2 : wfi o.f2
  f3 : wfi o.f3
  f4 : wfi o.f4
  f5 : ∀ a ∈ o.f5, wfi a
  len : o.f5.length ≤ 20
theorem wo_of {o : S37} (h : ok37 o) (hl : o.f5.length ≤ 20) : Wo o := ⟨h.2.1, h.2.2.1, h.2.2.2.1, h.2.2.2.2.1, h.2.2.2.2.2.2, hl⟩
/-- What is known, in its bounds. -/
structure Kf (k : Nat) (m : MqS) : Prop where
  n : m.1 ≤ k
  v : ∀ a v, m.2 a = some v → wfi v
theorem kf_delf {k : Nat} {m : MqS} (h : Kf k m) (p : Int × Int → Int → Bool) : Kf k (qdelf m p) := ⟨h.n, fun a v hv => by
  simp only [qdelf] at hv
  cases hm : m.2 a with
  | none => rw [hm] at hv; cases hv
  | some w =>
    rw [hm] at hv
    simp only at hv
    split at hv
    · cases hv
    · cases hv; exact h.v a _ hm⟩
theorem kf_clr {k : Nat} {m : MqS} (h : Kf k m) : Kf k (qclr m) := ⟨h.n, fun a v hv => by cases hv⟩
theorem kf_put {k : Nat} {m : MqS} (h : Kf k m) {a : Int × Int} {v : Int} (hv : wfi v) : Kf (k + 1) (qput m a v) := ⟨by have := h.n; show m.1 + 1 ≤ k + 1; omega, fun b w hw => by
  simp only [qput] at hw
  split at hw
  · cases hw; exact hv
  · exact h.v b w hw⟩
theorem kf_up {k : Nat} {m : MqS} (h : Kf k m) : Kf (k + 1) m := ⟨by have := h.n; omega, h.v⟩
theorem sets_t (o : S37) : ∃ s, code_Sets.f o = some s := by
  unfold code_Sets.f
  rw [shape_f, Option.bind_some]
  generalize (if o.f0 = 1 ∨ o.f0 = 6 ∨ o.f0 = 7 then _ else _ : S66 × Bool) = z
  by_cases h : (!z.1.f0) = true
  · exact ⟨_, if_pos h⟩
  · exact ⟨_, if_neg h⟩
/-- What is left ahead of what is learned. -/
def lm (m : MqS) (o : S37) (l : List Int) : MqS := if o.f0 = 7 then qclr m else if o.f0 = 5 then qdelf m (fun k _ => storedP o.f2 o.f4 l k) else m
theorem learn_e {k : Nat} {m : MqS} (h : Kf k m) (hk : k < 1000) {o : S37} {s : Int} (hs : code_Sets.f o = some s) (h1 : wfi o.f1) (h2 : wfi o.f2) (h3 : wfi o.f3) (h4 : wfi o.f4) (l : List Int) :
    ∃ q, forward_known_learn.f m o l = some q ∧ Kf (k + 1) q ∧ q = (if o.f0 = 5 then qput (qdelf (lm m o l) (fun k v => setP s k v)) (o.f2, o.f4) o.f3 else if o.f0 = 4 ∧ ¬ o.f1 = o.f2 then qput (qdelf (lm m o l) (fun k v => setP s k v)) (o.f2, o.f4) o.f1 else qdelf (lm m o l) (fun k v => setP s k v)) := by
  have hlm : Kf k (lm m o l) := by
    unfold lm
    split
    · exact kf_clr h
    · split
      · exact kf_delf h _
      · exact h
  have hd := kf_delf hlm (fun k v => setP s k v)
  have hn : (qdelf (lm m o l) (fun k v => setP s k v)).1 < 17592186044416 := by have := hd.n; omega
  have e : forward_known_learn.f m o l = (if o.f0 = 5 then some (qput (qdelf (lm m o l) (fun k v => setP s k v)) (o.f2, o.f4) o.f3) else if o.f0 = 4 ∧ ¬ o.f1 = o.f2 then some (qput (qdelf (lm m o l) (fun k v => setP s k v)) (o.f2, o.f4) o.f1) else some (qdelf (lm m o l) (fun k v => setP s k v))) := by
    unfold forward_known_learn.f forward_known_stored.f forward_known_set.f
    simp only [jn, hs, Option.bind_some]
    by_cases h7 : o.f0 = 7
    · simp [h7, lm]
    · by_cases h5 : o.f0 = 5
      · have hn' : (qdelf (qdelf m (fun k _ => storedP o.f2 o.f4 l k)) (fun k v => setP s k v)).1 < 17592186044416 := by simpa [lm, h5] using hn
        simp only [h5, lm]
        simp only [show ¬ ((5 : Int) = 7) by decide, if_false, if_true]
        rw [if_pos ⟨hn', ⟨h2, h4⟩, h3⟩]
      · by_cases h44 : o.f0 = 4
        · have hn' : (qdelf m (fun k v => setP s k v)).1 < 17592186044416 := by simpa [lm, h44] using hn
          simp only [h44, lm]
          simp only [show ¬ ((4 : Int) = 7) by decide, show ¬ ((4 : Int) = 5) by decide, if_false, if_true, true_and]
          by_cases hd : o.f1 = o.f2
          · rw [if_neg (by simp [hd]), if_neg (by simp [hd])]
          · rw [if_pos (by simp [hd]), if_pos ⟨hn', ⟨h2, h4⟩, h1⟩, if_pos hd]
        · simp [h7, h5, h44, lm]
  refine ⟨_, ?_, ?_, rfl⟩
  · rw [e]
    split
    · rfl
    · split <;> rfl
  · split
    · exact kf_put hd h3
    · split
      · exact kf_put hd h1
      · exact kf_up hd
/-- What an operation becomes. -/
def fq (m : MqS) (o : S37) : S37 := if qhas m (o.f2, o.f4) = true ∧ o.f0 = 4 then ⟨3, o.f1, qget m (o.f2, o.f4), 0, 0, []⟩ else o
theorem fq_wo {k : Nat} {m : MqS} (h : Kf k m) {o : S37} (ho : Wo o) : Wo (fq m o) := by
  unfold fq
  split
  · refine ⟨ho.f1, ?_, (by decide : wfi 0), (by decide : wfi 0), by simp, by simp⟩
    show wfi (qget m (o.f2, o.f4))
    unfold qget
    cases hm : m.2 (o.f2, o.f4) with
    | none => simp; decide
    | some v => simpa using h.v _ _ hm
  · exact ho
/-- A block's operations beside what they became. -/
def FW (l : List Int) : MqS → List S37 → List S37 → Prop
  | _, [], [] => True
  | m, o :: os, q :: qs => ∃ z s, q = fq m o ∧ code_Sets.f q = some s ∧ z = (if q.f0 = 5 then qput (qdelf (lm m q l) (fun k v => setP s k v)) (q.f2, q.f4) q.f3 else if q.f0 = 4 ∧ ¬ q.f1 = q.f2 then qput (qdelf (lm m q l) (fun k v => setP s k v)) (q.f2, q.f4) q.f1 else qdelf (lm m q l) (fun k v => setP s k v)) ∧ FW l z os qs
  | _, _, _ => False
theorem FW.len {l : List Int} : ∀ {m : MqS} {os qs : List S37}, FW l m os qs → qs.length = os.length
  | _, [], [], _ => rfl
  | _, o :: os, q :: qs, h => by obtain ⟨z, s, _, _, _, h⟩ := h; simp [FW.len h]
theorem block_fw {b : S35} (hl : b.f0.length ≤ 250) (hb : ∀ o ∈ b.f0, Wo o) (l : List Int) : ∃ q, forward_Block.f b l = some q ∧ q.f1 = b.f1 ∧ FW l qnil b.f0 q.f0 ∧ ∀ o ∈ q.f0, o.f5.length ≤ 20 := by
  have := loopd (xs := b.f0) (F := fun n i acc m => forward_Block.l0 b l n i acc m) (P := fun os f => ∀ (k : Nat) (acc : List S37) (m : MqS), Kf k m → k + os.length ≤ 900 → acc.length + os.length ≤ 900 → ∃ qs, f acc m = some (acc ++ qs) ∧ FW l m os qs ∧ ∀ o ∈ qs, o.f5.length ≤ 20) (by omega)
    (fun n k acc m h _ _ => ⟨[], by simp [forward_Block.l0], trivial, by simp⟩)
    (fun n i o os hd hlt hat hm hw ih k acc m h h1 h2 => by
      have ho := hb o hm
      have hq := fq_wo h ho
      simp only [List.length_cons] at h1 h2
      obtain ⟨s, hs⟩ := sets_t (fq m o)
      obtain ⟨z, z1, z2, z3⟩ := learn_e h (by omega) hs hq.f1 hq.f2 hq.f3 hq.f4 l
      obtain ⟨qs, e1, e2, e3⟩ := ih (k + 1) (acc ++ [fq m o]) z z2 (by omega) (by simp; omega)
      have e1' : forward_Block.l0 b l n ((i + 1 : Nat) : Int) (acc ++ [fq m o]) z = _ := e1
      refine ⟨fq m o :: qs, ?_, ⟨z, s, rfl, hs, z3, e2⟩, fun x hx => ?_⟩
      · show forward_Block.l0 b l (n + 1) i acc m = _
        rw [forward_Block.l0, if_pos hlt, hat, Option.bind_some, clone_i (by have := ho.len; omega), Option.bind_some, if_pos ⟨ho.f2, ho.f4⟩]
        simp only [jn]
        by_cases c : qhas m (o.f2, o.f4) = true ∧ o.f0 = 4
        · have hf : fq m o = ⟨3, o.f1, qget m (o.f2, o.f4), 0, 0, []⟩ := by unfold fq; rw [if_pos c]
          rw [hf] at z1 e1'
          rw [if_pos c.1, if_pos (by simpa using c.2), z1, Option.bind_some, if_pos (by omega), hw, e1', hf]
          simp
        · have hf : fq m o = o := by unfold fq; rw [if_neg c]
          rw [hf] at z1 e1'
          have hgo : ((if qhas m (o.f2, o.f4) = true then if decide (o.f0 = 4) = true then (forward_known_learn.f m (⟨3, o.f1, qget m (o.f2, o.f4), 0, 0, []⟩ : S37) l).bind fun (y543 : MqS) => (if acc.length < 2199023255552 then forward_Block.l0 b l n (IntKind.i64.wrap (i + 1)) (acc ++ [(⟨3, o.f1, qget m (o.f2, o.f4), 0, 0, []⟩ : S37)]) y543 else none) else (forward_known_learn.f m (⟨o.f0, o.f1, o.f2, o.f3, o.f4, o.f5⟩ : S37) l).bind fun (y543 : MqS) => (if acc.length < 2199023255552 then forward_Block.l0 b l n (IntKind.i64.wrap (i + 1)) (acc ++ [(⟨o.f0, o.f1, o.f2, o.f3, o.f4, o.f5⟩ : S37)]) y543 else none) else if false = true then (forward_known_learn.f m (⟨3, o.f1, qget m (o.f2, o.f4), 0, 0, []⟩ : S37) l).bind fun (y543 : MqS) => (if acc.length < 2199023255552 then forward_Block.l0 b l n (IntKind.i64.wrap (i + 1)) (acc ++ [(⟨3, o.f1, qget m (o.f2, o.f4), 0, 0, []⟩ : S37)]) y543 else none) else (forward_known_learn.f m (⟨o.f0, o.f1, o.f2, o.f3, o.f4, o.f5⟩ : S37) l).bind fun (y543 : MqS) => (if acc.length < 2199023255552 then forward_Block.l0 b l n (IntKind.i64.wrap (i + 1)) (acc ++ [(⟨o.f0, o.f1, o.f2, o.f3, o.f4, o.f5⟩ : S37)]) y543 else none)) : Option (List S37)) = (forward_known_learn.f m o l).bind fun (y543 : MqS) => (if acc.length < 2199023255552 then forward_Block.l0 b l n (IntKind.i64.wrap (i + 1)) (acc ++ [o]) y543 else none) := by
            by_cases c1 : qhas m (o.f2, o.f4) = true
            · rw [if_pos c1, if_neg (by simpa using fun h => c ⟨c1, h⟩)]
            · rw [if_neg c1, if_neg (by decide)]
          refine hgo.trans ?_
          rw [z1, Option.bind_some, if_pos (by omega), hw, e1', hf]
          simp
      · rcases List.mem_cons.1 hx with rfl | hx
        · exact hq.len
        · exact e3 x hx) (b.f0.length + 1) (by omega)
  obtain ⟨qs, e1, e2, e3⟩ := this 0 [] qnil ⟨Nat.le_refl _, fun a v hv => by cases hv⟩ (by omega) (by simp; omega)
  have e1' : forward_Block.l0 b l (b.f0.length + 1) 0 [] qnil = _ := e1
  unfold forward_Block.f
  rw [e1', Option.bind_some]
  exact ⟨_, rfl, rfl, by simpa using e2, by simpa using e3⟩
/-- A block beside what became of it. -/
def Fb (l : List Int) (b b' : S35) : Prop := b'.f1 = b.f1 ∧ FW l qnil b.f0 b'.f0
def Fbs (l : List Int) : List S35 → List S35 → Prop
  | [], [] => True
  | b :: bs, y :: ys => Fb l b y ∧ Fbs l bs ys
  | _, _ => False
theorem Fbs.len {l : List Int} : ∀ {xs ys : List S35}, Fbs l xs ys → ys.length = xs.length
  | [], [], _ => rfl
  | x :: xs, y :: ys, h => by simp [Fbs.len h.2]
theorem Fbs.get {l : List Int} {xs ys : List S35} {i : Nat} {x : S35} (h : Fbs l xs ys) (hx : xs[i]? = some x) : ∃ y, ys[i]? = some y ∧ Fb l x y := by
  induction xs generalizing ys i with
  | nil => simp at hx
  | cons z zs ih =>
    cases ys with
    | nil => exact h.elim
    | cons y ys =>
      cases i with
      | zero => simp at hx; subst hx; exact ⟨y, rfl, h.1⟩
      | succ i => simpa using ih h.2 (i := i) (by simpa using hx)
theorem Fbs.mem {l : List Int} : ∀ {xs ys : List S35}, Fbs l xs ys → ∀ y ∈ ys, ∃ x ∈ xs, Fb l x y
  | [], [], _, _, hz => by cases hz
  | x :: xs, y :: ys, h, z, hz => by
    rcases List.mem_cons.1 hz with rfl | hz
    · exact ⟨x, List.mem_cons_self, h.1⟩
    · obtain ⟨w, w1, w2⟩ := Fbs.mem h.2 z hz
      exact ⟨w, List.mem_cons_of_mem _ w1, w2⟩
theorem Fbs.ops {l : List Int} : ∀ {xs ys : List S35}, Fbs l xs ys → opsN ys = opsN xs
  | [], [], _ => rfl
  | x :: xs, y :: ys, h => by
    have h1 := Fbs.ops h.2
    have h2 := FW.len h.1.2
    simp only [opsN, List.map_cons, List.sum_cons] at h1 ⊢
    rw [h1, h2]
theorem func_fw {f : S24} (hf : Fewp f) (h : ok24 f) (l : List Int) : ∃ q, forward_Func.f f l = some q ∧ q.f0 = f.f0 ∧ Fbs l f.f1 q.f1 ∧ Fewp q := by
  obtain ⟨f1, f2, f3⟩ := hf
  have hc : slices_Clone_api_Block_api_Block.f f.f1 = some f.f1 := by unfold slices_Clone_api_Block_api_Block.f; rw [if_pos (by simp; omega)]; simp
  have := loopd (xs := f.f1) (F := fun n i w => forward_Func.l0 l f.f1 n w i) (P := fun bs g => ∀ pre : List S35, pre.length + bs.length = f.f1.length → ∃ r, g (pre ++ bs) = some (pre ++ r) ∧ Fbs l bs r ∧ ∀ y ∈ r, ∀ o ∈ y.f0, o.f5.length ≤ 20) (by omega)
    (fun n pre h => ⟨[], by simp [forward_Func.l0], trivial, by simp⟩)
    (fun n i b bs hd hlt hat hm hw ih pre hp => by
      obtain ⟨y, y1, y2, y3, y4⟩ := block_fw (f3 b hm).1 (fun o ho => wo_of ((h.2.2 b hm).1.2 o ho) ((f3 b hm).2 o ho)) l
      have hi : pre.length = i := by
        have := congrArg List.length hd
        rw [List.length_drop] at this
        simp only [List.length_cons] at this hp
        omega
      have hg : at? (pre ++ b :: bs) (i : Int) = some b := by
        unfold at?; rw [if_pos (by omega), Int.toNat_natCast, ← hi]; simp
      obtain ⟨r, r1, r2, r3⟩ := ih (pre ++ [y]) (by simp at hp ⊢; omega)
      refine ⟨y :: r, ?_, ⟨⟨y2, y3⟩, r2⟩, fun c hc o ho => ?_⟩
      · show forward_Func.l0 l f.f1 (n + 1) (pre ++ b :: bs) i = _
        rw [forward_Func.l0, if_pos hlt, hg, Option.bind_some, y1, Option.bind_some, Option.bind_some, Int.toNat_natCast, hw]
        have hset : (pre ++ b :: bs).set i y = pre ++ [y] ++ bs := by rw [← hi]; simp
        rw [hset]
        have r1' : forward_Func.l0 l f.f1 n (pre ++ [y] ++ bs) ((i + 1 : Nat) : Int) = _ := r1
        rw [r1']; simp
      · rcases List.mem_cons.1 hc with rfl | hc
        · exact y4 o ho
        · exact r3 c hc o ho) (f.f1.length + 1) (by omega)
  obtain ⟨r, r1, r2, r3⟩ := this [] (by simp)
  have r1' : forward_Func.l0 l f.f1 (f.f1.length + 1) f.f1 0 = some r := by simpa using r1
  unfold forward_Func.f
  rw [hc, Option.bind_some, r1', Option.bind_some]
  have hlen := r2.len
  refine ⟨_, rfl, rfl, r2, by show r.length ≤ 40; omega, by show opsN r ≤ 250; rw [r2.ops]; exact f2, fun y hy => ⟨?_, r3 y hy⟩⟩
  obtain ⟨x, x1, x2⟩ := r2.mem y hy
  rw [FW.len x2.2]
  exact (f3 x x1).1
/-! #### Right ones -/
theorem fw_mem {l : List Int} {m z : MqS} {q : S37} {s : Int} (hz : z = (if q.f0 = 5 then qput (qdelf (lm m q l) (fun k v => setP s k v)) (q.f2, q.f4) q.f3 else if q.f0 = 4 ∧ ¬ q.f1 = q.f2 then qput (qdelf (lm m q l) (fun k v => setP s k v)) (q.f2, q.f4) q.f1 else qdelf (lm m q l) (fun k v => setP s k v))) {a : Int × Int} {v : Int} (h : z.2 a = some v) :
    (q.f0 = 5 ∧ a = (q.f2, q.f4) ∧ v = q.f3) ∨ (q.f0 = 4 ∧ ¬ q.f1 = q.f2 ∧ a = (q.f2, q.f4) ∧ v = q.f1) ∨ (m.2 a = some v ∧ ¬ q.f0 = 7 ∧ (q.f0 = 5 → storedP q.f2 q.f4 l a = false) ∧ setP s a v = false) := by
  have old : (qdelf (lm m q l) (fun k v => setP s k v)).2 a = some v → (m.2 a = some v ∧ ¬ q.f0 = 7 ∧ (q.f0 = 5 → storedP q.f2 q.f4 l a = false) ∧ setP s a v = false) := by
    intro h
    simp only [qdelf] at h
    have h1 : (lm m q l).2 a = some v ∧ setP s a v = false := by
      cases hm : (lm m q l).2 a with
      | none => rw [hm] at h; cases h
      | some w =>
        rw [hm] at h
        simp only at h
        split at h
        · cases h
        · rename_i hn
          cases h; exact ⟨rfl, by simpa using hn⟩
    obtain ⟨h1, h2⟩ := h1
    unfold lm at h1
    split at h1
    · cases h1
    · rename_i h7
      split at h1
      · rename_i h5
        simp only [qdelf] at h1
        cases hm : m.2 a with
        | none => rw [hm] at h1; cases h1
        | some w =>
          rw [hm] at h1
          simp only at h1
          split at h1
          · cases h1
          · rename_i hn
            cases h1; exact ⟨rfl, h7, fun _ => by simpa using hn, h2⟩
      · rename_i h5
        exact ⟨h1, h7, fun h => absurd h h5, h2⟩
  subst hz
  split at h
  · rename_i h5
    simp only [qput] at h
    split at h
    · rename_i ha
      cases h; exact .inl ⟨h5, ha, rfl⟩
    · exact .inr (.inr (old h))
  · split at h
    · rename_i h4
      simp only [qput] at h
      split at h
      · rename_i ha
        cases h; exact .inr (.inl ⟨h4.1, h4.2, ha, rfl⟩)
      · exact .inr (.inr (old h))
    · exact .inr (.inr (old h))
/-- What is known names registers. -/
def Kg (m : MqS) : Prop := ∀ a v, m.2 a = some v → Rg v
/-- An operation beside what became of it. -/
def Rw (o q : S37) : Prop := q = o ∨ (o.f0 = 4 ∧ ∃ v, Rg v ∧ q = ⟨3, o.f1, v, 0, 0, []⟩)
theorem ok_ls {o : S37} {k : Int} (h : okOp o k = true) : (o.f0 = 5 → Rg o.f3 ∧ o.f1 = 0) ∧ (o.f0 = 4 → Rg o.f1) ∧ (o.f0 = 4 ∨ o.f0 = 5 → Rg o.f2 ∧ -2147483648 ≤ o.f4 ∧ o.f4 ≤ 2147483647) := by
  unfold okOp at h
  by_cases h4 : o.f0 = 4
  · simp only [h4] at h ⊢
    simp at h
    exact ⟨fun h => by omega, fun _ => by omega, fun _ => by omega⟩
  · by_cases h5 : o.f0 = 5
    · simp only [h5] at h ⊢
      simp at h
      exact ⟨fun _ => by omega, fun h => by omega, fun _ => by omega⟩
    · exact ⟨fun h => absurd h h5, fun h => absurd h h4, fun h => by omega⟩
theorem rw_ok {m : MqS} (hK : Kg m) {o : S37} {k : Int} (hok : okOp o k = true) : Rw o (fq m o) ∧ okOp (fq m o) k = true := by
  unfold fq
  split
  · rename_i c
    have hv : Rg (qget m (o.f2, o.f4)) := by
      have := c.1
      unfold qhas at this
      unfold qget
      cases hm : m.2 (o.f2, o.f4) with
      | none => rw [hm] at this; cases this
      | some v => simpa using hK _ _ hm
    have h1 := (ok_ls hok).2.1 c.2
    refine ⟨.inr ⟨c.2, _, hv, rfl⟩, ?_⟩
    simp [okOp]; omega
  · exact ⟨.inl rfl, hok⟩
theorem kg_step {l : List Int} {m z : MqS} {q : S37} {s k : Int} (hK : Kg m) (hok : okOp q k = true) (hz : z = (if q.f0 = 5 then qput (qdelf (lm m q l) (fun k v => setP s k v)) (q.f2, q.f4) q.f3 else if q.f0 = 4 ∧ ¬ q.f1 = q.f2 then qput (qdelf (lm m q l) (fun k v => setP s k v)) (q.f2, q.f4) q.f1 else qdelf (lm m q l) (fun k v => setP s k v))) : Kg z := by
  intro a v h
  obtain ⟨h1, h2, _⟩ := ok_ls hok
  rcases fw_mem hz h with ⟨h5, _, rfl⟩ | ⟨h4, _, _, rfl⟩ | ⟨h, _⟩
  · exact (h1 h5).1
  · exact h2 h4
  · exact hK a v h
theorem fw_ok {l : List Int} {k : Int} : ∀ {os qs : List S37} {m : MqS}, FW l m os qs → Kg m → (∀ o ∈ os, okOp o k = true) → (∀ (i : Nat) (o : S37), os[i]? = some o → ∃ q, qs[i]? = some q ∧ Rw o q ∧ okOp q k = true) ∧ ∀ q ∈ qs, ∃ o ∈ os, Rw o q ∧ okOp q k = true
  | [], [], _, _, _, _ => ⟨fun i o h => by simp at h, fun q hq => by cases hq⟩
  | o :: os, q :: qs, m, h, hK, hok => by
    obtain ⟨z, s, rfl, hs, hz, h⟩ := h
    obtain ⟨h1, h2⟩ := rw_ok hK (hok o List.mem_cons_self)
    obtain ⟨i1, i2⟩ := fw_ok h (kg_step hK h2 hz) (fun o ho => hok o (List.mem_cons_of_mem _ ho))
    refine ⟨fun i x hx => ?_, fun x hx => ?_⟩
    · cases i with
      | zero => simp at hx; subst hx; exact ⟨_, rfl, h1, h2⟩
      | succ i => simpa using i1 i x (by simpa using hx)
    · rcases List.mem_cons.1 hx with rfl | hx
      · exact ⟨o, List.mem_cons_self, h1, h2⟩
      · obtain ⟨y, y1, y2⟩ := i2 x hx
        exact ⟨y, List.mem_cons_of_mem _ y1, y2⟩
theorem small22 : swagelaw22_small.f = some true := by decide +kernel
theorem fn_fw {x y : S24} {k : Int} (l : List Int) (hf : Fewp x) (hw : ok24 x) (hok : okFn x k = true) (hy : forward_Func.f x l = some y) : Fewp y ∧ okFn y k = true ∧ y.f0 = x.f0 ∧ Fbs l x.f1 y.f1 ∧ ∀ (i : Nat) (w : S35), x.f1[i]? = some w → ∃ z, y.f1[i]? = some z ∧ z.f1 = w.f1 ∧ z.f0.length = w.f0.length ∧ ∀ (j : Nat) (o : S37), w.f0[j]? = some o → ∃ q, z.f0[j]? = some q ∧ Rw o q := by
  obtain ⟨q, y1, y2, y3, y4⟩ := func_fw hf hw l
  obtain rfl := Option.some.inj (y1.symm.trans hy)
  have hlen := y3.len
  unfold okFn at hok
  simp only [Bool.and_eq_true, decide_eq_true_eq, List.all_eq_true] at hok
  obtain ⟨⟨⟨r1, r2⟩, r3⟩, r4⟩ := hok
  refine ⟨y4, ?_, y2, y3, fun i w hw => ?_⟩
  · unfold okFn
    simp only [Bool.and_eq_true, decide_eq_true_eq, List.all_eq_true]
    refine ⟨⟨⟨by omega, by omega⟩, fun z hz => ?_⟩, fun z hz o ho => ?_⟩
    · obtain ⟨w, w1, w2⟩ := y3.mem z hz
      rw [hlen, w2.1]; exact r3 w w1
    · obtain ⟨w, w1, w2⟩ := y3.mem z hz
      obtain ⟨p, p1, p2, p3⟩ := (fw_ok w2.2 (fun a v h => by cases h) (r4 w w1)).2 o ho
      exact p3
  · obtain ⟨z, z1, z2, z3⟩ := y3.get hw
    refine ⟨z, z1, z2, z3.len, fun j o ho => ?_⟩
    obtain ⟨q, q1, q2, _⟩ := (fw_ok z3 (fun a v h => by cases h) (r4 w (List.mem_of_getElem? hw))).1 j o ho
    exact ⟨q, q1, q2⟩
def ldN (l : List S37) : Nat := (l.map fun o => if o.f0 = 4 then 1 else 0).sum
def ldB (l : List S35) : Nat := (l.map fun y => ldN y.f0).sum
theorem ldN_le (l : List S37) : ldN l ≤ l.length := by
  induction l with
  | nil => simp [ldN]
  | cons o l ih => simp only [ldN, List.map_cons, List.sum_cons, List.length_cons] at *; split <;> omega
theorem loads_l1 {y : S35} (hl : y.f0.length ≤ 250) (w : Nat) (hw : w ≤ 20000) : forward_Loads.l1 y (y.f0.length + 1) (w : Int) 0 = some ((w + ldN y.f0 : Nat) : Int) := by
  have := loopd (xs := y.f0) (F := fun n i w => forward_Loads.l1 y n w i) (P := fun os f => ∀ w : Nat, w + os.length ≤ 30000 → f (w : Int) = some ((w + ldN os : Nat) : Int)) (by omega) (fun n w _ => by simp [forward_Loads.l1, ldN]) (fun n i o os hd hlt hat hm hw ih w hwl => by
    simp only [List.length_cons] at hwl
    show forward_Loads.l1 y (n + 1) (w : Int) i = _
    rw [forward_Loads.l1, if_pos hlt, hat, Option.bind_some]
    simp only [jn]
    by_cases h4 : o.f0 = 4
    · rw [if_pos h4, wsucc (show w ≤ 140737488355328 by omega), hw]
      have := ih (w + 1) (by omega)
      have this' : forward_Loads.l1 y n ((w + 1 : Nat) : Int) ((i + 1 : Nat) : Int) = _ := this
      rw [this']; simp only [ldN, List.map_cons, List.sum_cons, h4, if_true]
      congr 2; omega
    · rw [if_neg h4, hw]
      have := ih w (by omega)
      have this' : forward_Loads.l1 y n (w : Int) ((i + 1 : Nat) : Int) = _ := this
      rw [this']; simp only [ldN, List.map_cons, List.sum_cons, h4, if_false]
      congr 2; omega) (y.f0.length + 1) (by omega)
  exact this w (by omega)
theorem loads_f {t : S24} (hf : Fewp t) : forward_Loads.f t = some ((ldB t.f1 : Nat) : Int) := by
  obtain ⟨f1, f2, f3⟩ := hf
  have := loopd (xs := t.f1) (F := fun n i w => forward_Loads.l0 t n w i) (P := fun bs f => ∀ w : Nat, w + 250 * bs.length ≤ 12000 → f (w : Int) = some ((w + ldB bs : Nat) : Int)) (by omega) (fun n w _ => by simp [forward_Loads.l0, ldB]) (fun n i y bs hd hlt hat hm hw ih w hwl => by
    simp only [List.length_cons] at hwl
    show forward_Loads.l0 t (n + 1) (w : Int) i = _
    have h1 := ldN_le y.f0
    have h2 := (f3 y hm).1
    rw [forward_Loads.l0, if_pos hlt, hat, Option.bind_some, loads_l1 h2 w (by omega), Option.bind_some, hw]
    have := ih (w + ldN y.f0) (by omega)
    have this' : forward_Loads.l0 t n ((w + ldN y.f0 : Nat) : Int) ((i + 1 : Nat) : Int) = _ := this
    rw [this']; simp only [ldB, List.map_cons, List.sum_cons]
    congr 2; omega) (t.f1.length + 1) (by omega)
  have h0 := this 0 (by omega)
  have h0' : forward_Loads.l0 t (t.f1.length + 1) 0 0 = _ := h0
  unfold forward_Loads.f
  rw [h0', Option.bind_some, Nat.zero_add]
theorem ldN_rw : ∀ {os qs : List S37}, qs.length = os.length → (∀ (j : Nat) (o : S37), os[j]? = some o → ∃ q, qs[j]? = some q ∧ Rw o q) → ldN qs ≤ ldN os
  | [], [], _, _ => Nat.le_refl _
  | [], q :: qs, h, _ => by simp at h
  | o :: os, [], h, _ => by simp at h
  | o :: os, q :: qs, h, hr => by
    have ih := ldN_rw (os := os) (qs := qs) (by simpa using h) (fun j o' ho' => by simpa using hr (j + 1) o' (by simpa using ho'))
    obtain ⟨q', q1, q2⟩ := hr 0 o rfl
    simp at q1; subst q1
    simp only [ldN, List.map_cons, List.sum_cons] at *
    rcases q2 with rfl | ⟨h4, v, _, rfl⟩
    · omega
    · simp [h4]; omega
theorem ldB_rw : ∀ {os qs : List S35}, qs.length = os.length → (∀ (i : Nat) (w : S35), os[i]? = some w → ∃ z, qs[i]? = some z ∧ ldN z.f0 ≤ ldN w.f0) → ldB qs ≤ ldB os
  | [], [], _, _ => Nat.le_refl _
  | [], q :: qs, h, _ => by simp at h
  | o :: os, [], h, _ => by simp at h
  | o :: os, q :: qs, h, hr => by
    have ih := ldB_rw (os := os) (qs := qs) (by simpa using h) (fun j o' ho' => by simpa using hr (j + 1) o' (by simpa using ho'))
    obtain ⟨q', q1, q2⟩ := hr 0 o rfl
    simp at q1; subst q1
    simp only [ldB, List.map_cons, List.sum_cons] at *
    omega
theorem ints_refl (l : List Int) (hl : l.length ≤ 1000) : swageref02_Ints.f l l = some true := by
  have := loopd (xs := l) (F := fun n i => swageref02_Ints.l0 l l n i) (P := fun _ r => r = some (.inr ())) (by omega) (fun n => by simp [swageref02_Ints.l0]) (fun n i y r hd hlt hat hm hw ih => by
    rw [swageref02_Ints.l0, if_pos hlt, hat]
    simp only [Option.bind_some, decide_true, Bool.not_true, Bool.false_eq_true, if_false, hw]
    exact ih) (l.length + 1) (by omega)
  have h0 : swageref02_Ints.l0 l l (l.length + 1) 0 = some (.inr ()) := this
  unfold swageref02_Ints.f
  rw [if_neg (by simp), h0]; rfl
theorem sameop (o : S37) (hl : o.f5.length ≤ 1000) : swageref14_SameOp.f o o = some true := by
  unfold swageref14_SameOp.f
  rw [ints_refl _ hl]
  simp
theorem fc_l1 {f x : S24} (hf : Fewp f) {i : Nat} {w z : S35} (hw : at? f.f1 (i : Int) = some w) (hz : at? x.f1 (i : Int) = some z) (hr : ∀ (j : Nat) (o : S37), w.f0[j]? = some o → ∃ q, z.f0[j]? = some q ∧ Rw o q) : swagelaw22_ForwardCounts.l1 f x (i : Int) (w.f0.length + 1) 0 = some (.inr ()) := by
  obtain ⟨f1, f2, f3⟩ := hf
  have hwm : w ∈ f.f1 := List.mem_of_getElem? (at_nat.1 hw)
  refine loopd (xs := w.f0) (F := fun n j => swagelaw22_ForwardCounts.l1 f x (i : Int) n j) (P := fun _ r => r = some (.inr ())) (by have := (f3 w hwm).1; omega) (fun n => by simp [swagelaw22_ForwardCounts.l1, hw]) (fun n j o os hd hlt hat hm hwj ih => ?_) (w.f0.length + 1) (by omega)
  obtain ⟨q, q1, q2⟩ := hr j o (at_nat.1 hat)
  rw [swagelaw22_ForwardCounts.l1, hw, Option.bind_some, if_pos hlt, hat, Option.bind_some, hz, Option.bind_some, at_nat.2 q1, Option.bind_some]
  simp only [jn, hwj]
  rcases q2 with rfl | ⟨h4, v, _, rfl⟩
  · have hs := sameop q (by have := (f3 w hwm).2 q hm; omega)
    by_cases h4 : q.f0 = 4
    · have h3 : ¬ q.f0 = 3 := by omega
      rw [if_pos h4, if_neg h3, if_pos (by decide), hs, Option.bind_some, if_neg (by decide)]
      exact ih
    · rw [if_neg h4, if_pos (by decide), hs, Option.bind_some, if_neg (by decide)]
      exact ih
  · simp [h4]
    exact ih
theorem fc_l0 {f x : S24} (hf : Fewp f) (hr : ∀ (i : Nat) (w : S35), f.f1[i]? = some w → ∃ z, x.f1[i]? = some z ∧ z.f1 = w.f1 ∧ z.f0.length = w.f0.length ∧ ∀ (j : Nat) (o : S37), w.f0[j]? = some o → ∃ q, z.f0[j]? = some q ∧ Rw o q) : swagelaw22_ForwardCounts.l0 f x (f.f1.length + 1) 0 = some (.inr ()) := by
  have hf' := hf
  obtain ⟨f1, f2, f3⟩ := hf'
  refine loopd (xs := f.f1) (F := fun n i => swagelaw22_ForwardCounts.l0 f x n i) (P := fun _ r => r = some (.inr ())) (by omega) (fun n => by simp [swagelaw22_ForwardCounts.l0]) (fun n i w ws hd hlt hat hm hw ih => ?_) (f.f1.length + 1) (by omega)
  obtain ⟨z, z1, z2, z3, z4⟩ := hr i w (at_nat.1 hat)
  have hz := at_nat.2 z1
  have h1 := fc_l1 hf hat hz z4
  rw [swagelaw22_ForwardCounts.l0, if_pos hlt]
  simp only [jn, hat, hz, Option.bind_some, Option.elim_some]
  rw [h1]
  simp only [Option.bind_some, hw, z2, z3]
  simp
  exact ih
theorem forwardCounts_law (a0 : S24) (a1 : List Int) (h0 : ok24 a0) (h1 : a1.length * 8 ≤ 140737488351232 ∧ ∀ y ∈ a1, (Lit.int .i64 y).wf = true) : swagelaw22_ForwardCounts.f a0 a1 = some true := by
  obtain ⟨b, b1, b2⟩ := few_f h0
  unfold swagelaw22_ForwardCounts.f
  rw [small22, Option.bind_some, b1, Option.bind_some]
  simp only [jn]
  cases b with
  | false => rw [if_pos (by simp), if_pos trivial]
  | true =>
    have hf := b2 rfl
    rw [if_neg (by simp)]
    by_cases c1 : 40 < (a1.length : Int)
    · rw [if_pos c1, if_pos trivial]
    rw [if_neg c1, cright_f (by omega) (by omega) hf, Option.bind_some]
    cases hok : okFn a0 256 with
    | false => rw [if_pos (by simp)]
    | true =>
      rw [if_neg (by simp)]
      obtain ⟨x, x1, _⟩ := func_fw hf h0 a1
      obtain ⟨g1, g2, g3, g4, g5⟩ := fn_fw a1 hf h0 hok x1
      have hlen := g4.len
      have hld : ldB x.f1 ≤ ldB a0.f1 := ldB_rw hlen (fun i w hw => by
        obtain ⟨z, z1, z2, z3, z4⟩ := g5 i w hw
        exact ⟨z, z1, ldN_rw z3 z4⟩)
      rw [x1, Option.bind_some, cright_f (by omega) (by omega) g1, Option.bind_some, g2, if_neg (by simp), if_neg (by simp [hlen]), loads_f g1, Option.bind_some, loads_f hf, Option.bind_some, if_neg (by simp; omega), fc_l0 hf g5]
      rfl
end Go.Proofs.Ytpngojifibakiaa.Sy
