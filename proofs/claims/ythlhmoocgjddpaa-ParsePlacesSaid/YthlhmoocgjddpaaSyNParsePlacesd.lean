/- Texts of this work, joined: SyF17, PaL, SyF31, SyF32. -/
import Derived.Test.YthlhmoocgjddpaaSyNParsePlacesc
set_option linter.unusedVariables false
set_option linter.unusedSimpArgs false
set_option maxRecDepth 100000
set_option maxHeartbeats 4000000
namespace Go.Proofs.Ythlhmoocgjddpaa.Sy
open Go Go.RowKit Go.Proofs.YthlhmoocgjddpaaW.PrintWords 
def token_Lex.l0 (a0:ByteArray) (j216:((List S41) → Option ((List S41) × Int × Int))):Nat → Int → (List S41) → Option (Sum ((List S41) × Int × Int) ((List S41)))
 | 0,_,_=>none
 | n518 + 1,x419,l420=>(if x419 < (a0.size:Int) then (token_cut.f a0 x419).bind fun (y654:(Int × Int))=>(cutS? a0 x419 y654.1).bind fun (y680:ByteArray)=>(if y654.2=0 then some (.inl (([]:List S41),x419,2)) else (if l420.length < 4398046511104 then (if y654.2=0 then (j216 (l420 ++ [(⟨y654.2,y680,x419⟩:S41)])).bind fun q_=>some (.inl q_) else (token_skip.f a0 y654.1).bind fun (y701:Int)=>token_Lex.l0 a0 j216 n518 y701 (l420 ++ [(⟨y654.2,y680,x419⟩:S41)])) else none)) else some (.inr l420))
def token_Lex.f (a0:ByteArray):Option ((List S41) × Int × Int):=(if 65536 < (a0.size:Int) then some (([]:List S41),65536,5) else jn (γ:=((List S41) × Int × Int)) (fun (l211:(List S41))=>some (l211,(a0.size:Int),0)) (fun (j216:((List S41) → Option ((List S41) × Int × Int)))=>(token_skip.f a0 0).bind fun (y227:Int)=>(token_Lex.l0 a0 j216 (a0.size + 1) y227 []).bind fun | .inl q_=>some q_ | .inr l513=>(j216 l513)))
def token_Lex.post (G:Gd)  (r:((List S41) × Int × Int)) (v:Value) (G':Gd) (Lr:List Ch):Prop:=G=G'∧∃ (A_1:Option Addr) (c_1:Nat),v=.tuple #[.slice A_1 r.1.length c_1,VI r.2.1,VI r.2.2]∧Lr=[Row k41 41 (.slice A_1 r.1.length c_1) r.1]
theorem token_Lex.calls {G:Gd} {r:((List S41) × Int × Int)} {a0:ByteArray} (h:token_Lex.f a0=some r):Fn Try.prog 17 G [] [.string a0] (token_Lex.post G  r):=by
 refine Fn.intro (e:=[(0,.string a0)]) 25 Try.func17 rfl Try.ntmps17 rfl rfl (Nat.le_of_ble_eq_true rfl) (fun L=>?_)
 unfold token_Lex.f at h
 refine TC.new (ch:=Mk []) Mk.nil ?_
 refine TC.seq ?_
 refine TC.region ?_
 refine TL.cons (TL.alloc (cs:=[.slice none 0 0]) rfl rfl zr32 rfl (fun b2=>?_))
 refine TL.cons (TL.alloc (cs:=[VI 0]) rfl rfl zr3 rfl (fun b3=>?_))
 refine TL.cons (TL.alloc (cs:=[VI 0]) rfl rfl zr33 rfl (fun b4=>?_))
 refine TL.nil ?_
 refine TQ.then_ ?_
 refine TC.seq ?_
 refine TC.seq ?_
 refine TC.region ?_
 refine TV rfl rfl rfl (Val.move rfl) ?_
 refine TV rfl rfl rfl (Val.lenS Try.underlying9 rfl) ?_
 refine TV rfl rfl rfl (Val.cmp rfl rfl run_gtr) ?_
 refine TL.nil ?_
 refine TQ.then_ ?_
 refine TC.cond_p rfl h (fun hc6 h=>?_) (fun hc6 h=>?_)
 ·
  refine TC.seq ?_
  refine TC.region ?_
  refine TL.cons (TL.store 2 (ds:=[.slice none 0 0]) (cs':=[.slice none 0 0]) (L':=(Blk b4 [VI 0] 33::Blk b3 [VI 0] 3::Blk b2 [.slice none 0 0] 32::Mk []::L)) rfl fsz32 rfl rfl rfl rfl rfl (Nat.le_of_ble_eq_true rfl) rfl rfl ?_)
  refine TL.cons (TL.store 1 (ds:=[VI 65536]) (cs':=[VI 65536]) (L':=(Blk b4 [VI 0] 33::Blk b3 [VI 65536] 3::Blk b2 [.slice none 0 0] 32::Mk []::L)) rfl fsz3 rfl rfl rfl rfl rfl (Nat.le_of_ble_eq_true rfl) rfl rfl ?_)
  refine TL.cons (TL.store 0 (ds:=[VI 5]) (cs':=[VI 5]) (L':=(Blk b4 [VI 5] 33::Blk b3 [VI 65536] 3::Blk b2 [.slice none 0 0] 32::Mk []::L)) rfl fsz33 rfl rfl rfl rfl rfl (Nat.le_of_ble_eq_true rfl) rfl rfl ?_)
  refine TL.nil ?_
  refine TQ.then_ ?_
  refine TC.ret ?_
  refine TQ.thenR ?_
  refine TQ.finL (ds:=List.map mark []) (.inl rfl) rfl (fun a_ hx7=>?_)
  refine Lv.marks (L':=(Blk b4 [VI 5] 33::Blk b3 [VI 65536] 3::Blk b2 [.slice none 0 0] 32::Emp::L)) 3 rfl rfl ?_
  refine Lv.nilRow k41 41 ?_
  obtain rfl:=Option.some.inj h
  exact Lv.nil hx7 Try.results17 (.cell 3 rfl rfl agg32 rfl (.cell 2 rfl rfl agg3 rfl (.cell 1 rfl rfl agg33 rfl .nil))) rfl (FRel.mk (Ls:=[Row k41 41 (.slice none 0 0) ([]:List S41)]) [0] 5 (Gd.le.refl _) rfl rfl rfl ⟨rfl,none,0,rfl,rfl⟩)
 ·
  refine TC.skip ?_
  refine TQ.then_ ?_
  refine TC.seq ?_
  refine TC.region ?_
  refine TL.cons (TL.alloc (cs:=[.slice none 0 0]) rfl rfl zr32 rfl (fun b9=>?_))
  refine TL.nil ?_
  refine TQ.then_ ?_
  refine TC.seq ?_
  refine TC.seq ?_
  refine TC.region ?_
  refine TV rfl rfl rfl (Val.move rfl) ?_
  refine TL.cons (TO.inl (args:=[.string a0]) (e':=[(0,.string a0)]) 4 rfl rfl hbd28 rfl rfl Try.func28 rfl Try.ntmps28 rfl rfl (Nat.le_of_ble_eq_true rfl) (fun a10 hf11=>?_))
  refine TC.seq ?_
  refine TC.region ?_
  refine TL.cons (TL.box (cs:=[.string a0]) rfl rfl rfl rfl (fun b13=>?_))
  refine TV rfl rfl rfl (Val.assign rfl) ?_
  refine TL.nil ?_
  refine TQ.then_ ?_
  refine TC.seq ?_
  refine TC.region ?_
  refine TV rfl rfl rfl (Val.makeFunc (xs:=[]) (ys:=[VP b13 0]) rfl rfl) ?_
  refine TV rfl rfl rfl (Val.assign rfl) ?_
  refine TL.nil ?_
  refine TQ.then_ ?_
  refine TC.ret ?_
  refine TQ.fin (v:=.func (.func 40) #[] #[VP b13 0]) (.inl rfl) rfl Try.results28 (.tmp rfl .nil) rfl (After.mk hf11 rfl ?_)
  refine TL.nil ?_
  refine TQ.then_ ?_
  obtain ⟨j216,hj216,h⟩:=jn_no h
  refine TC.tail (fun a W=>∃ (l211:(List S41)) (A212:Option Addr) (c213:Nat) (ds215:List Nat),j216 l211=some r∧Fr (⟨25,List.map mark ds215⟩:Nd) a [(0,.string a0),(2,VP b2 0),(3,VP b3 0),(4,VP b4 0),(5,VP b9 0)]∧Own G (Blk b2 [.slice none 0 0] 32::Blk b3 [VI 0] 3::Blk b4 [VI 0] 33::Blk b9 [.slice A212 l211.length c213] 32::Mk ds215::Row k41 41 (.slice A212 l211.length c213) l211::L) W) ?_ ?_
  ·
   rintro a W ⟨l211,A212,c213,ds215,h,hF,hO⟩
   rw [hj216] at h
   refine TQ.use ?_ hF hO
   clear hF hO
   refine TQ.then_ ?_
   refine TC.seq ?_
   refine TC.region ?_
   refine TV rfl rfl rfl (Val.loadB 3 agg32 rfl rfl rfl) ?_
   refine TV rfl rfl rfl (Val.move rfl) ?_
   refine TV rfl rfl rfl (Val.lenS Try.underlying9 rfl) ?_
   refine TL.cons (TL.store 0 (ds:=[.slice A212 l211.length c213]) (cs':=[.slice A212 l211.length c213]) (L':=(Blk b2 [.slice A212 l211.length c213] 32::Blk b3 [VI 0] 3::Blk b4 [VI 0] 33::Blk b9 [.slice A212 l211.length c213] 32::Mk ds215::Row k41 41 (.slice A212 l211.length c213) l211::L)) rfl fsz32 rfl rfl rfl rfl rfl (Nat.le_of_ble_eq_true rfl) rfl rfl ?_)
   refine TL.cons (TL.store 1 (ds:=[VI (a0.size:Int)]) (cs':=[VI (a0.size:Int)]) (L':=(Blk b2 [.slice A212 l211.length c213] 32::Blk b3 [VI (a0.size:Int)] 3::Blk b4 [VI 0] 33::Blk b9 [.slice A212 l211.length c213] 32::Mk ds215::Row k41 41 (.slice A212 l211.length c213) l211::L)) rfl fsz3 rfl rfl rfl rfl rfl (Nat.le_of_ble_eq_true rfl) rfl rfl ?_)
   refine TL.cons (TL.store 2 (ds:=[VI 0]) (cs':=[VI 0]) (L':=(Blk b2 [.slice A212 l211.length c213] 32::Blk b3 [VI (a0.size:Int)] 3::Blk b4 [VI 0] 33::Blk b9 [.slice A212 l211.length c213] 32::Mk ds215::Row k41 41 (.slice A212 l211.length c213) l211::L)) rfl fsz33 rfl rfl rfl rfl rfl (Nat.le_of_ble_eq_true rfl) rfl rfl ?_)
   refine TL.nil ?_
   refine TQ.then_ ?_
   refine TC.ret ?_
   refine TQ.finL (ds:=List.map mark ds215) (.inl rfl) rfl (fun a_ hx217=>?_)
   refine Lv.marks (L':=(Blk b2 [.slice A212 l211.length c213] 32::Blk b3 [VI (a0.size:Int)] 3::Blk b4 [VI 0] 33::Blk b9 [.slice A212 l211.length c213] 32::Emp::Row k41 41 (.slice A212 l211.length c213) l211::L)) 4 rfl rfl ?_
   obtain rfl:=Option.some.inj h
   exact Lv.nil hx217 Try.results17 (.cell 0 rfl rfl agg32 rfl (.cell 1 rfl rfl agg3 rfl (.cell 2 rfl rfl agg33 rfl .nil))) rfl (FRel.mk (Ls:=[Row k41 41 (.slice A212 l211.length c213) l211]) [5] 6 (Gd.le.refl _) rfl rfl rfl ⟨rfl,A212,c213,rfl,rfl⟩)
  ·
   refine TC.block ?_
   refine TC.rangeFunc (e1:=fun l_=>[(0,.func (.yield l_) #[] #[]),(1,VP b13 0)]) 35 rfl hbd40 Try.func40 rfl Try.ntmps40 rfl (fun _=>rfl) (Nat.le_of_ble_eq_true rfl) (fun a221 R218 o219 o220 hp222 ha223 hb224 hf225 hf226=>?_)
   refine TC.sel (Ls:=[Ob o220 (.deferred (some [])),Mk [],Ob o219 (LoopO R218 .ready none),Blk b13 [.string a0] 9,Blk b9 [.slice none 0 0] 32,Blk b4 [VI 0] 33,Blk b3 [VI 0] 3,Blk b2 [.slice none 0 0] 32]) [1,7,0,2,3,4,5,6] 8 rfl rfl rfl ?_
   refine TC.two (ch:=Mk (o220::[])) Mk.cons ?_
   refine TC.seq ?_
   refine TC.region ?_
   refine TV rfl rfl rfl (Val.loadB 2 agg9 rfl rfl rfl) ?_
   obtain ⟨y227,hy228,h⟩:=bind_no h
   refine TL.cons (TL.callV (Lin:=[]) (args:=[.string a0,VI 0]) rfl rfl rfl hbd41 rfl rfl (token_skip.calls (a0:=a0) (a1:=0) hy228) rfl ?_)
   rintro _ _ _ _ ⟨rfl,rfl,rfl⟩
   refine TV rfl rfl rfl (Val.assign rfl) ?_
   refine TL.nil ?_
   refine TQ.then_ ?_
   obtain ⟨o517,ho517,ko517⟩:=bind_no h
   clear h
   refine TC.tail (fun a W=>∃ (l513:(List S41)) (A514:Option Addr) (c515:Nat),(.inr l513)=o517∧Fr 35 a []∧Own G (Blk b13 [.string a0] 9::Blk b2 [.slice none 0 0] 32::Blk b3 [VI 0] 3::Blk b4 [VI 0] 33::Blk b9 [.slice A514 l513.length c515] 32::Mk (o220::[])::Ob o219 (LoopO R218 .ready none)::Row k41 41 (.slice A514 l513.length c515) l513::L) W) ?_ ?_
   ·
    rintro a W ⟨l513,A514,c515,rfl,hF,hO⟩
    have h:=ko517
    clear ko517 ho517
    refine TQ.use ?_ hF hO
    clear hF hO
    refine TQ.fin (v:=.tuple #[]) (.inr rfl) rfl Try.results40 .nil rfl (RangeP.normal (L':=(Blk b13 [.string a0] 9::Blk b2 [.slice none 0 0] 32::Blk b3 [VI 0] 3::Blk b4 [VI 0] 33::Blk b9 [.slice A514 l513.length c515] 32::Mk (o220::[])::Emp::Row k41 41 (.slice A514 l513.length c515) l513::L)) 6 hf226 rfl rfl rfl ?_)
    refine TQ.inB ?_
    exact fun a W hF hO=>⟨l513,A514,c515,(o220::[]),h,hF.sub ⟨rfl,rfl,rfl,rfl,rfl,trivial⟩,hO.selT (Ls:=[Blk b2 [.slice none 0 0] 32,Blk b3 [VI 0] 3,Blk b4 [VI 0] 33,Blk b9 [.slice A514 l513.length c515] 32,Mk (o220::[]),Row k41 41 (.slice A514 l513.length c515) l513]) [1,2,3,4,5,7] 8 rfl rfl rfl⟩
   ·
    refine TC.block ?_
    intro a W hF hO
    have hS:∃ (x419:Int) (l420:(List S41)) (A421:Option Addr) (c422:Nat),token_Lex.l0 a0 j216 (a0.size + 1) x419 l420=some o517∧Fr 35 a [(0,.func (.yield o219) #[] #[]),(1,VP b13 0),(3,VI x419)]∧Own G (Blk b13 [.string a0] 9::Blk b2 [.slice none 0 0] 32::Blk b3 [VI 0] 3::Blk b4 [VI 0] 33::Blk b9 [.slice A421 l420.length c422] 32::Mk (o220::[])::Ob o219 (LoopO R218 .ready none)::Row k41 41 (.slice A421 l420.length c422) l420::L) W:=by
     exact ⟨y227,[],none,0,ho517,hF.sub ⟨rfl,rfl,rfl,trivial⟩,(Own.nilRow k41 41 hO).selT (Ls:=[Blk b13 [.string a0] 9,Blk b2 [.slice none 0 0] 32,Blk b3 [VI 0] 3,Blk b4 [VI 0] 33,Blk b9 [.slice none ([]:List S41).length 0] 32,Mk (o220::[]),Ob o219 (LoopO R218 .ready none),Row k41 41 (.slice none ([]:List S41).length 0) ([]:List S41)]) [3,7,6,5,4,1,2,0] 8 rfl rfl rfl⟩
    clear hF hO ho517
    refine TC.loop (fun n518 a W=>∃ (x419:Int) (l420:(List S41)) (A421:Option Addr) (c422:Nat),token_Lex.l0 a0 j216 n518 x419 l420=some o517∧Fr 35 a [(0,.func (.yield o219) #[] #[]),(1,VP b13 0),(3,VI x419)]∧Own G (Blk b13 [.string a0] 9::Blk b2 [.slice none 0 0] 32::Blk b3 [VI 0] 3::Blk b4 [VI 0] 33::Blk b9 [.slice A421 l420.length c422] 32::Mk (o220::[])::Ob o219 (LoopO R218 .ready none)::Row k41 41 (.slice A421 l420.length c422) l420::L) W) ?_ ?_ hS
    ·
     rintro a W ⟨x419,l420,A421,c422,h,hF,hO⟩
     exact none_no h
    ·
     clear hS
     rintro n518 a W ⟨x419,l420,A421,c422,h,hF,hO⟩
     rw [token_Lex.l0] at h
     refine TC.use ?_ hF hO
     clear hF hO
     refine TC.seq ?_
     refine TC.seq ?_
     refine TC.region ?_
     refine TV rfl rfl rfl (Val.move rfl) ?_
     refine TV rfl rfl rfl (Val.loadB 0 agg9 rfl rfl rfl) ?_
     refine TV rfl rfl rfl (Val.lenS Try.underlying9 rfl) ?_
     refine TV rfl rfl rfl (Val.cmp rfl rfl run_lss) ?_
     refine TL.nil ?_
     refine TQ.then_ ?_
     refine TC.cond_p rfl h (fun hc607 h=>?_) (fun hc607 h=>?_)
     ·
      refine TC.skip ?_
      refine TQ.then_ ?_
      refine TC.block ?_
      refine TC.seq ?_
      refine TC.region ?_
      refine TV rfl rfl rfl (Val.loadB 0 agg9 rfl rfl rfl) ?_
      refine TV rfl rfl rfl (Val.move rfl) ?_
      obtain ⟨y654,hy655,h⟩:=bind_no h
      refine TL.cons (TL.callV (Lin:=[]) (args:=[.string a0,VI x419]) rfl rfl rfl hbd42 rfl rfl (token_cut.calls (a0:=a0) (a1:=x419) hy655) rfl ?_)
      rintro _ _ _ _ ⟨rfl,rfl,rfl⟩
      refine TV rfl rfl rfl (Val.move rfl) ?_
      refine TV rfl rfl rfl (Val.extract rfl rfl) ?_
      refine TV rfl rfl rfl (Val.extract rfl rfl) ?_
      refine TV rfl rfl rfl (Val.assign rfl) ?_
      refine TV rfl rfl rfl (Val.assign rfl) ?_
      refine TL.nil ?_
      refine TQ.then_ ?_
      refine TC.seq ?_
      refine TC.seq ?_
      refine TC.region ?_
      refine TV rfl rfl rfl (Val.move rfl) ?_
      refine TV rfl rfl rfl (Val.move rfl) ?_
      refine TV rfl rfl rfl (Val.loadB 0 agg9 rfl rfl rfl) ?_
      refine TV rfl rfl rfl (Val.move rfl) ?_
      refine TV rfl rfl rfl (Val.move rfl) ?_
      obtain ⟨y680,hy681,h⟩:=bind_no h
      refine TV rfl rfl rfl (Val.cutS Try.underlying9 rfl rfl rfl hy681) ?_
      refine TV rfl rfl rfl (Val.move rfl) ?_
      refine TV rfl rfl rfl (Val.build (cs:=[VI y654.2,.string y680,VI x419]) (is:=[0,1,2]) (xs:=[.tmp 19,.tmp 23,.tmp 24]) Try.underlying41 zr41 bld41 rfl rfl rfl rfl) ?_
      refine TL.cons (TO.yield 6 rfl rfl rfl rfl hp222 ha223 hb224 rfl hf225 rfl rfl (fun a682 hf683=>?_))
      refine TC.region ?_
      refine TL.cons (TL.alloc (cs:=[VI 0,.string (⟨#[]⟩:ByteArray),VI 0]) rfl rfl zr41 rfl (fun b684=>?_))
      refine TL.cons (TL.store 0 (ds:=[VI y654.2,.string y680,VI x419]) (cs':=[VI y654.2,.string y680,VI x419]) (L':=(Blk b684 [VI y654.2,.string y680,VI x419] 41::Blk b13 [.string a0] 9::Blk b2 [.slice none 0 0] 32::Blk b3 [VI 0] 3::Blk b4 [VI 0] 33::Blk b9 [.slice A421 l420.length c422] 32::Mk (o220::[])::Ob o219 (LoopO R218 .ready none)::Row k41 41 (.slice A421 l420.length c422) l420::L)) rfl fsz41 rfl rfl rfl rfl rfl (Nat.le_of_ble_eq_true rfl) rfl rfl ?_)
      refine TL.nil ?_
      refine TQ.begin (L':=(Blk b684 [VI y654.2,.string y680,VI x419] 41::Blk b13 [.string a0] 9::Blk b2 [.slice none 0 0] 32::Blk b3 [VI 0] 3::Blk b4 [VI 0] 33::Blk b9 [.slice A421 l420.length c422] 32::Mk (o220::[])::Ob o219 (LoopO R218 .busy none)::Row k41 41 (.slice A421 l420.length c422) l420::L)) 7 rfl rfl ?_
      refine TC.block ?_
      refine TC.seq ?_
      refine TC.seq ?_
      refine TC.region ?_
      refine TV rfl rfl rfl (Val.fieldAddrB Try.underlying41 rfl fsz3 rfl rfl rfl) ?_
      refine TV rfl rfl rfl (Val.loadB 0 agg3 rfl rfl rfl) ?_
      refine TV rfl rfl rfl (Val.cmp rfl rfl run_eql) ?_
      refine TL.nil ?_
      refine TQ.then_ ?_
      refine TC.cond_p rfl h (fun hc692 h=>?_) (fun hc692 h=>?_)
      ·
       refine TC.seq ?_
       refine TC.regionAnyS (L0:=(Blk b684 [VI y654.2,.string y680,VI x419] 41::Blk b13 [.string a0] 9::Blk b9 [.slice A421 l420.length c422] 32::Mk (o220::[])::Ob o219 (LoopO R218 .busy none)::Row k41 41 (.slice A421 l420.length c422) l420::L)) [] [0,1] mixed (by kernel_rfl) ?_
       refine TA.take 0 rfl (by kernel_rfl) rfl (PQ.then_ (PQ.then_ (PQ.inB PQ.round))) rfl (Val.fieldAddrB Try.underlying41 rfl fsz3 rfl rfl rfl) (fun W hO=>hO.selT (Ls:=[Blk b684 [VI y654.2,.string y680,VI x419] 41,Blk b13 [.string a0] 9,Blk b9 [.slice A421 l420.length c422] 32,Mk (o220::[]),Ob o219 (LoopO R218 .busy none),Row k41 41 (.slice A421 l420.length c422) l420]) [0,1,5,6,7,8] 9 rfl rfl rfl) ?_
       refine TA.take 1 rfl (by kernel_rfl) rfl (PQ.then_ (PQ.then_ (PQ.inB PQ.round))) rfl (Val.loadB 0 agg3 rfl rfl rfl) (fun W hO=>hO.selT (Ls:=[Blk b684 [VI y654.2,.string y680,VI x419] 41,Blk b13 [.string a0] 9,Blk b9 [.slice A421 l420.length c422] 32,Mk (o220::[]),Ob o219 (LoopO R218 .busy none),Row k41 41 (.slice A421 l420.length c422) l420]) [0,1,5,6,7,8] 9 rfl rfl rfl) ?_
       refine TA.eff 2 rfl (by kernel_rfl) rfl (TL.store 2 (ds:=[.slice none 0 0]) (cs':=[.slice none 0 0]) (L':=(Blk b684 [VI y654.2,.string y680,VI x419] 41::Blk b13 [.string a0] 9::Blk b2 [.slice none 0 0] 32::Blk b3 [VI 0] 3::Blk b4 [VI 0] 33::Blk b9 [.slice A421 l420.length c422] 32::Mk (o220::[])::Ob o219 (LoopO R218 .busy none)::Row k41 41 (.slice A421 l420.length c422) l420::L)) rfl fsz32 rfl rfl rfl rfl rfl (Nat.le_of_ble_eq_true rfl) rfl rfl ?_)
       refine TA.next (fun W hO=>hO.selT (Ls:=[Blk b684 [VI y654.2,.string y680,VI x419] 41,Blk b13 [.string a0] 9,Blk b9 [.slice A421 l420.length c422] 32,Mk (o220::[]),Ob o219 (LoopO R218 .busy none),Row k41 41 (.slice A421 l420.length c422) l420]) [0,1,5,6,7,8] 9 rfl rfl rfl) ?_
       refine TA.eff 3 rfl (by kernel_rfl) rfl (TL.store 3 (ds:=[VI x419]) (cs':=[VI x419]) (L':=(Blk b684 [VI y654.2,.string y680,VI x419] 41::Blk b13 [.string a0] 9::Blk b2 [.slice none 0 0] 32::Blk b3 [VI x419] 3::Blk b4 [VI 0] 33::Blk b9 [.slice A421 l420.length c422] 32::Mk (o220::[])::Ob o219 (LoopO R218 .busy none)::Row k41 41 (.slice A421 l420.length c422) l420::L)) rfl fsz3 rfl rfl rfl rfl rfl (Nat.le_of_ble_eq_true rfl) rfl rfl ?_)
       refine TA.next (fun W hO=>hO.selT (Ls:=[Blk b684 [VI y654.2,.string y680,VI x419] 41,Blk b13 [.string a0] 9,Blk b9 [.slice A421 l420.length c422] 32,Mk (o220::[]),Ob o219 (LoopO R218 .busy none),Row k41 41 (.slice A421 l420.length c422) l420]) [0,1,5,6,7,8] 9 rfl rfl rfl) ?_
       refine TA.eff 4 rfl (by kernel_rfl) rfl (TL.store 4 (ds:=[VI 2]) (cs':=[VI 2]) (L':=(Blk b684 [VI y654.2,.string y680,VI x419] 41::Blk b13 [.string a0] 9::Blk b2 [.slice none 0 0] 32::Blk b3 [VI x419] 3::Blk b4 [VI 2] 33::Blk b9 [.slice A421 l420.length c422] 32::Mk (o220::[])::Ob o219 (LoopO R218 .busy none)::Row k41 41 (.slice A421 l420.length c422) l420::L)) rfl fsz33 rfl rfl rfl rfl rfl (Nat.le_of_ble_eq_true rfl) rfl rfl ?_)
       refine TA.next (fun W hO=>hO.selT (Ls:=[Blk b684 [VI y654.2,.string y680,VI x419] 41,Blk b13 [.string a0] 9,Blk b9 [.slice A421 l420.length c422] 32,Mk (o220::[]),Ob o219 (LoopO R218 .busy none),Row k41 41 (.slice A421 l420.length c422) l420]) [0,1,5,6,7,8] 9 rfl rfl rfl) ?_
       refine TA.done (by kernel_rfl) ?_
       refine TQ.then_ ?_
       refine TC.ret ?_
       refine TQ.thenR ?_
       refine TQ.inBR ?_
       refine TQ.roundR (L':=(Blk b684 [VI y654.2,.string y680,VI x419] 41::Blk b13 [.string a0] 9::Blk b2 [.slice none 0 0] 32::Blk b3 [VI x419] 3::Blk b4 [VI 2] 33::Blk b9 [.slice A421 l420.length c422] 32::Mk (o220::[])::Ob o219 (LoopO R218 .done (some .ret))::Row k41 41 (.slice A421 l420.length c422) l420::L)) 7 rfl rfl (After.mk hf683 rfl ?_)
       refine TV rfl rfl rfl (Val.not_ rfl) ?_
       refine TV rfl rfl rfl (Val.move rfl) ?_
       refine TL.cons (TL.not (Wt.no rfl rfl rfl rfl) rfl ?_)
       refine TL.cons (TL.not (Wt.no rfl rfl rfl rfl) rfl ?_)
       refine TV rfl rfl rfl (Val.pickY rfl rfl rfl) ?_
       refine TL.nil ?_
       refine TQ.then_ ?_
       refine TC.condT rfl ?_
       refine TC.ret ?_
       refine TQ.thenR ?_
       refine TQ.inBR ?_
       refine TQ.thenR ?_
       refine TQ.inBR ?_
       refine TQ.thenR ?_
       refine TQ.fin (v:=.tuple #[]) (.inl rfl) rfl Try.results40 .nil rfl (RangeP.ret (L':=(Blk b684 [VI y654.2,.string y680,VI x419] 41::Blk b13 [.string a0] 9::Blk b2 [.slice none 0 0] 32::Blk b3 [VI x419] 3::Blk b4 [VI 2] 33::Blk b9 [.slice A421 l420.length c422] 32::Mk (o220::[])::Emp::Row k41 41 (.slice A421 l420.length c422) l420::L)) 7 hf226 rfl rfl rfl ?_)
       refine TQ.inBR ?_
       refine TQ.thenR ?_
       refine TQ.thenR ?_
       refine TQ.finL (ds:=List.map mark (o220::[])) (.inl rfl) rfl (fun a_ hx693=>?_)
       refine Lv.marks (L':=(Blk b684 [VI y654.2,.string y680,VI x419] 41::Blk b13 [.string a0] 9::Blk b2 [.slice none 0 0] 32::Blk b3 [VI x419] 3::Blk b4 [VI 2] 33::Blk b9 [.slice A421 l420.length c422] 32::Emp::Emp::Row k41 41 (.slice A421 l420.length c422) l420::L)) 6 rfl rfl ?_
       refine Lv.nilRow k41 41 ?_
       obtain rfl:=Option.some.inj h
       have h:=ko517
       obtain rfl:=Option.some.inj h
       exact Lv.nil hx693 Try.results17 (.cell 3 rfl rfl agg32 rfl (.cell 4 rfl rfl agg3 rfl (.cell 5 rfl rfl agg33 rfl .nil))) rfl (FRel.mk (Ls:=[Row k41 41 (.slice none 0 0) ([]:List S41)]) [0] 10 (Gd.le.refl _) rfl rfl rfl ⟨rfl,none,0,rfl,rfl⟩)
      ·
       refine TC.skip ?_
       refine TQ.then_ ?_
       refine TC.region ?_
       refine TV rfl rfl rfl (Val.loadB 5 agg32 rfl rfl rfl) ?_
       refine TV rfl rfl rfl (Val.loadsB 0 (cs:=[VI y654.2,.string y680,VI x419]) agg41 fsz41 rfl rfl rfl rfl) ?_
       refine TL.cons (TL.buildSlice (xs:=[.tmp 19]) (vs:=[.agg #[VI y654.2,.string y680,VI x419]]) (cs:=[VI y654.2,.string y680,VI x419]) rfl rfl Try.underlying32 zs41 rfl rfl rfl rfl rfl rfl rfl rfl (fun b695=>?_))
       refine TK.new (El.of (k:=k41) (xv:=(⟨y654.2,y680,x419⟩:S41)) (cs:=[VI y654.2,.string y680,VI x419]) (fun W B=>k41_mkM W B _ _)) ?_
       refine TK.sel (Ls:=[Row k41 41 (.slice A421 l420.length c422) l420,El k41 (⟨y654.2,y680,x419⟩:S41) [VI y654.2,.string y680,VI x419],Blk b695 [VI y654.2,.string y680,VI x419] 41,Blk b684 [VI y654.2,.string y680,VI x419] 41,Blk b13 [.string a0] 9,Blk b2 [.slice none 0 0] 32,Blk b3 [VI 0] 3,Blk b4 [VI 0] 33,Blk b9 [.slice A421 l420.length c422] 32,Mk (o220::[]),Ob o219 (LoopO R218 .busy none)]) [10,0,1,2,3,4,5,6,7,8,9] 11 rfl rfl rfl ?_
       obtain ⟨ha696,h⟩:=ite_no h
       refine TL.cons (TL.append (xs:=l420) k41 rfl rfl Try.underlying32 inf41 rfl (Nat.le_of_ble_eq_true rfl) (Nat.le_of_ble_eq_true rfl) rfl rfl (by omega) (fun A697 c698=>?_))
       refine TL.cons (TL.store 6 (ds:=[.slice A697 (l420 ++ [(⟨y654.2,y680,x419⟩:S41)]).length c698]) (cs':=[.slice A697 (l420 ++ [(⟨y654.2,y680,x419⟩:S41)]).length c698]) (L':=(Row k41 41 (.slice A697 (l420 ++ [(⟨y654.2,y680,x419⟩:S41)]).length c698) (l420 ++ [(⟨y654.2,y680,x419⟩:S41)])::Blk b684 [VI y654.2,.string y680,VI x419] 41::Blk b13 [.string a0] 9::Blk b2 [.slice none 0 0] 32::Blk b3 [VI 0] 3::Blk b4 [VI 0] 33::Blk b9 [.slice A697 (l420 ++ [(⟨y654.2,y680,x419⟩:S41)]).length c698] 32::Mk (o220::[])::Ob o219 (LoopO R218 .busy none)::L)) rfl fsz32 rfl rfl rfl rfl rfl (Nat.le_of_ble_eq_true rfl) rfl rfl ?_)
       refine TL.nil ?_
       refine TQ.inB ?_
       refine TQ.roundN (L':=(Row k41 41 (.slice A697 (l420 ++ [(⟨y654.2,y680,x419⟩:S41)]).length c698) (l420 ++ [(⟨y654.2,y680,x419⟩:S41)])::Blk b684 [VI y654.2,.string y680,VI x419] 41::Blk b13 [.string a0] 9::Blk b2 [.slice none 0 0] 32::Blk b3 [VI 0] 3::Blk b4 [VI 0] 33::Blk b9 [.slice A697 (l420 ++ [(⟨y654.2,y680,x419⟩:S41)]).length c698] 32::Mk (o220::[])::Ob o219 (LoopO R218 .ready none)::L)) 8 rfl rfl (After.mk hf683 rfl ?_)
       refine TV rfl rfl rfl (Val.not_ rfl) ?_
       refine TV rfl rfl rfl (Val.move rfl) ?_
       refine TV (Wt.yes rfl rfl rfl rfl) rfl rfl (Val.move rfl) ?_
       refine TV (Wt.yes rfl rfl rfl rfl) rfl rfl (Val.cmp rfl rfl run_eql) ?_
       refine TV rfl rfl rfl (Val.pickN rfl rfl rfl) ?_
       refine TL.nil ?_
       refine TQ.then_ ?_
       refine TC.cond_p rfl h (fun hc700 h=>?_) (fun hc700 h=>?_)
       ·
        refine TC.ret ?_
        refine TQ.thenR ?_
        refine TQ.inBR ?_
        refine TQ.thenR ?_
        refine TQ.inBR ?_
        refine TQ.thenR ?_
        refine TQ.fin (v:=.tuple #[]) (.inl rfl) rfl Try.results40 .nil rfl (RangeP.normal (L':=(Row k41 41 (.slice A697 (l420 ++ [(⟨y654.2,y680,x419⟩:S41)]).length c698) (l420 ++ [(⟨y654.2,y680,x419⟩:S41)])::Blk b684 [VI y654.2,.string y680,VI x419] 41::Blk b13 [.string a0] 9::Blk b2 [.slice none 0 0] 32::Blk b3 [VI 0] 3::Blk b4 [VI 0] 33::Blk b9 [.slice A697 (l420 ++ [(⟨y654.2,y680,x419⟩:S41)]).length c698] 32::Mk (o220::[])::Emp::L)) 8 hf226 rfl rfl rfl ?_)
        refine TQ.inB ?_
        obtain ⟨q_,hq_,h⟩:=bind_no h
        obtain rfl:=Option.some.inj h
        have h:=ko517
        obtain rfl:=Option.some.inj h
        have h:=hq_
        clear hq_
        exact fun a W hF hO=>⟨(l420 ++ [(⟨y654.2,y680,x419⟩:S41)]),A697,c698,(o220::[]),h,hF.sub ⟨rfl,rfl,rfl,rfl,rfl,trivial⟩,hO.selT (Ls:=[Blk b2 [.slice none 0 0] 32,Blk b3 [VI 0] 3,Blk b4 [VI 0] 33,Blk b9 [.slice A697 (l420 ++ [(⟨y654.2,y680,x419⟩:S41)]).length c698] 32,Mk (o220::[]),Row k41 41 (.slice A697 (l420 ++ [(⟨y654.2,y680,x419⟩:S41)]).length c698) (l420 ++ [(⟨y654.2,y680,x419⟩:S41)])]) [3,4,5,6,7,0] 9 rfl rfl rfl⟩
       ·
        refine TC.skip ?_
        refine TQ.then_ ?_
        refine TC.region ?_
        refine TV rfl rfl rfl (Val.loadB 2 agg9 rfl rfl rfl) ?_
        refine TV rfl rfl rfl (Val.move rfl) ?_
        obtain ⟨y701,hy702,h⟩:=bind_no h
        refine TL.cons (TL.callV (Lin:=[]) (args:=[.string a0,VI y654.1]) rfl rfl rfl hbd41 rfl rfl (token_skip.calls (a0:=a0) (a1:=y654.1) hy702) rfl ?_)
        rintro _ _ _ _ ⟨rfl,rfl,rfl⟩
        refine TV rfl rfl rfl (Val.assign rfl) ?_
        refine TL.nil ?_
        refine TQ.inB ?_
        exact fun a W hF hO=>⟨y701,(l420 ++ [(⟨y654.2,y680,x419⟩:S41)]),A697,c698,h,hF.sub ⟨rfl,rfl,rfl,trivial⟩,hO.selT (Ls:=[Blk b13 [.string a0] 9,Blk b2 [.slice none 0 0] 32,Blk b3 [VI 0] 3,Blk b4 [VI 0] 33,Blk b9 [.slice A697 (l420 ++ [(⟨y654.2,y680,x419⟩:S41)]).length c698] 32,Mk (o220::[]),Ob o219 (LoopO R218 .ready none),Row k41 41 (.slice A697 (l420 ++ [(⟨y654.2,y680,x419⟩:S41)]).length c698) (l420 ++ [(⟨y654.2,y680,x419⟩:S41)])]) [2,3,4,5,6,7,8,0] 9 rfl rfl rfl⟩
     ·
      refine TC.exit ?_
      refine TQ.thenX ?_
      refine TQ.thenX ?_
      refine TQ.inBX ?_
      exact fun a W hF hO=>⟨l420,A421,c422,Option.some.inj h,hF.sub trivial,hO.selT (Ls:=[Blk b13 [.string a0] 9,Blk b2 [.slice none 0 0] 32,Blk b3 [VI 0] 3,Blk b4 [VI 0] 33,Blk b9 [.slice A421 l420.length c422] 32,Mk (o220::[]),Ob o219 (LoopO R218 .ready none),Row k41 41 (.slice A421 l420.length c422) l420]) [0,1,2,3,4,5,6,7] 8 rfl rfl rfl⟩
end Go.Proofs.Ythlhmoocgjddpaa.Sy
set_option linter.unusedVariables false
set_option linter.unusedSimpArgs false
namespace Go.Proofs.Ythlhmoocgjddpaa.Sy
open Go Go.RowKit Go.Proofs.YthlhmoocgjddpaaW.PrintWords
theorem wz {n : Int} (h0 : -9223372036854775808 ≤ n) (h1 : n ≤ 9223372036854775807) : IntKind.i64.wrap n = n := by
  rw [IntKind.wrap_i64]; omega
theorem byte_some {s : ByteArray} {i : Int} (h0 : 0 ≤ i) (h1 : i < s.size) : ∃ x, byte? s i = some x := by
  unfold byte?
  rw [if_pos h0]
  have : i.toNat < s.data.toList.length := by
    have : s.data.toList.length = s.size := rfl
    omega
  rw [List.getElem?_eq_getElem this]; exact ⟨_, rfl⟩
theorem cutS_some {s : ByteArray} {i j : Int} (h0 : 0 ≤ i) (h1 : i ≤ j) (h2 : j ≤ s.size) : ∃ x : ByteArray, cutS? s i j = some x ∧ (x.size : Int) = j - i := by
  unfold cutS?
  rw [if_pos ⟨h0, h1, h2⟩]
  refine ⟨_, rfl, ?_⟩
  have h3 : s.data.toList.length = s.size := rfl
  have : ∀ l : List UInt8, (⟨l.toArray⟩ : ByteArray).size = l.length := fun l => by simp [ByteArray.size]
  rw [this, List.length_drop, List.length_take, h3]
  omega
theorem exi {c : Prop} [Decidable c] {α : Type} {Q : α → Prop} {x y : Option α} (hx : c → ∃ b, x = some b ∧ Q b) (hy : ¬ c → ∃ b, y = some b ∧ Q b) : ∃ b, (if c then x else y) = some b ∧ Q b := by
  split
  · exact hx ‹_›
  · exact hy ‹_›
theorem tot {α : Type} {x : Option α} (h : ∃ b, x = some b ∧ True) : ∃ b, x = some b := by obtain ⟨b, h, _⟩ := h; exact ⟨b, h⟩
theorem letter_t (x : Int) : ∃ b, token_letter.f x = some b := by
  apply tot
  unfold token_letter.f
  repeat' (first | (apply exi <;> intro _) | exact ⟨_, rfl, trivial⟩)
theorem digit_t (x : Int) : ∃ b, token_digit.f x = some b := by
  apply tot
  unfold token_digit.f
  repeat' (first | (apply exi <;> intro _) | exact ⟨_, rfl, trivial⟩)
theorem blank_t (x : Int) : ∃ b, token_blank.f x = some b := by
  apply tot
  unfold token_blank.f
  repeat' (first | (apply exi <;> intro _) | exact ⟨_, rfl, trivial⟩)
theorem word_t (x : Int) : ∃ b, token_word.f x = some b := by
  obtain ⟨b, hb⟩ := letter_t x
  obtain ⟨c, hc⟩ := digit_t x
  unfold token_word.f
  rw [hb, Option.bind_some, hc]
  cases b <;> exact ⟨_, rfl⟩
theorem sign_t (x : ByteArray) : ∃ b, token_Sign.f x = some b := by
  apply tot
  unfold token_Sign.f
  simp only [jn]
  repeat' (first | (apply exi <;> intro _) | exact ⟨_, rfl, trivial⟩)
theorem prefix_t (x y : ByteArray) : ∃ b, strings_HasPrefix.f x y = some b := by
  unfold strings_HasPrefix.f internal_stringslite_HasPrefix.f
  by_cases h : (y.size : Int) ≤ x.size
  · obtain ⟨z, hz, _⟩ := cutS_some (s := x) (i := 0) (j := y.size) (by omega) (by omega) h
    rw [if_pos h, hz]; exact ⟨_, rfl⟩
  · rw [if_neg h]; exact ⟨_, rfl⟩
theorem cutS_list {s z : ByteArray} {i j : Int} (h : cutS? s i j = some z) : z.data.toList = (s.data.toList.take j.toNat).drop i.toNat := by
  unfold cutS? at h
  split at h
  · cases h; rfl
  · cases h
theorem prefix_two {z : ByteArray} (h : strings_HasPrefix.f z ⟨#[47, 47]⟩ = some true) : z.data.toList[0]? = some 47 := by
  unfold strings_HasPrefix.f internal_stringslite_HasPrefix.f at h
  split at h
  · rename_i hz
    cases hc : cutS? z 0 ((⟨#[47, 47]⟩ : ByteArray).size : Int) with
    | none => rw [hc] at h; cases h
    | some w =>
      rw [hc] at h
      have hw := cutS_list hc
      have h2 : w.data.toList = [47, 47] := by simpa using h
      rw [hw] at h2
      have : z.data.toList.take 2 = [47, 47] := h2
      have h4 := congrArg (fun l => l[0]?) this
      simpa [List.getElem?_take] using h4
  · cases h
/-- Loops that go on while a byte is of a kind. -/
theorem run_t {s : ByteArray} {t : Int → Option Bool} (ht : ∀ x, ∃ b, t x = some b) (hs : s.size ≤ 65536) {L : Nat → Int → Option Int}
    (hL : ∀ n i, L (n + 1) i = if i < (s.size : Int) then (byte? s i).bind fun y => (t y).bind fun b => if b = true then L n (IntKind.i64.wrap (i + 1)) else some i else some i) :
    ∀ (n : Nat) (i : Int), 0 ≤ i → i ≤ s.size → (s.size : Int) - i < n → ∃ j, L n i = some j ∧ (i ≤ j ∧ j ≤ s.size ∧ (∀ y, byte? s i = some y → t y = some true → i < s.size → i < j)) := by
  intro n
  induction n with
  | zero => intro i h0 h1 h2; omega
  | succ n ih =>
    intro i h0 h1 h2
    rw [hL]
    by_cases hi : i < s.size
    · rw [if_pos hi]
      obtain ⟨y, hy⟩ := byte_some h0 hi
      obtain ⟨b, hb⟩ := ht y
      rw [hy, Option.bind_some, hb, Option.bind_some]
      cases b
      · exact ⟨i, rfl, by omega, h1, fun z hz hz' _ => by cases hz; rw [hb] at hz'; cases hz'⟩
      · obtain ⟨j, h3, h4, h5, _⟩ := ih (i + 1) (by omega) (by omega) (by omega)
        rw [if_pos rfl, wz (by omega) (by omega)]
        exact ⟨j, h3, by omega, h5, fun _ _ _ _ => by omega⟩
    · rw [if_neg hi]
      exact ⟨i, rfl, by omega, h1, fun _ _ _ h => absurd h hi⟩
theorem skip_t {s : ByteArray} (hs : s.size ≤ 65536) {i : Int} (h0 : 0 ≤ i) (h1 : i ≤ s.size) : ∃ j, token_skip.f s i = some j ∧ (i ≤ j ∧ j ≤ s.size) := by
  have l1 := run_t (s := s) (t := token_blank.f) blank_t hs (L := token_skip.l1 s) (fun n i => by
    rw [token_skip.l1]; simp only [jn]
    by_cases h : i < s.size <;> simp [h])
  have l2 := run_t (s := s) (t := token_skip_1.f) (fun x => ⟨_, rfl⟩) hs (L := token_skip.l2 s) (fun n i => by
    rw [token_skip.l2]; simp only [jn]
    by_cases h : i < s.size <;> simp [h])
  have l0 : ∀ (n : Nat) (i : Int), 0 ≤ i → i ≤ s.size → (s.size : Int) - i < n → ∃ j, token_skip.l0 s n i = some j ∧ (i ≤ j ∧ j ≤ s.size) := by
    intro n
    induction n with
    | zero => intro i h0 h1 h2; omega
    | succ n ih =>
      intro i h0 h1 h2
      obtain ⟨j, h3, h4, h5, _⟩ := l1 (s.size + 1) i h0 h1 (by omega)
      obtain ⟨z, hz, hz'⟩ := cutS_some (s := s) (i := j) (j := s.size) (by omega) h5 (by omega)
      obtain ⟨b, hb⟩ := prefix_t z ⟨#[47, 47]⟩
      rw [token_skip.l0, h3, Option.bind_some, hz, Option.bind_some, hb, Option.bind_some]
      cases b
      · exact ⟨j, rfl, h4, h5⟩
      · obtain ⟨k, h6, h7, h8, h9⟩ := l2 (s.size + 1) j (by omega) h5 (by omega)
        rw [if_neg (by simp), h6, Option.bind_some]
        -- a row begins with /: that is no line feed
        have hj : j < s.size ∧ j < k := by
          have hp := prefix_two hb
          have hzs := cutS_list hz
          have h10 : byte? s j = some 47 := by
            rw [hzs] at hp
            unfold byte?
            rw [if_pos (by omega)]
            have h3 : s.data.toList.length = s.size := rfl
            rw [List.getElem?_drop, List.getElem?_take] at hp
            have : ((s.size : Int)).toNat = s.size := by omega
            rw [this] at hp
            by_cases hq : j.toNat + 0 < s.size
            · rw [if_pos hq] at hp
              rw [show j.toNat = j.toNat + 0 by omega, hp]; rfl
            · rw [if_neg hq] at hp; cases hp
          have hjs : j < s.size := by
            apply Classical.byContradiction; intro hn
            unfold byte? at h10
            rw [if_pos (by omega), List.getElem?_eq_none (by have h3 : s.data.toList.length = s.size := rfl; omega)] at h10
            cases h10
          exact ⟨hjs, h9 47 h10 rfl hjs⟩
        obtain ⟨m, g1, g2, g3⟩ := ih k (by omega) h8 (by omega)
        exact ⟨m, g1, by omega, g3⟩
  obtain ⟨j, h3, h4⟩ := l0 (s.size + 1) i h0 h1 (by omega)
  unfold token_skip.f
  rw [h3]; exact ⟨j, rfl, h4⟩
theorem number_t {s : ByteArray} (hs : s.size ≤ 65536) : ∃ b, token_Number.f s = some b := by
  have l0 : ∀ (n : Nat) (x i : Int), 0 ≤ i → i ≤ s.size → (s.size : Int) - i < n → ∃ j, token_Number.l0 s n x i = some j := by
    intro n
    induction n with
    | zero => intro x i h0 h1 h2; omega
    | succ n ih =>
      intro x i h0 h1 h2
      rw [token_Number.l0]
      by_cases hi : i < s.size
      · rw [if_pos hi]
        obtain ⟨y, hy⟩ := byte_some h0 hi
        obtain ⟨b, hb⟩ := digit_t y
        rw [hy]
        simp only [Option.bind_some, jn, hb]
        cases b
        · exact ⟨_, rfl⟩
        · rw [if_neg (by simp), if_pos (by decide)]
          rw [wz (n := i + 1) (by omega) (by omega)]
          apply tot
          apply exi
          · intro _; exact ⟨_, rfl, trivial⟩
          · intro _
            obtain ⟨j, hj⟩ := ih (IntKind.i64.wrap ((IntKind.i64.wrap (10 * x)) + (IntKind.i64.wrap ((IntKind.i64.wrap y) - 48)))) (i + 1) (by omega) (by omega) (by omega)
            exact ⟨j, hj, trivial⟩
      · rw [if_neg hi]; exact ⟨_, rfl⟩
  have tail : ∀ b : Bool, ∃ r, (if b = true then some (0, false) else (token_Number.l0 s (s.size + 1) 0 0).bind fun | .inl q_ => some q_ | .inr x131 => (some (x131, true))) = some r := by
    intro b
    cases b
    · obtain ⟨j, hj⟩ := l0 (s.size + 1) 0 0 (by omega) (by omega) (by omega)
      rw [if_neg (by simp), hj, Option.bind_some]
      cases j <;> exact ⟨_, rfl⟩
    · exact ⟨_, rfl⟩
  unfold token_Number.f
  dsimp only [jn]
  by_cases h1 : (s.data.toList == (⟨#[]⟩ : ByteArray).data.toList) = true
  · rw [if_pos h1]; exact tail true
  · rw [if_neg h1]
    by_cases h2 : 1 < (s.size : Int)
    · obtain ⟨y, hy⟩ := byte_some (s := s) (i := 0) (by omega) (by omega)
      rw [if_pos h2, hy, Option.bind_some]; exact tail _
    · rw [if_neg h2]; exact tail false
theorem cut_t {s : ByteArray} (hs : s.size ≤ 65536) {i : Int} (h0 : 0 ≤ i) (h1 : i < s.size) : ∃ r, token_cut.f s i = some r ∧ (i ≤ r.1 ∧ r.1 ≤ s.size ∧ (r.2 ≠ 0 → i < r.1)) := by
  have l0 := run_t (s := s) (t := token_word.f) word_t hs (L := token_cut.l0 s) (fun n i => by
    rw [token_cut.l0]; simp only [jn]
    by_cases h : i < s.size <;> simp [h])
  have l1 := run_t (s := s) (t := token_digit.f) digit_t hs (L := token_cut.l1 s) (fun n i => by
    rw [token_cut.l1]; simp only [jn]
    by_cases h : i < s.size <;> simp [h])
  obtain ⟨y, hy⟩ := byte_some h0 h1
  obtain ⟨b, hb⟩ := letter_t y
  obtain ⟨c, hc⟩ := digit_t y
  unfold token_cut.f
  rw [hy, Option.bind_some, hb, Option.bind_some]
  cases b
  · rw [if_neg (by simp), hc, Option.bind_some]
    cases c
    · rw [if_neg (by simp)]
      have l2 : ∀ (n : Nat) (k : Int), 0 ≤ k → k ≤ 2 → k < n → ∃ r, token_cut.l2 s i n k = some r ∧ (∀ q, r = .inl q → i ≤ q.1 ∧ q.1 ≤ s.size ∧ i < q.1) := by
        intro n
        induction n with
        | zero => intro k g0 g1 g2; omega
        | succ n ih =>
          intro k g0 g1 g2
          rw [token_cut.l2]
          dsimp only [jn]
          by_cases hk : 0 < k
          · rw [if_pos hk, wz (n := i + k) (by omega) (by omega), wz (n := k - 1) (by omega) (by omega)]
            by_cases hi : i + k ≤ s.size
            · obtain ⟨z, hz, _⟩ := cutS_some (s := s) (i := i) (j := i + k) h0 (by omega) hi
              obtain ⟨d, hd⟩ := sign_t z
              rw [if_pos hi, hz, Option.bind_some, hd, Option.bind_some]
              cases d
              · rw [if_neg (by simp)]; exact ih (k - 1) (by omega) (by omega) (by omega)
              · exact ⟨_, rfl, fun q hq => by cases hq; exact ⟨by simp; omega, by simpa using hi, by simp; omega⟩⟩
            · rw [if_neg hi, if_neg (by simp)]; exact ih (k - 1) (by omega) (by omega) (by omega)
          · rw [if_neg hk]; exact ⟨_, rfl, fun q hq => by cases hq⟩
      obtain ⟨r, hr, hq⟩ := l2 (2 + 1) 2 (by omega) (by omega) (by omega)
      rw [hr, Option.bind_some]
      cases r with
      | inl q => obtain ⟨q1, q2, q3⟩ := hq q rfl; exact ⟨q, rfl, q1, q2, fun _ => q3⟩
      | inr q => exact ⟨_, rfl, by simp, by simp; omega, fun h => absurd rfl h⟩
    · rw [if_pos rfl]
      obtain ⟨j, h3, h4, h5, h6⟩ := l1 (s.size + 1) i h0 (by omega) (by omega)
      have h7 := h6 y hy hc h1
      obtain ⟨z, hz, hz'⟩ := cutS_some (s := s) (i := i) (j := j) h0 h4 h5
      obtain ⟨d, hd⟩ := number_t (s := z) (by omega)
      rw [h3, Option.bind_some, hz, Option.bind_some, hd, Option.bind_some]
      dsimp only [jn]
      have tail : ∀ b : Bool, ∃ r, (if b = true then some (i, (0 : Int)) else some (j, 2)) = some r ∧ (i ≤ r.1 ∧ r.1 ≤ s.size ∧ (r.2 ≠ 0 → i < r.1)) := by
        intro b
        cases b
        · exact ⟨_, rfl, by simp; omega, by simp; omega, fun _ => by simp; omega⟩
        · exact ⟨_, rfl, by simp, by simp; omega, fun h => absurd rfl h⟩
      by_cases hn : (!d.2) = true
      · rw [if_pos hn]; exact tail true
      · rw [if_neg hn]
        by_cases hj : j < s.size
        · obtain ⟨w, hw⟩ := byte_some (s := s) (i := j) (by omega) hj
          obtain ⟨u, hu⟩ := letter_t w
          rw [if_pos hj, hw, Option.bind_some, hu, Option.bind_some]; exact tail u
        · rw [if_neg hj]; exact tail false
  · rw [if_pos rfl]
    obtain ⟨j, h3, h4, h5, h6⟩ := l0 (s.size + 1) i h0 (by omega) (by omega)
    have hw : token_word.f y = some true := by unfold token_word.f; rw [hb]; rfl
    have h7 := h6 y hy hw h1
    rw [h3]
    exact ⟨_, rfl, by simp; omega, by simp; omega, fun _ => by simp; omega⟩
theorem lex_t {s : ByteArray} (hs : s.size ≤ 65536) : ∃ l at1 e, token_Lex.f s = some (l, at1, e) ∧ l.length ≤ s.size := by
  have l0 : ∀ (j : List S41 → Option (List S41 × Int × Int)) (n : Nat) (i : Int) (acc : List S41), 0 ≤ i → i ≤ s.size → (s.size : Int) - i < n → acc.length ≤ i →
      (∃ at1 e, token_Lex.l0 s j n i acc = some (.inl ([], at1, e))) ∨ (∃ l : List S41, token_Lex.l0 s j n i acc = some (.inr l) ∧ l.length ≤ s.size) := by
    intro j n
    induction n with
    | zero => intro i acc g0 g1 g2; omega
    | succ n ih =>
      intro i acc g0 g1 g2 g3
      rw [token_Lex.l0]
      by_cases hi : i < s.size
      · obtain ⟨r, hr, h1, h2, h3⟩ := cut_t hs g0 hi
        obtain ⟨z, hz, _⟩ := cutS_some (s := s) (i := i) (j := r.1) g0 h1 h2
        rw [if_pos hi, hr, Option.bind_some, hz, Option.bind_some]
        by_cases hk : r.2 = 0
        · rw [if_pos hk]; exact .inl ⟨_, _, rfl⟩
        · have h4 := h3 hk
          obtain ⟨q, hq, q1, q2⟩ := skip_t hs (i := r.1) (by omega) h2
          rw [if_neg hk, if_pos (by omega), if_neg hk, hq, Option.bind_some]
          exact ih q _ (by omega) q2 (by omega) (by simp; omega)
      · rw [if_neg hi]; exact .inr ⟨_, rfl, by omega⟩
  unfold token_Lex.f
  rw [if_neg (by omega)]
  dsimp only [jn]
  obtain ⟨q, hq, q1, q2⟩ := skip_t hs (i := 0) (by omega) (by omega)
  rw [hq, Option.bind_some]
  rcases l0 (fun l211 => some (l211, (s.size : Int), 0)) (s.size + 1) q [] (by omega) q2 (by omega) (by simp; omega) with ⟨at1, e, h⟩ | ⟨l, h, hl⟩
  · rw [h]; exact ⟨_, _, _, rfl, by simp⟩
  · rw [h]; exact ⟨_, _, _, rfl, hl⟩
end Go.Proofs.Ythlhmoocgjddpaa.Sy
set_option linter.unusedVariables false
set_option linter.unusedSimpArgs false
set_option maxRecDepth 100000
set_option maxHeartbeats 4000000
namespace Go.Proofs.Ythlhmoocgjddpaa.Sy
open Go Go.RowKit Go.Proofs.YthlhmoocgjddpaaW.PrintWords 
def parse_least.f (a0:Int):Option Int:=jn (γ:=Int) (fun (x125:Bool)=>(if x125=true then some 2 else jn (γ:=Int) (fun (x184:Bool)=>(if x184=true then some 0 else jn (γ:=Int) (fun (x191:Bool)=>(if x191=true then some 1 else some (-1))) (fun (j192:(Bool → Option Int))=>(if 1 < a0 then j192 (decide (a0 < 27)) else j192 false)))) (fun (j185:(Bool → Option Int))=>(if a0=1 then j185 (decide (a0=1)) else (if a0=4 then j185 (decide (a0=4)) else (if a0=5 then j185 (decide (a0=5)) else (if a0=9 then j185 (decide (a0=9)) else (if a0=14 then j185 (decide (a0=14)) else (if a0=17 then j185 (decide (a0=17)) else (if a0=18 then j185 (decide (a0=18)) else (if a0=25 then j185 (decide (a0=25)) else j185 (decide (a0=27))))))))))))) (fun (j126:(Bool → Option Int))=>(if a0=2 then j126 (decide (a0=2)) else (if a0=11 then j126 (decide (a0=11)) else (if a0=12 then j126 (decide (a0=12)) else (if a0=13 then j126 (decide (a0=13)) else (if a0=19 then j126 (decide (a0=19)) else j126 (decide (a0=23))))))))
def parse_least.post (G:Gd)  (r:Int) (v:Value) (G':Gd) (Lr:List Ch):Prop:=G=G'∧v=VI r∧Lr=[]
theorem parse_least.calls {G:Gd} {r:Int} {a0:Int} (h:parse_least.f a0=some r):Fn Try.prog 31 G [] [VI a0] (parse_least.post G  r):=by
 refine Fn.intro (e:=[(0,VI a0)]) 27 Try.func31 rfl Try.ntmps31 rfl rfl (Nat.le_of_ble_eq_true rfl) (fun L=>?_)
 unfold parse_least.f at h
 refine TC.seq ?_
 refine TC.region ?_
 refine TV rfl rfl rfl (Val.assign rfl) ?_
 refine TL.nil ?_
 refine TQ.then_ ?_
 refine TC.seq ?_
 refine TC.seq ?_
 refine TC.region ?_
 refine TV rfl rfl rfl (Val.move rfl) ?_
 refine TL.nil ?_
 refine TQ.then_ ?_
 refine TC.block ?_
 refine TC.seq ?_
 refine TC.seq ?_
 refine TC.region ?_
 refine TV rfl rfl rfl (Val.cmp rfl rfl run_eql) ?_
 refine TV rfl rfl rfl (Val.assign rfl) ?_
 refine TL.nil ?_
 refine TQ.then_ ?_
 obtain ⟨j126,hj126,h⟩:=jn_no h
 refine TC.tail (fun a W=>∃ (x125:Bool),j126 x125=some r∧Fr 27 a [(0,VI a0),(3,VI a0),(4,.bool x125)]∧Own G (L) W) ?_ ?_
 ·
  rintro a W ⟨x125,h,hF,hO⟩
  rw [hj126] at h
  refine TQ.use ?_ hF hO
  clear hF hO
  refine TQ.then_ ?_
  refine TC.cond_b rfl h (fun hc175 h=>?_) (fun hc175 h=>?_)
  ·
   refine TC.seq ?_
   refine TC.region ?_
   refine TV rfl rfl rfl (Val.assign rfl) ?_
   refine TL.nil ?_
   refine TQ.then_ ?_
   refine TC.ret ?_
   refine TQ.inBR ?_
   refine TQ.thenR ?_
   obtain rfl:=Option.some.inj h
   exact TQ.fin (.inl rfl) rfl Try.results31 (.tmp rfl .nil) rfl (FRel.mk (Ls:=[]) [] 0 (Gd.le.refl _) rfl rfl rfl ⟨rfl,rfl,rfl⟩)
  ·
   refine TC.seq ?_
   refine TC.seq ?_
   refine TC.region ?_
   refine TV rfl rfl rfl (Val.cmp rfl rfl run_eql) ?_
   refine TV rfl rfl rfl (Val.assign rfl) ?_
   refine TL.nil ?_
   refine TQ.then_ ?_
   obtain ⟨j185,hj185,h⟩:=jn_no h
   refine TC.tail (fun a W=>∃ (x184:Bool),j185 x184=some r∧Fr 27 a [(0,VI a0),(11,.bool x184)]∧Own G (L) W) ?_ ?_
   ·
    rintro a W ⟨x184,h,hF,hO⟩
    rw [hj185] at h
    refine TQ.use ?_ hF hO
    clear hF hO
    refine TQ.then_ ?_
    refine TC.cond_b rfl h (fun hc187 h=>?_) (fun hc187 h=>?_)
    ·
     refine TC.seq ?_
     refine TC.region ?_
     refine TV rfl rfl rfl (Val.assign rfl) ?_
     refine TL.nil ?_
     refine TQ.then_ ?_
     refine TC.ret ?_
     refine TQ.inBR ?_
     refine TQ.thenR ?_
     obtain rfl:=Option.some.inj h
     exact TQ.fin (.inl rfl) rfl Try.results31 (.tmp rfl .nil) rfl (FRel.mk (Ls:=[]) [] 0 (Gd.le.refl _) rfl rfl rfl ⟨rfl,rfl,rfl⟩)
    ·
     refine TC.skip ?_
     refine TQ.inB ?_
     refine TQ.then_ ?_
     refine TC.seq ?_
     refine TC.seq ?_
     obtain ⟨j192,hj192,h⟩:=jn_no h
     refine TC.tail (fun a W=>∃ (x191:Bool),j192 x191=some r∧Fr 27 a [(26,.bool x191)]∧Own G (L) W) ?_ ?_
     ·
      rintro a W ⟨x191,h,hF,hO⟩
      rw [hj192] at h
      refine TQ.use ?_ hF hO
      clear hF hO
      refine TQ.then_ ?_
      refine TC.cond_b rfl h (fun hc194 h=>?_) (fun hc194 h=>?_)
      ·
       refine TC.seq ?_
       refine TC.region ?_
       refine TV rfl rfl rfl (Val.assign rfl) ?_
       refine TL.nil ?_
       refine TQ.then_ ?_
       refine TC.ret ?_
       refine TQ.thenR ?_
       obtain rfl:=Option.some.inj h
       exact TQ.fin (.inl rfl) rfl Try.results31 (.tmp rfl .nil) rfl (FRel.mk (Ls:=[]) [] 0 (Gd.le.refl _) rfl rfl rfl ⟨rfl,rfl,rfl⟩)
      ·
       refine TC.skip ?_
       refine TQ.then_ ?_
       refine TC.seq ?_
       refine TC.region ?_
       refine TV rfl rfl rfl (Val.assign rfl) ?_
       refine TL.nil ?_
       refine TQ.then_ ?_
       refine TC.ret ?_
       obtain rfl:=Option.some.inj h
       exact TQ.fin (.inl rfl) rfl Try.results31 (.tmp rfl .nil) rfl (FRel.mk (Ls:=[]) [] 0 (Gd.le.refl _) rfl rfl rfl ⟨rfl,rfl,rfl⟩)
     ·
      refine TC.region ?_
      refine TV rfl rfl rfl (Val.move rfl) ?_
      refine TV rfl rfl rfl (Val.cmp rfl rfl run_gtr) ?_
      refine TV rfl rfl rfl (Val.move rfl) ?_
      refine TK.split (p:=1 < a0) h (fun hg195 h=>?_) (fun hg195 h=>?_)
      ·
       have hk196:decide (1 < a0)=true:=decide_eq_true hg195
       refine TV (Wt.yes rfl rfl rfl hk196) rfl rfl (Val.move rfl) ?_
       refine TV (Wt.yes rfl rfl rfl hk196) rfl rfl (Val.cmp rfl rfl run_lss) ?_
       refine TV rfl rfl rfl (Val.pickY rfl hk196 rfl) ?_
       refine TL.nil ?_
       exact fun a W hF hO=>⟨decide (a0 < 27),h,hF.sub ⟨rfl,trivial⟩,hO.selT (Ls:=[]) [] 0 rfl rfl rfl⟩
      ·
       have hk197:decide (1 < a0)=false:=decide_eq_false hg195
       refine TL.cons (TL.not (Wt.no rfl rfl rfl hk197) rfl ?_)
       refine TL.cons (TL.not (Wt.no rfl rfl rfl hk197) rfl ?_)
       refine TV rfl rfl rfl (Val.pickN rfl hk197 rfl) ?_
       refine TL.nil ?_
       exact fun a W hF hO=>⟨false,h,hF.sub ⟨rfl,trivial⟩,hO.selT (Ls:=[]) [] 0 rfl rfl rfl⟩
   ·
    refine TC.cond_p rfl h (fun hc198 h=>?_) (fun hc198 h=>?_)
    ·
     refine TC.skip ?_
     exact fun a W hF hO=>⟨decide (a0=1),h,hF.sub ⟨rfl,rfl,trivial⟩,hO.selT (Ls:=[]) [] 0 rfl rfl rfl⟩
    ·
     refine TC.seq ?_
     refine TC.region ?_
     refine TV rfl rfl rfl (Val.cmp rfl rfl run_eql) ?_
     refine TV rfl rfl rfl (Val.assign rfl) ?_
     refine TL.nil ?_
     refine TQ.then_ ?_
     refine TC.cond_p rfl h (fun hc206 h=>?_) (fun hc206 h=>?_)
     ·
      refine TC.skip ?_
      exact fun a W hF hO=>⟨decide (a0=4),h,hF.sub ⟨rfl,rfl,trivial⟩,hO.selT (Ls:=[]) [] 0 rfl rfl rfl⟩
     ·
      refine TC.seq ?_
      refine TC.region ?_
      refine TV rfl rfl rfl (Val.cmp rfl rfl run_eql) ?_
      refine TV rfl rfl rfl (Val.assign rfl) ?_
      refine TL.nil ?_
      refine TQ.then_ ?_
      refine TC.cond_p rfl h (fun hc213 h=>?_) (fun hc213 h=>?_)
      ·
       refine TC.skip ?_
       exact fun a W hF hO=>⟨decide (a0=5),h,hF.sub ⟨rfl,rfl,trivial⟩,hO.selT (Ls:=[]) [] 0 rfl rfl rfl⟩
      ·
       refine TC.seq ?_
       refine TC.region ?_
       refine TV rfl rfl rfl (Val.cmp rfl rfl run_eql) ?_
       refine TV rfl rfl rfl (Val.assign rfl) ?_
       refine TL.nil ?_
       refine TQ.then_ ?_
       refine TC.cond_p rfl h (fun hc219 h=>?_) (fun hc219 h=>?_)
       ·
        refine TC.skip ?_
        exact fun a W hF hO=>⟨decide (a0=9),h,hF.sub ⟨rfl,rfl,trivial⟩,hO.selT (Ls:=[]) [] 0 rfl rfl rfl⟩
       ·
        refine TC.seq ?_
        refine TC.region ?_
        refine TV rfl rfl rfl (Val.cmp rfl rfl run_eql) ?_
        refine TV rfl rfl rfl (Val.assign rfl) ?_
        refine TL.nil ?_
        refine TQ.then_ ?_
        refine TC.cond_p rfl h (fun hc224 h=>?_) (fun hc224 h=>?_)
        ·
         refine TC.skip ?_
         exact fun a W hF hO=>⟨decide (a0=14),h,hF.sub ⟨rfl,rfl,trivial⟩,hO.selT (Ls:=[]) [] 0 rfl rfl rfl⟩
        ·
         refine TC.seq ?_
         refine TC.region ?_
         refine TV rfl rfl rfl (Val.cmp rfl rfl run_eql) ?_
         refine TV rfl rfl rfl (Val.assign rfl) ?_
         refine TL.nil ?_
         refine TQ.then_ ?_
         refine TC.cond_p rfl h (fun hc228 h=>?_) (fun hc228 h=>?_)
         ·
          refine TC.skip ?_
          exact fun a W hF hO=>⟨decide (a0=17),h,hF.sub ⟨rfl,rfl,trivial⟩,hO.selT (Ls:=[]) [] 0 rfl rfl rfl⟩
         ·
          refine TC.seq ?_
          refine TC.region ?_
          refine TV rfl rfl rfl (Val.cmp rfl rfl run_eql) ?_
          refine TV rfl rfl rfl (Val.assign rfl) ?_
          refine TL.nil ?_
          refine TQ.then_ ?_
          refine TC.cond_p rfl h (fun hc231 h=>?_) (fun hc231 h=>?_)
          ·
           refine TC.skip ?_
           exact fun a W hF hO=>⟨decide (a0=18),h,hF.sub ⟨rfl,rfl,trivial⟩,hO.selT (Ls:=[]) [] 0 rfl rfl rfl⟩
          ·
           refine TC.seq ?_
           refine TC.region ?_
           refine TV rfl rfl rfl (Val.cmp rfl rfl run_eql) ?_
           refine TV rfl rfl rfl (Val.assign rfl) ?_
           refine TL.nil ?_
           refine TQ.then_ ?_
           refine TC.cond_p rfl h (fun hc233 h=>?_) (fun hc233 h=>?_)
           ·
            refine TC.skip ?_
            exact fun a W hF hO=>⟨decide (a0=25),h,hF.sub ⟨rfl,rfl,trivial⟩,hO.selT (Ls:=[]) [] 0 rfl rfl rfl⟩
           ·
            refine TC.region ?_
            refine TV rfl rfl rfl (Val.cmp rfl rfl run_eql) ?_
            refine TV rfl rfl rfl (Val.assign rfl) ?_
            refine TL.nil ?_
            exact fun a W hF hO=>⟨decide (a0=27),h,hF.sub ⟨rfl,rfl,trivial⟩,hO.selT (Ls:=[]) [] 0 rfl rfl rfl⟩
 ·
  refine TC.cond_p rfl h (fun hc234 h=>?_) (fun hc234 h=>?_)
  ·
   refine TC.skip ?_
   exact fun a W hF hO=>⟨decide (a0=2),h,hF.sub ⟨rfl,rfl,rfl,trivial⟩,hO.selT (Ls:=[]) [] 0 rfl rfl rfl⟩
  ·
   refine TC.seq ?_
   refine TC.region ?_
   refine TV rfl rfl rfl (Val.cmp rfl rfl run_eql) ?_
   refine TV rfl rfl rfl (Val.assign rfl) ?_
   refine TL.nil ?_
   refine TQ.then_ ?_
   refine TC.cond_p rfl h (fun hc239 h=>?_) (fun hc239 h=>?_)
   ·
    refine TC.skip ?_
    exact fun a W hF hO=>⟨decide (a0=11),h,hF.sub ⟨rfl,rfl,rfl,trivial⟩,hO.selT (Ls:=[]) [] 0 rfl rfl rfl⟩
   ·
    refine TC.seq ?_
    refine TC.region ?_
    refine TV rfl rfl rfl (Val.cmp rfl rfl run_eql) ?_
    refine TV rfl rfl rfl (Val.assign rfl) ?_
    refine TL.nil ?_
    refine TQ.then_ ?_
    refine TC.cond_p rfl h (fun hc243 h=>?_) (fun hc243 h=>?_)
    ·
     refine TC.skip ?_
     exact fun a W hF hO=>⟨decide (a0=12),h,hF.sub ⟨rfl,rfl,rfl,trivial⟩,hO.selT (Ls:=[]) [] 0 rfl rfl rfl⟩
    ·
     refine TC.seq ?_
     refine TC.region ?_
     refine TV rfl rfl rfl (Val.cmp rfl rfl run_eql) ?_
     refine TV rfl rfl rfl (Val.assign rfl) ?_
     refine TL.nil ?_
     refine TQ.then_ ?_
     refine TC.cond_p rfl h (fun hc246 h=>?_) (fun hc246 h=>?_)
     ·
      refine TC.skip ?_
      exact fun a W hF hO=>⟨decide (a0=13),h,hF.sub ⟨rfl,rfl,rfl,trivial⟩,hO.selT (Ls:=[]) [] 0 rfl rfl rfl⟩
     ·
      refine TC.seq ?_
      refine TC.region ?_
      refine TV rfl rfl rfl (Val.cmp rfl rfl run_eql) ?_
      refine TV rfl rfl rfl (Val.assign rfl) ?_
      refine TL.nil ?_
      refine TQ.then_ ?_
      refine TC.cond_p rfl h (fun hc248 h=>?_) (fun hc248 h=>?_)
      ·
       refine TC.skip ?_
       exact fun a W hF hO=>⟨decide (a0=19),h,hF.sub ⟨rfl,rfl,rfl,trivial⟩,hO.selT (Ls:=[]) [] 0 rfl rfl rfl⟩
      ·
       refine TC.region ?_
       refine TV rfl rfl rfl (Val.cmp rfl rfl run_eql) ?_
       refine TV rfl rfl rfl (Val.assign rfl) ?_
       refine TL.nil ?_
       exact fun a W hF hO=>⟨decide (a0=23),h,hF.sub ⟨rfl,rfl,rfl,trivial⟩,hO.selT (Ls:=[]) [] 0 rfl rfl rfl⟩
def parse_writer_put.l0 (a1:(List ByteArray)):Nat → Int → (List ByteArray) → Option ((List ByteArray))
 | 0,_,_=>none
 | n174 + 1,x114,l115=>(if x114 < (a1.length:Int) then (at? a1 x114).bind fun y251=>jn (γ:=((List ByteArray))) (fun (l265:(List ByteArray))=>parse_writer_put.l0 a1 n174 (IntKind.i64.wrap (x114 + 1)) l265) (fun (j269:((List ByteArray) → Option ((List ByteArray))))=>(if (!(y251.data.toList == (⟨#[]⟩:ByteArray).data.toList))=true then (if l115.length < 8796093022208 then j269 (l115 ++ [y251]) else none) else j269 l115)) else some l115)
def parse_writer_put.f (a0_0:(List ByteArray)) (a1:(List ByteArray)):Option (List ByteArray):=(parse_writer_put.l0 a1 (a1.length + 1) 0 a0_0).bind fun (l169:(List ByteArray))=>some l169
def parse_writer_put.post (G:Gd) (b1:Nat) (A2:Option Addr) (c3:Nat) (A5:Option Addr) (c6:Nat) (a0_0:(List ByteArray)) (a1:(List ByteArray)) (r:(List ByteArray)) (v:Value) (G':Gd) (Lr:List Ch):Prop:=G=G'∧∃ (A_s0:Option Addr) (c_s0:Nat),v=.tuple #[]∧Lr=[Blk b1 [.slice A_s0 r.length c_s0] 46,Row Kd.string 9 (.slice A_s0 r.length c_s0) r]
theorem parse_writer_put.calls {G:Gd} {r:(List ByteArray)} {a0_0:(List ByteArray)} {a1:(List ByteArray)} {b1:Nat} {A2:Option Addr} {c3:Nat} {A5:Option Addr} {c6:Nat} (hr7:Rd G Kd.string A5 a1) (hl8:a1.length ≤ c6) (h:parse_writer_put.f a0_0 a1=some r):Fn Try.prog 32 G [Blk b1 [.slice A2 a0_0.length c3] 46,Row Kd.string 9 (.slice A2 a0_0.length c3) a0_0] [VP b1 0,.slice A5 a1.length c6] (parse_writer_put.post G b1 A2 c3 A5 c6 a0_0 a1 r):=by
 refine Fn.intro (e:=[(0,VP b1 0),(1,.slice A5 a1.length c6)]) 25 Try.func32 rfl Try.ntmps32 rfl rfl (Nat.le_of_ble_eq_true rfl) (fun L=>?_)
 unfold parse_writer_put.f at h
 refine TC.seq ?_
 refine TC.region ?_
 refine TV rfl rfl rfl (Val.move rfl) ?_
 refine TV rfl rfl rfl (Val.len Try.underlying44 rfl) ?_
 refine TV rfl rfl rfl (Val.move rfl) ?_
 refine TL.nil ?_
 refine TQ.then_ ?_
 obtain ⟨o173,ho173,ko173⟩:=bind_no h
 clear h
 refine TC.tail (fun a W=>∃ (l169:(List ByteArray)) (A170:Option Addr) (c171:Nat),l169=o173∧Fr 25 a []∧Own G (Blk b1 [.slice A170 l169.length c171] 46::Row Kd.string 9 (.slice A170 l169.length c171) l169::L) W) ?_ ?_
 ·
  rintro a W ⟨l169,A170,c171,rfl,hF,hO⟩
  have h:=ko173
  clear ko173 ho173
  refine TQ.use ?_ hF hO
  clear hF hO
  obtain rfl:=Option.some.inj h
  exact TQ.fin (.inr rfl) rfl Try.results32 .nil rfl (FRel.mk (Ls:=[Blk b1 [.slice A170 l169.length c171] 46,Row Kd.string 9 (.slice A170 l169.length c171) l169]) [0,1] 2 (Gd.le.refl _) rfl rfl rfl ⟨rfl,A170,c171,rfl,rfl⟩)
 ·
  refine TC.block ?_
  intro a W hF hO
  have hS:∃ (x114:Int) (l115:(List ByteArray)) (A116:Option Addr) (c117:Nat),parse_writer_put.l0 a1 (a1.length + 1) x114 l115=some o173∧Fr 25 a [(0,VP b1 0),(6,.slice A5 a1.length c6),(7,VI (a1.length:Int)),(8,VI x114)]∧Own G (Blk b1 [.slice A116 l115.length c117] 46::Row Kd.string 9 (.slice A116 l115.length c117) l115::L) W:=by
   exact ⟨0,a0_0,A2,c3,ho173,hF.sub ⟨rfl,rfl,rfl,rfl,trivial⟩,hO.selT (Ls:=[Blk b1 [.slice A2 a0_0.length c3] 46,Row Kd.string 9 (.slice A2 a0_0.length c3) a0_0]) [0,1] 2 rfl rfl rfl⟩
  clear hF hO ho173 ko173
  refine TC.loop (fun n174 a W=>∃ (x114:Int) (l115:(List ByteArray)) (A116:Option Addr) (c117:Nat),parse_writer_put.l0 a1 n174 x114 l115=some o173∧Fr 25 a [(0,VP b1 0),(6,.slice A5 a1.length c6),(7,VI (a1.length:Int)),(8,VI x114)]∧Own G (Blk b1 [.slice A116 l115.length c117] 46::Row Kd.string 9 (.slice A116 l115.length c117) l115::L) W) ?_ ?_ hS
  ·
   rintro a W ⟨x114,l115,A116,c117,h,hF,hO⟩
   exact none_no h
  ·
   clear hS
   rintro n174 a W ⟨x114,l115,A116,c117,h,hF,hO⟩
   rw [parse_writer_put.l0] at h
   refine TC.use ?_ hF hO
   clear hF hO
   refine TC.seq ?_
   refine TC.region ?_
   refine TV rfl rfl rfl (Val.cmp rfl rfl run_lss) ?_
   refine TL.nil ?_
   refine TQ.then_ ?_
   refine TC.seq ?_
   refine TC.cond_p rfl h (fun hc226 h=>?_) (fun hc226 h=>?_)
   ·
    refine TC.skip ?_
    refine TQ.then_ ?_
    refine TC.seq ?_
    refine TC.block ?_
    refine TC.seq ?_
    refine TC.region ?_
    obtain ⟨y251,hx252,h⟩:=bind_no h
    obtain ⟨ad253,cs259,hA254,hi255,hj256,hcl257,hK258⟩:=Rd.at hr7 hx252
    obtain rfl:=RdK.string hK258
    refine TV rfl rfl rfl (Val.indexAddr Try.underlying44 fsz9 rfl hA254 rfl hi255 hj256) ?_
    refine TV rfl rfl rfl (Val.loadS agg9 rfl (hcl257 0 _ rfl)) ?_
    refine TV rfl rfl rfl (Val.assign rfl) ?_
    refine TL.nil ?_
    refine TQ.then_ ?_
    refine TC.seq ?_
    refine TC.region ?_
    refine TV rfl rfl rfl (Val.move rfl) ?_
    refine TV rfl rfl rfl (Val.neT rfl rfl) ?_
    refine TL.nil ?_
    refine TQ.then_ ?_
    obtain ⟨j269,hj269,h⟩:=jn_no h
    refine TC.tail (fun a W=>∃ (l265:(List ByteArray)) (A266:Option Addr) (c267:Nat),j269 l265=some o173∧Fr 25 a [(0,VP b1 0),(6,.slice A5 a1.length c6),(7,VI (a1.length:Int)),(8,VI x114)]∧Own G (Blk b1 [.slice A266 l265.length c267] 46::Row Kd.string 9 (.slice A266 l265.length c267) l265::L) W) ?_ ?_
    ·
     rintro a W ⟨l265,A266,c267,h,hF,hO⟩
     rw [hj269] at h
     refine TQ.use ?_ hF hO
     clear hF hO
     refine TQ.inB ?_
     refine TQ.then_ ?_
     refine TC.region ?_
     refine TV rfl rfl rfl (Val.cmp rfl rfl run_add) ?_
     refine TV rfl rfl rfl (Val.move rfl) ?_
     refine TL.nil ?_
     exact fun a W hF hO=>⟨IntKind.i64.wrap (x114 + 1),l265,A266,c267,h,hF.sub ⟨rfl,rfl,rfl,rfl,trivial⟩,hO.selT (Ls:=[Blk b1 [.slice A266 l265.length c267] 46,Row Kd.string 9 (.slice A266 l265.length c267) l265]) [0,1] 2 rfl rfl rfl⟩
    ·
     refine TC.cond_b rfl h (fun hc270 h=>?_) (fun hc270 h=>?_)
     ·
      refine TC.region ?_
      refine TV rfl rfl rfl (Val.move rfl) ?_
      refine TV rfl rfl rfl (Val.move rfl) ?_
      refine TV rfl rfl rfl (Val.nilCheck rfl) ?_
      refine TV rfl rfl rfl (Val.fieldAddrB Try.underlying46 rfl fsz44 rfl rfl rfl) ?_
      refine TV rfl rfl rfl (Val.loadB 0 agg44 rfl rfl rfl) ?_
      refine TV rfl rfl rfl (Val.move rfl) ?_
      refine TL.cons (TL.buildSlice (xs:=[.tmp 19]) (vs:=[.string y251]) (cs:=[.string y251]) rfl rfl Try.underlying44 zs9 rfl rfl rfl rfl rfl rfl rfl rfl (fun b271=>?_))
      refine TK.new (El.of (k:=Kd.string) (xv:=y251) (cs:=[.string y251]) (fun W B=>rfl)) ?_
      refine TK.sel (Ls:=[Row Kd.string 9 (.slice A116 l115.length c117) l115,El Kd.string y251 [.string y251],Blk b271 [.string y251] 9,Blk b1 [.slice A116 l115.length c117] 46]) [3,0,1,2] 4 rfl rfl rfl ?_
      obtain ⟨ha272,h⟩:=ite_no h
      refine TL.cons (TL.append (xs:=l115) Kd.string rfl rfl Try.underlying44 inf9 rfl (Nat.le_of_ble_eq_true rfl) (Nat.le_of_ble_eq_true rfl) rfl rfl (by omega) (fun A273 c274=>?_))
      refine TV rfl rfl rfl (Val.nilCheck rfl) ?_
      refine TV rfl rfl rfl (Val.fieldAddrB Try.underlying46 rfl fsz44 rfl rfl rfl) ?_
      refine TL.cons (TL.store 1 (ds:=[.slice A273 (l115 ++ [y251]).length c274]) (cs':=[.slice A273 (l115 ++ [y251]).length c274]) (L':=(Row Kd.string 9 (.slice A273 (l115 ++ [y251]).length c274) (l115 ++ [y251])::Blk b1 [.slice A273 (l115 ++ [y251]).length c274] 46::L)) rfl fsz44 rfl rfl rfl rfl rfl (Nat.le_of_ble_eq_true rfl) rfl rfl ?_)
      refine TL.nil ?_
      exact fun a W hF hO=>⟨(l115 ++ [y251]),A273,c274,h,hF.sub ⟨rfl,rfl,rfl,rfl,trivial⟩,hO.selT (Ls:=[Blk b1 [.slice A273 (l115 ++ [y251]).length c274] 46,Row Kd.string 9 (.slice A273 (l115 ++ [y251]).length c274) (l115 ++ [y251])]) [1,0] 2 rfl rfl rfl⟩
     ·
      refine TC.skip ?_
      exact fun a W hF hO=>⟨l115,A116,c117,h,hF.sub ⟨rfl,rfl,rfl,rfl,trivial⟩,hO.selT (Ls:=[Blk b1 [.slice A116 l115.length c117] 46,Row Kd.string 9 (.slice A116 l115.length c117) l115]) [0,1] 2 rfl rfl rfl⟩
   ·
    refine TC.exit ?_
    refine TQ.thenX ?_
    refine TQ.thenX ?_
    refine TQ.inBX ?_
    exact fun a W hF hO=>⟨l115,A116,c117,Option.some.inj h,hF.sub trivial,hO.selT (Ls:=[Blk b1 [.slice A116 l115.length c117] 46,Row Kd.string 9 (.slice A116 l115.length c117) l115]) [0,1] 2 rfl rfl rfl⟩
end Go.Proofs.Ythlhmoocgjddpaa.Sy
