/- Texts of this work, joined: SyF78, SyF79, SyF80, SyF57, TrB, SyF36, SyF37, SyF112, SyF89, SyF90, SyF64, SyF38, SyF19, SyF81, SyF106, SyF126, SyF123, SyF124, SyF125, SyF107. -/
import Derived.Test.YtfmocegnpmomnaaSyNForwardRunsb
set_option linter.unusedVariables false
set_option linter.unusedSimpArgs false
set_option maxRecDepth 100000
set_option maxHeartbeats 4000000
namespace Go.Proofs.Ytfmocegnpmomnaa.Sy
open Go Go.RowKit Go.Proofs.YtfmocegnpmomnaaW.PrintWords 
def code_Sets.f (a0:S37):Option Int:=(code_shapeOf.f a0.f0).bind fun (y6:(S130 × Bool))=>(if (!y6.1.f0)=true then some 0 else some a0.f1)
def code_Sets.post (G:Gd)  (r:Int) (v:Value) (G':Gd) (Lr:List Ch):Prop:=G=G'∧v=VI r∧Lr=[]
theorem code_Sets.calls {G:Gd} {r:Int} {a0:S37} {A1:Option Addr} {c2:Nat} (hr3:Rd G kI A1 a0.f5) (hl4:a0.f5.length ≤ c2) (h:code_Sets.f a0=some r):Fn Try.prog 78 G [] [.agg #[VI a0.f0,VI a0.f1,VI a0.f2,VI a0.f3,VI a0.f4,.slice A1 a0.f5.length c2]] (code_Sets.post G  r):=by
 refine Fn.intro (e:=[(0,.agg #[VI a0.f0,VI a0.f1,VI a0.f2,VI a0.f3,VI a0.f4,.slice A1 a0.f5.length c2])]) 16 Try.func78 rfl Try.ntmps78 rfl rfl (Nat.le_of_ble_eq_true rfl) (fun L=>?_)
 unfold code_Sets.f at h
 refine TC.seq ?_
 refine TC.region ?_
 refine TL.cons (TL.box (cs:=[VI a0.f0,VI a0.f1,VI a0.f2,VI a0.f3,VI a0.f4,.slice A1 a0.f5.length c2]) rfl rfl rfl rfl (fun b5=>?_))
 refine TV rfl rfl rfl (Val.assign rfl) ?_
 refine TL.nil ?_
 refine TQ.then_ ?_
 refine TC.seq ?_
 refine TC.seq ?_
 refine TC.region ?_
 refine TV rfl rfl rfl (Val.fieldAddrB Try.underlying37 rfl fsz3 rfl rfl rfl) ?_
 refine TV rfl rfl rfl (Val.loadB 0 agg3 rfl rfl rfl) ?_
 obtain ⟨y6,hy7,h⟩:=bind_no h
 refine TL.cons (TL.callV (Lin:=[]) (args:=[VI a0.f0]) rfl rfl rfl hbd101 rfl rfl (code_shapeOf.calls (a0:=a0.f0) hy7) rfl ?_)
 rintro _ _ _ _ ⟨rfl,rfl,rfl⟩
 refine TV rfl rfl rfl (Val.move rfl) ?_
 refine TV rfl rfl rfl (Val.extract rfl rfl) ?_
 refine TV rfl rfl rfl (Val.extract rfl rfl) ?_
 refine TL.cons (TL.alloc (cs:=[.bool false,.bool false,.bool false,.bool false]) rfl rfl zr130 rfl (fun b8=>?_))
 refine TL.cons (TL.store 0 (ds:=[.bool y6.1.f0,.bool y6.1.f1,.bool y6.1.f2,.bool y6.1.f3]) (cs':=[.bool y6.1.f0,.bool y6.1.f1,.bool y6.1.f2,.bool y6.1.f3]) (L':=(Blk b8 [.bool y6.1.f0,.bool y6.1.f1,.bool y6.1.f2,.bool y6.1.f3] 130::Blk b5 [VI a0.f0,VI a0.f1,VI a0.f2,VI a0.f3,VI a0.f4,.slice A1 a0.f5.length c2] 37::L)) rfl fsz130 rfl rfl rfl rfl rfl (Nat.le_of_ble_eq_true rfl) rfl rfl ?_)
 refine TV rfl rfl rfl (Val.assign rfl) ?_
 refine TL.nil ?_
 refine TQ.then_ ?_
 refine TC.seq ?_
 refine TC.region ?_
 refine TV rfl rfl rfl (Val.fieldAddrB Try.underlying130 rfl fsz4 rfl rfl rfl) ?_
 refine TV rfl rfl rfl (Val.loadB 0 agg4 rfl rfl rfl) ?_
 refine TV rfl rfl rfl (Val.not_ rfl) ?_
 refine TL.nil ?_
 refine TQ.then_ ?_
 refine TC.cond_b rfl h (fun hc10 h=>?_) (fun hc10 h=>?_)
 ·
  refine TC.seq ?_
  refine TC.region ?_
  refine TV rfl rfl rfl (Val.assign rfl) ?_
  refine TL.nil ?_
  refine TQ.then_ ?_
  refine TC.ret ?_
  refine TQ.thenR ?_
  obtain rfl:=Option.some.inj h
  exact TQ.fin (.inl rfl) rfl Try.results78 (.tmp rfl .nil) rfl (FRel.mk (Ls:=[]) [] 2 (Gd.le.refl _) rfl rfl rfl ⟨rfl,rfl,rfl⟩)
 ·
  refine TC.skip ?_
  refine TQ.then_ ?_
  refine TC.seq ?_
  refine TC.region ?_
  refine TV rfl rfl rfl (Val.fieldAddrB Try.underlying37 rfl fsz3 rfl rfl rfl) ?_
  refine TV rfl rfl rfl (Val.loadB 1 agg3 rfl rfl rfl) ?_
  refine TV rfl rfl rfl (Val.assign rfl) ?_
  refine TL.nil ?_
  refine TQ.then_ ?_
  refine TC.ret ?_
  obtain rfl:=Option.some.inj h
  exact TQ.fin (.inl rfl) rfl Try.results78 (.tmp rfl .nil) rfl (FRel.mk (Ls:=[]) [] 2 (Gd.le.refl _) rfl rfl rfl ⟨rfl,rfl,rfl⟩)
def code_Uses.f (a0:S37):Option (List Int):=(code_shapeOf.f a0.f0).bind fun (y6:(S130 × Bool))=>jn (γ:=(List Int)) (fun (x12:Bool)=>jn (γ:=(List Int)) (fun (l20:(List Int))=>jn (γ:=(List Int)) (fun (x28:Bool)=>jn (γ:=(List Int)) (fun (l35:(List Int))=>jn (γ:=(List Int)) (fun (l44:(List Int))=>some l44) (fun (j48:((List Int) → Option (List Int)))=>(if a0.f0=7 then (if l35.length + a0.f5.length ≤ 17592186044416 then j48 (l35 ++ a0.f5) else none) else j48 l35))) (fun (j39:((List Int) → Option (List Int)))=>(if x28=true then (if l20.length < 17592186044416 then j39 (l20 ++ [a0.f3]) else none) else j39 l20))) (fun (j29:(Bool → Option (List Int)))=>(if y6.2=true then j29 y6.1.f2 else j29 false))) (fun (j24:((List Int) → Option (List Int)))=>(if x12=true then (if ([]:List Int).length < 17592186044416 then j24 (([]:List Int) ++ [a0.f2]) else none) else j24 []))) (fun (j13:(Bool → Option (List Int)))=>(if y6.2=true then j13 y6.1.f1 else j13 false))
def code_Uses.post (G:Gd)  (r:(List Int)) (v:Value) (G':Gd) (Lr:List Ch):Prop:=G=G'∧∃ (A_1:Option Addr) (c_1:Nat),v=.slice A_1 r.length c_1∧Lr=[Row kI 3 (.slice A_1 r.length c_1) r]
theorem code_Uses.calls {G:Gd} {r:(List Int)} {a0:S37} {A1:Option Addr} {c2:Nat} (hr3:Rd G kI A1 a0.f5) (hl4:a0.f5.length ≤ c2) (h:code_Uses.f a0=some r):Fn Try.prog 79 G [] [.agg #[VI a0.f0,VI a0.f1,VI a0.f2,VI a0.f3,VI a0.f4,.slice A1 a0.f5.length c2]] (code_Uses.post G  r):=by
 refine Fn.intro (e:=[(0,.agg #[VI a0.f0,VI a0.f1,VI a0.f2,VI a0.f3,VI a0.f4,.slice A1 a0.f5.length c2])]) 40 Try.func79 rfl Try.ntmps79 rfl rfl (Nat.le_of_ble_eq_true rfl) (fun L=>?_)
 unfold code_Uses.f at h
 refine TC.seq ?_
 refine TC.region ?_
 refine TL.cons (TL.box (cs:=[VI a0.f0,VI a0.f1,VI a0.f2,VI a0.f3,VI a0.f4,.slice A1 a0.f5.length c2]) rfl rfl rfl rfl (fun b5=>?_))
 refine TV rfl rfl rfl (Val.assign rfl) ?_
 refine TL.nil ?_
 refine TQ.then_ ?_
 refine TC.seq ?_
 refine TC.region ?_
 refine TV rfl rfl rfl (Val.fieldAddrB Try.underlying37 rfl fsz3 rfl rfl rfl) ?_
 refine TV rfl rfl rfl (Val.loadB 0 agg3 rfl rfl rfl) ?_
 obtain ⟨y6,hy7,h⟩:=bind_no h
 refine TL.cons (TL.callV (Lin:=[]) (args:=[VI a0.f0]) rfl rfl rfl hbd101 rfl rfl (code_shapeOf.calls (a0:=a0.f0) hy7) rfl ?_)
 rintro _ _ _ _ ⟨rfl,rfl,rfl⟩
 refine TV rfl rfl rfl (Val.move rfl) ?_
 refine TV rfl rfl rfl (Val.extract rfl rfl) ?_
 refine TV rfl rfl rfl (Val.extract rfl rfl) ?_
 refine TL.cons (TL.alloc (cs:=[.bool false,.bool false,.bool false,.bool false]) rfl rfl zr130 rfl (fun b8=>?_))
 refine TL.cons (TL.store 0 (ds:=[.bool y6.1.f0,.bool y6.1.f1,.bool y6.1.f2,.bool y6.1.f3]) (cs':=[.bool y6.1.f0,.bool y6.1.f1,.bool y6.1.f2,.bool y6.1.f3]) (L':=(Blk b8 [.bool y6.1.f0,.bool y6.1.f1,.bool y6.1.f2,.bool y6.1.f3] 130::Blk b5 [VI a0.f0,VI a0.f1,VI a0.f2,VI a0.f3,VI a0.f4,.slice A1 a0.f5.length c2] 37::L)) rfl fsz130 rfl rfl rfl rfl rfl (Nat.le_of_ble_eq_true rfl) rfl rfl ?_)
 refine TV rfl rfl rfl (Val.assign rfl) ?_
 refine TL.nil ?_
 refine TQ.then_ ?_
 refine TC.seq ?_
 refine TC.region ?_
 refine TV rfl rfl rfl (Val.assign rfl) ?_
 refine TL.nil ?_
 refine TQ.then_ ?_
 refine TC.seq ?_
 refine TC.seq ?_
 obtain ⟨j13,hj13,h⟩:=jn_no h
 refine TC.tail (fun a W=>∃ (x12:Bool),j13 x12=some r∧Fr 40 a [(1,VP b5 0),(3,VP b8 0),(4,.bool y6.2),(5,.slice none 0 0),(16,.bool x12)]∧Own G (Blk b5 [VI a0.f0,VI a0.f1,VI a0.f2,VI a0.f3,VI a0.f4,.slice A1 a0.f5.length c2] 37::Blk b8 [.bool y6.1.f0,.bool y6.1.f1,.bool y6.1.f2,.bool y6.1.f3] 130::L) W) ?_ ?_
 ·
  rintro a W ⟨x12,h,hF,hO⟩
  rw [hj13] at h
  refine TQ.use ?_ hF hO
  clear hF hO
  refine TQ.then_ ?_
  obtain ⟨j24,hj24,h⟩:=jn_no h
  refine TC.tail (fun a W=>∃ (l20:(List Int)) (A21:Option Addr) (c22:Nat),j24 l20=some r∧Fr 40 a [(1,VP b5 0),(3,VP b8 0),(4,.bool y6.2),(5,.slice A21 l20.length c22)]∧Own G (Blk b5 [VI a0.f0,VI a0.f1,VI a0.f2,VI a0.f3,VI a0.f4,.slice A1 a0.f5.length c2] 37::Blk b8 [.bool y6.1.f0,.bool y6.1.f1,.bool y6.1.f2,.bool y6.1.f3] 130::Row kI 3 (.slice A21 l20.length c22) l20::L) W) ?_ ?_
  ·
   rintro a W ⟨l20,A21,c22,h,hF,hO⟩
   rw [hj24] at h
   refine TQ.use ?_ hF hO
   clear hF hO
   refine TQ.then_ ?_
   refine TC.seq ?_
   refine TC.seq ?_
   obtain ⟨j29,hj29,h⟩:=jn_no h
   refine TC.tail (fun a W=>∃ (x28:Bool),j29 x28=some r∧Fr 40 a [(1,VP b5 0),(5,.slice A21 l20.length c22),(26,.bool x28)]∧Own G (Blk b5 [VI a0.f0,VI a0.f1,VI a0.f2,VI a0.f3,VI a0.f4,.slice A1 a0.f5.length c2] 37::Row kI 3 (.slice A21 l20.length c22) l20::L) W) ?_ ?_
   ·
    rintro a W ⟨x28,h,hF,hO⟩
    rw [hj29] at h
    refine TQ.use ?_ hF hO
    clear hF hO
    refine TQ.then_ ?_
    obtain ⟨j39,hj39,h⟩:=jn_no h
    refine TC.tail (fun a W=>∃ (l35:(List Int)) (A36:Option Addr) (c37:Nat),j39 l35=some r∧Fr 40 a [(1,VP b5 0),(5,.slice A36 l35.length c37)]∧Own G (Blk b5 [VI a0.f0,VI a0.f1,VI a0.f2,VI a0.f3,VI a0.f4,.slice A1 a0.f5.length c2] 37::Row kI 3 (.slice A36 l35.length c37) l35::L) W) ?_ ?_
    ·
     rintro a W ⟨l35,A36,c37,h,hF,hO⟩
     rw [hj39] at h
     refine TQ.use ?_ hF hO
     clear hF hO
     refine TQ.then_ ?_
     refine TC.seq ?_
     refine TC.seq ?_
     refine TC.region ?_
     refine TV rfl rfl rfl (Val.fieldAddrB Try.underlying37 rfl fsz3 rfl rfl rfl) ?_
     refine TV rfl rfl rfl (Val.loadB 0 agg3 rfl rfl rfl) ?_
     refine TV rfl rfl rfl (Val.cmp rfl rfl run_eql) ?_
     refine TL.nil ?_
     refine TQ.then_ ?_
     obtain ⟨j48,hj48,h⟩:=jn_no h
     refine TC.tail (fun a W=>∃ (l44:(List Int)) (A45:Option Addr) (c46:Nat),j48 l44=some r∧Fr 40 a [(5,.slice A45 l44.length c46)]∧Own G (Row kI 3 (.slice A45 l44.length c46) l44::L) W) ?_ ?_
     ·
      rintro a W ⟨l44,A45,c46,h,hF,hO⟩
      rw [hj48] at h
      refine TQ.use ?_ hF hO
      clear hF hO
      refine TQ.then_ ?_
      refine TC.seq ?_
      refine TC.region ?_
      refine TV rfl rfl rfl (Val.move rfl) ?_
      refine TV rfl rfl rfl (Val.assign rfl) ?_
      refine TL.nil ?_
      refine TQ.then_ ?_
      refine TC.ret ?_
      obtain rfl:=Option.some.inj h
      exact TQ.fin (.inl rfl) rfl Try.results79 (.tmp rfl .nil) rfl (FRel.mk (Ls:=[Row kI 3 (.slice A45 l44.length c46) l44]) [0] 1 (Gd.le.refl _) rfl rfl rfl ⟨rfl,A45,c46,rfl,rfl⟩)
     ·
      refine TC.cond_p rfl h (fun hc49 h=>?_) (fun hc49 h=>?_)
      ·
       refine TC.region ?_
       refine TV rfl rfl rfl (Val.move rfl) ?_
       refine TV rfl rfl rfl (Val.fieldAddrB Try.underlying37 rfl fsz23 rfl rfl rfl) ?_
       refine TV rfl rfl rfl (Val.loadB 0 agg23 rfl rfl rfl) ?_
       refine TK.sel (Ls:=[Row kI 3 (.slice A36 l35.length c37) l35,Blk b5 [VI a0.f0,VI a0.f1,VI a0.f2,VI a0.f3,VI a0.f4,.slice A1 a0.f5.length c2] 37]) [1,0] 2 rfl rfl rfl ?_
       obtain ⟨ha50,h⟩:=ite_no h
       refine TL.cons (TL.appendR (xs:=l35) (ys:=a0.f5) kI kI rfl rfl Try.underlying23 inf3 rfl (Nat.le_of_ble_eq_true rfl) (Nat.le_of_ble_eq_true rfl) rfl rfl (by omega) hr3 rfl (fun _ _ _ _ _ h=>h) (fun A51 c52=>?_))
       refine TV rfl rfl rfl (Val.assign rfl) ?_
       refine TL.nil ?_
       exact fun a W hF hO=>⟨(l35 ++ a0.f5),A51,c52,h,hF.sub ⟨rfl,trivial⟩,hO.selT (Ls:=[Row kI 3 (.slice A51 (l35 ++ a0.f5).length c52) (l35 ++ a0.f5)]) [0] 2 rfl rfl rfl⟩
      ·
       refine TC.skip ?_
       exact fun a W hF hO=>⟨l35,A36,c37,h,hF.sub ⟨rfl,trivial⟩,hO.selT (Ls:=[Row kI 3 (.slice A36 l35.length c37) l35]) [1] 2 rfl rfl rfl⟩
    ·
     refine TC.cond_b rfl h (fun hc53 h=>?_) (fun hc53 h=>?_)
     ·
      refine TC.region ?_
      refine TV rfl rfl rfl (Val.move rfl) ?_
      refine TV rfl rfl rfl (Val.fieldAddrB Try.underlying37 rfl fsz3 rfl rfl rfl) ?_
      refine TV rfl rfl rfl (Val.loadB 0 agg3 rfl rfl rfl) ?_
      refine TL.cons (TL.buildSlice (xs:=[.tmp 29]) (vs:=[VI a0.f3]) (cs:=[VI a0.f3]) rfl rfl Try.underlying23 zs3 rfl rfl rfl rfl rfl rfl rfl rfl (fun b54=>?_))
      refine TK.new (El.of (k:=kI) (xv:=a0.f3) (cs:=[VI a0.f3]) (fun W B=>rfl)) ?_
      refine TK.sel (Ls:=[Row kI 3 (.slice A21 l20.length c22) l20,El kI a0.f3 [VI a0.f3],Blk b54 [VI a0.f3] 3,Blk b5 [VI a0.f0,VI a0.f1,VI a0.f2,VI a0.f3,VI a0.f4,.slice A1 a0.f5.length c2] 37]) [3,0,1,2] 4 rfl rfl rfl ?_
      obtain ⟨ha55,h⟩:=ite_no h
      refine TL.cons (TL.append (xs:=l20) kI rfl rfl Try.underlying23 inf3 rfl (Nat.le_of_ble_eq_true rfl) (Nat.le_of_ble_eq_true rfl) rfl rfl (by omega) (fun A56 c57=>?_))
      refine TV rfl rfl rfl (Val.assign rfl) ?_
      refine TL.nil ?_
      exact fun a W hF hO=>⟨(l20 ++ [a0.f3]),A56,c57,h,hF.sub ⟨rfl,rfl,trivial⟩,hO.selT (Ls:=[Blk b5 [VI a0.f0,VI a0.f1,VI a0.f2,VI a0.f3,VI a0.f4,.slice A1 a0.f5.length c2] 37,Row kI 3 (.slice A56 (l20 ++ [a0.f3]).length c57) (l20 ++ [a0.f3])]) [1,0] 2 rfl rfl rfl⟩
     ·
      refine TC.skip ?_
      exact fun a W hF hO=>⟨l20,A21,c22,h,hF.sub ⟨rfl,rfl,trivial⟩,hO.selT (Ls:=[Blk b5 [VI a0.f0,VI a0.f1,VI a0.f2,VI a0.f3,VI a0.f4,.slice A1 a0.f5.length c2] 37,Row kI 3 (.slice A21 l20.length c22) l20]) [0,1] 2 rfl rfl rfl⟩
   ·
    refine TC.region ?_
    refine TV rfl rfl rfl (Val.move rfl) ?_
    refine TV rfl rfl rfl (Val.move rfl) ?_
    refine TK.split (p:=y6.2=true) h (fun hg58 h=>?_) (fun hg58 h=>?_)
    ·
     have hk59:y6.2=true:=hg58
     refine TV (Wt.yes rfl rfl rfl hk59) rfl rfl (Val.fieldAddrB Try.underlying130 rfl fsz4 rfl rfl rfl) ?_
     refine TV (Wt.yes rfl rfl rfl hk59) rfl rfl (Val.loadB 1 agg4 rfl rfl rfl) ?_
     refine TV rfl rfl rfl (Val.pickY rfl hk59 rfl) ?_
     refine TL.nil ?_
     exact fun a W hF hO=>⟨y6.1.f2,h,hF.sub ⟨rfl,rfl,rfl,trivial⟩,hO.selT (Ls:=[Blk b5 [VI a0.f0,VI a0.f1,VI a0.f2,VI a0.f3,VI a0.f4,.slice A1 a0.f5.length c2] 37,Row kI 3 (.slice A21 l20.length c22) l20]) [0,2] 3 rfl rfl rfl⟩
    ·
     have hk60:y6.2=false:=(by simpa using hg58)
     refine TL.cons (TL.not (Wt.no rfl rfl rfl hk60) rfl ?_)
     refine TL.cons (TL.not (Wt.no rfl rfl rfl hk60) rfl ?_)
     refine TV rfl rfl rfl (Val.pickN rfl hk60 rfl) ?_
     refine TL.nil ?_
     exact fun a W hF hO=>⟨false,h,hF.sub ⟨rfl,rfl,rfl,trivial⟩,hO.selT (Ls:=[Blk b5 [VI a0.f0,VI a0.f1,VI a0.f2,VI a0.f3,VI a0.f4,.slice A1 a0.f5.length c2] 37,Row kI 3 (.slice A21 l20.length c22) l20]) [0,2] 3 rfl rfl rfl⟩
  ·
   refine TC.cond_b rfl h (fun hc61 h=>?_) (fun hc61 h=>?_)
   ·
    refine TC.region ?_
    refine TV rfl rfl rfl (Val.move rfl) ?_
    refine TV rfl rfl rfl (Val.fieldAddrB Try.underlying37 rfl fsz3 rfl rfl rfl) ?_
    refine TV rfl rfl rfl (Val.loadB 0 agg3 rfl rfl rfl) ?_
    refine TL.cons (TL.buildSlice (xs:=[.tmp 19]) (vs:=[VI a0.f2]) (cs:=[VI a0.f2]) rfl rfl Try.underlying23 zs3 rfl rfl rfl rfl rfl rfl rfl rfl (fun b62=>?_))
    refine TK.new (Row.nil kI 3) ?_
    refine TK.new (El.of (k:=kI) (xv:=a0.f2) (cs:=[VI a0.f2]) (fun W B=>rfl)) ?_
    refine TK.sel (Ls:=[Row kI 3 (.slice none 0 0) ([]:List Int),El kI a0.f2 [VI a0.f2],Blk b62 [VI a0.f2] 3,Blk b5 [VI a0.f0,VI a0.f1,VI a0.f2,VI a0.f3,VI a0.f4,.slice A1 a0.f5.length c2] 37,Blk b8 [.bool y6.1.f0,.bool y6.1.f1,.bool y6.1.f2,.bool y6.1.f3] 130]) [1,0,2,3,4] 5 rfl rfl rfl ?_
    obtain ⟨ha64,h⟩:=ite_no h
    refine TL.cons (TL.append (xs:=([]:List Int)) kI rfl rfl Try.underlying23 inf3 rfl (Nat.le_of_ble_eq_true rfl) (Nat.le_of_ble_eq_true rfl) rfl rfl (by omega) (fun A65 c66=>?_))
    refine TV rfl rfl rfl (Val.assign rfl) ?_
    refine TL.nil ?_
    exact fun a W hF hO=>⟨(([]:List Int) ++ [a0.f2]),A65,c66,h,hF.sub ⟨rfl,rfl,rfl,rfl,trivial⟩,hO.selT (Ls:=[Blk b5 [VI a0.f0,VI a0.f1,VI a0.f2,VI a0.f3,VI a0.f4,.slice A1 a0.f5.length c2] 37,Blk b8 [.bool y6.1.f0,.bool y6.1.f1,.bool y6.1.f2,.bool y6.1.f3] 130,Row kI 3 (.slice A65 (([]:List Int) ++ [a0.f2]).length c66) (([]:List Int) ++ [a0.f2])]) [1,2,0] 3 rfl rfl rfl⟩
   ·
    refine TC.skip ?_
    exact fun a W hF hO=>⟨[],none,0,h,hF.sub ⟨rfl,rfl,rfl,rfl,trivial⟩,(Own.nilRow kI 3 hO).selT (Ls:=[Blk b5 [VI a0.f0,VI a0.f1,VI a0.f2,VI a0.f3,VI a0.f4,.slice A1 a0.f5.length c2] 37,Blk b8 [.bool y6.1.f0,.bool y6.1.f1,.bool y6.1.f2,.bool y6.1.f3] 130,Row kI 3 (.slice none ([]:List Int).length 0) ([]:List Int)]) [1,2,0] 3 rfl rfl rfl⟩
 ·
  refine TC.region ?_
  refine TV rfl rfl rfl (Val.move rfl) ?_
  refine TV rfl rfl rfl (Val.move rfl) ?_
  refine TK.split (p:=y6.2=true) h (fun hg67 h=>?_) (fun hg67 h=>?_)
  ·
   have hk68:y6.2=true:=hg67
   refine TV (Wt.yes rfl rfl rfl hk68) rfl rfl (Val.fieldAddrB Try.underlying130 rfl fsz4 rfl rfl rfl) ?_
   refine TV (Wt.yes rfl rfl rfl hk68) rfl rfl (Val.loadB 0 agg4 rfl rfl rfl) ?_
   refine TV rfl rfl rfl (Val.pickY rfl hk68 rfl) ?_
   refine TL.nil ?_
   exact fun a W hF hO=>⟨y6.1.f1,h,hF.sub ⟨rfl,rfl,rfl,rfl,rfl,trivial⟩,hO.selT (Ls:=[Blk b5 [VI a0.f0,VI a0.f1,VI a0.f2,VI a0.f3,VI a0.f4,.slice A1 a0.f5.length c2] 37,Blk b8 [.bool y6.1.f0,.bool y6.1.f1,.bool y6.1.f2,.bool y6.1.f3] 130]) [1,0] 2 rfl rfl rfl⟩
  ·
   have hk69:y6.2=false:=(by simpa using hg67)
   refine TL.cons (TL.not (Wt.no rfl rfl rfl hk69) rfl ?_)
   refine TL.cons (TL.not (Wt.no rfl rfl rfl hk69) rfl ?_)
   refine TV rfl rfl rfl (Val.pickN rfl hk69 rfl) ?_
   refine TL.nil ?_
   exact fun a W hF hO=>⟨false,h,hF.sub ⟨rfl,rfl,rfl,rfl,rfl,trivial⟩,hO.selT (Ls:=[Blk b5 [VI a0.f0,VI a0.f1,VI a0.f2,VI a0.f3,VI a0.f4,.slice A1 a0.f5.length c2] 37,Blk b8 [.bool y6.1.f0,.bool y6.1.f1,.bool y6.1.f2,.bool y6.1.f3] 130]) [1,0] 2 rfl rfl rfl⟩
def code_TermUses.f (a0:S40):Option (List Int):=jn (γ:=(List Int)) (fun (x5:Bool)=>(if x5=true then some ([a0.f1]:List Int) else some ([]:List Int))) (fun (j6:(Bool → Option (List Int)))=>(if a0.f0=2 then j6 true else j6 (decide (a0.f0=3))))
def code_TermUses.post (G:Gd)  (r:(List Int)) (v:Value) (G':Gd) (Lr:List Ch):Prop:=G=G'∧∃ (A_1:Option Addr) (c_1:Nat),v=.slice A_1 r.length c_1∧Lr=[Row kI 3 (.slice A_1 r.length c_1) r]
theorem code_TermUses.calls {G:Gd} {r:(List Int)} {a0:S40} (h:code_TermUses.f a0=some r):Fn Try.prog 80 G [] [.agg #[VI a0.f0,VI a0.f1,VI a0.f2,VI a0.f3]] (code_TermUses.post G  r):=by
 refine Fn.intro (e:=[(0,.agg #[VI a0.f0,VI a0.f1,VI a0.f2,VI a0.f3])]) 14 Try.func80 rfl Try.ntmps80 rfl rfl (Nat.le_of_ble_eq_true rfl) (fun L=>?_)
 unfold code_TermUses.f at h
 refine TC.seq ?_
 refine TC.region ?_
 refine TL.cons (TL.box (cs:=[VI a0.f0,VI a0.f1,VI a0.f2,VI a0.f3]) rfl rfl rfl rfl (fun b1=>?_))
 refine TV rfl rfl rfl (Val.assign rfl) ?_
 refine TL.nil ?_
 refine TQ.then_ ?_
 refine TC.seq ?_
 refine TC.seq ?_
 obtain ⟨j6,hj6,h⟩:=jn_no h
 refine TC.tail (fun a W=>∃ (x5:Bool),j6 x5=some r∧Fr 14 a [(1,VP b1 0),(10,.bool x5)]∧Own G (Blk b1 [VI a0.f0,VI a0.f1,VI a0.f2,VI a0.f3] 40::L) W) ?_ ?_
 ·
  rintro a W ⟨x5,h,hF,hO⟩
  rw [hj6] at h
  refine TQ.use ?_ hF hO
  clear hF hO
  refine TQ.then_ ?_
  refine TC.cond_b rfl h (fun hc9 h=>?_) (fun hc9 h=>?_)
  ·
   refine TC.seq ?_
   refine TC.region ?_
   refine TV rfl rfl rfl (Val.fieldAddrB Try.underlying40 rfl fsz3 rfl rfl rfl) ?_
   refine TV rfl rfl rfl (Val.loadB 0 agg3 rfl rfl rfl) ?_
   refine TL.cons (TL.buildSlice (xs:=[.tmp 12]) (vs:=[VI a0.f1]) (cs:=[VI a0.f1]) rfl rfl Try.underlying23 zs3 rfl rfl rfl rfl rfl rfl rfl rfl (fun b10=>?_))
   refine TV rfl rfl rfl (Val.assign rfl) ?_
   refine TL.nil ?_
   refine TQ.then_ ?_
   refine TC.ret ?_
   refine TQ.thenR ?_
   refine TQ.new (Els.nil kI) ?_
   refine TQ.new (El.of (k:=kI) (xv:=a0.f1) (cs:=[VI a0.f1]) (fun W B=>rfl)) ?_
   refine TQ.sel (Ls:=[Els kI [] [],El kI a0.f1 [VI a0.f1],Blk b10 [VI a0.f1] 3,Blk b1 [VI a0.f0,VI a0.f1,VI a0.f2,VI a0.f3] 40]) [1,0,2,3] 4 rfl rfl rfl ?_
   refine TQ.two (ch:=Els kI [a0.f1] [VI a0.f1]) (Els.snoc kI) ?_
   refine TQ.sel (Ls:=[Blk b10 [VI a0.f1] 3,Els kI [a0.f1] [VI a0.f1],Blk b1 [VI a0.f0,VI a0.f1,VI a0.f2,VI a0.f3] 40]) [1,0,2] 3 rfl rfl rfl ?_
   refine TQ.two (ch:=Row kI 3 (.slice (some ⟨b10,0,none⟩) 1 1) ([a0.f1]:List Int)) (Row.lit kI rfl rfl) ?_
   obtain rfl:=Option.some.inj h
   exact TQ.fin (.inl rfl) rfl Try.results80 (.tmp rfl .nil) rfl (FRel.mk (Ls:=[Row kI 3 (.slice (some ⟨b10,0,none⟩) 1 1) ([a0.f1]:List Int)]) [0] 2 (Gd.le.refl _) rfl rfl rfl ⟨rfl,(some ⟨b10,0,none⟩),1,rfl,rfl⟩)
  ·
   refine TC.skip ?_
   refine TQ.then_ ?_
   refine TC.seq ?_
   refine TC.region ?_
   refine TV rfl rfl rfl (Val.assign rfl) ?_
   refine TL.nil ?_
   refine TQ.then_ ?_
   refine TC.ret ?_
   refine TQ.nilRow kI 3 ?_
   obtain rfl:=Option.some.inj h
   exact TQ.fin (.inl rfl) rfl Try.results80 (.tmp rfl .nil) rfl (FRel.mk (Ls:=[Row kI 3 (.slice none 0 0) ([]:List Int)]) [0] 2 (Gd.le.refl _) rfl rfl rfl ⟨rfl,none,0,rfl,rfl⟩)
 ·
  refine TC.region ?_
  refine TV rfl rfl rfl (Val.fieldAddrB Try.underlying40 rfl fsz3 rfl rfl rfl) ?_
  refine TV rfl rfl rfl (Val.loadB 0 agg3 rfl rfl rfl) ?_
  refine TV rfl rfl rfl (Val.cmp rfl rfl run_eql) ?_
  refine TV rfl rfl rfl (Val.move rfl) ?_
  refine TK.split (p:=a0.f0=2) h (fun hg13 h=>?_) (fun hg13 h=>?_)
  ·
   have hk14:decide (a0.f0=2)=true:=decide_eq_true hg13
   refine TL.cons (TL.not (Wt.no rfl rfl rfl hk14) rfl ?_)
   refine TL.cons (TL.not (Wt.no rfl rfl rfl hk14) rfl ?_)
   refine TL.cons (TL.not (Wt.no rfl rfl rfl hk14) rfl ?_)
   refine TV rfl rfl rfl (Val.pickY rfl hk14 rfl) ?_
   refine TL.nil ?_
   exact fun a W hF hO=>⟨true,h,hF.sub ⟨rfl,rfl,trivial⟩,hO.selT (Ls:=[Blk b1 [VI a0.f0,VI a0.f1,VI a0.f2,VI a0.f3] 40]) [0] 1 rfl rfl rfl⟩
  ·
   have hk15:decide (a0.f0=2)=false:=decide_eq_false hg13
   refine TV (Wt.yes rfl rfl rfl hk15) rfl rfl (Val.fieldAddrB Try.underlying40 rfl fsz3 rfl rfl rfl) ?_
   refine TV (Wt.yes rfl rfl rfl hk15) rfl rfl (Val.loadB 0 agg3 rfl rfl rfl) ?_
   refine TV (Wt.yes rfl rfl rfl hk15) rfl rfl (Val.cmp rfl rfl run_eql) ?_
   refine TV rfl rfl rfl (Val.pickN rfl hk15 rfl) ?_
   refine TL.nil ?_
   exact fun a W hF hO=>⟨decide (a0.f0=3),h,hF.sub ⟨rfl,rfl,trivial⟩,hO.selT (Ls:=[Blk b1 [VI a0.f0,VI a0.f1,VI a0.f2,VI a0.f3] 40]) [0] 1 rfl rfl rfl⟩
def code_Regs.l2 (y6304:(List Int)):Nat → Int → Int → Option (Int)
 | 0,_,_=>none
 | n6411 + 1,x6375,x6376=>(if x6375 < (y6304.length:Int) then (at? y6304 x6375).bind fun y6467=>code_Regs.l2 y6304 n6411 (IntKind.i64.wrap (x6375 + 1)) (if x6376 < y6467 then y6467 else x6376) else some x6376)
def code_Regs.l1 (a0:S45):Nat → Int → Int → Option (Int)
 | 0,_,_=>none
 | n5974 + 1,x5776,x5777=>(if x5776 < (a0.f1.length:Int) then (at? a0.f1 x5776).bind fun y6290=>(code_TermUses.f y6290.f1).bind fun (y6304:(List Int))=>(code_Regs.l2 y6304 (y6304.length + 1) 0 x5777).bind fun (x6409:Int)=>code_Regs.l1 a0 n5974 (IntKind.i64.wrap (x5776 + 1)) x6409 else some x5777)
def code_Regs.l4 (y8834:(List Int)):Nat → Int → Int → Option (Int)
 | 0,_,_=>none
 | n8941 + 1,x8905,x8906=>(if x8905 < (y8834.length:Int) then (at? y8834 x8905).bind fun y8997=>code_Regs.l4 y8834 n8941 (IntKind.i64.wrap (x8905 + 1)) (if x8906 < y8997 then y8997 else x8906) else some x8906)
def code_Regs.l3 (y7163:S42):Nat → Int → Int → Option (Int)
 | 0,_,_=>none
 | n8179 + 1,x7843,x7844=>(if x7843 < (y7163.f0.length:Int) then (at? y7163.f0 x7843).bind fun y8703=>(code_Sets.f y8703).bind fun (y8832:Int)=>(code_Uses.f y8703).bind fun (y8834:(List Int))=>(code_Regs.l4 y8834 (y8834.length + 1) 0 (if x7844 < y8832 then y8832 else x7844)).bind fun (x8939:Int)=>code_Regs.l3 y7163 n8179 (IntKind.i64.wrap (x7843 + 1)) x8939 else some x7844)
def code_Regs.l0 (a0:S45):Nat → Int → Int → Option (Int)
 | 0,_,_=>none
 | n4439 + 1,x3489,x3490=>(if x3489 < (a0.f1.length:Int) then (at? a0.f1 x3489).bind fun y7163=>(code_Regs.l3 y7163 (y7163.f0.length + 1) 0 x3490).bind fun (x8177:Int)=>code_Regs.l0 a0 n4439 (IntKind.i64.wrap (x3489 + 1)) x8177 else some x3490)
def code_Regs.f (a0:S45):Option Int:=(code_Regs.l0 a0 (a0.f1.length + 1) 0 (if 0 < a0.f0 then a0.f0 else 0)).bind fun (x4437:Int)=>(code_Regs.l1 a0 (a0.f1.length + 1) 0 x4437).bind fun (x5972:Int)=>some x5972
def code_Regs.post (G:Gd)  (r:Int) (v:Value) (G':Gd) (Lr:List Ch):Prop:=G=G'∧v=VI r∧Lr=[]
theorem code_Regs.calls {G:Gd} {r:Int} {a0:S45} {A1:Option Addr} {c2:Nat} (hr3:Rd G k42 A1 a0.f1) (hl4:a0.f1.length ≤ c2) (h:code_Regs.f a0=some r):Fn Try.prog 57 G [] [.agg #[VI a0.f0,.slice A1 a0.f1.length c2]] (code_Regs.post G  r):=by
 refine Fn.intro (e:=[(0,.agg #[VI a0.f0,.slice A1 a0.f1.length c2])]) 53 Try.func57 rfl Try.ntmps57 rfl rfl (Nat.le_of_ble_eq_true rfl) (fun L=>?_)
 unfold code_Regs.f at h
 refine TC.new (ch:=Mk []) Mk.nil ?_
 refine TC.seq ?_
 refine TC.region ?_
 refine TL.cons (TL.box (cs:=[VI a0.f0,.slice A1 a0.f1.length c2]) rfl rfl rfl rfl (fun b6=>?_))
 refine TV rfl rfl rfl (Val.assign rfl) ?_
 refine TL.nil ?_
 refine TQ.then_ ?_
 refine TC.seq ?_
 refine TC.region ?_
 refine TV rfl rfl rfl (Val.fieldAddrB Try.underlying45 rfl fsz3 rfl rfl rfl) ?_
 refine TV rfl rfl rfl (Val.loadB 0 agg3 rfl rfl rfl) ?_
 refine TV rfl rfl rfl (Val.max2 rfl rfl) ?_
 refine TL.cons (TL.alloc (cs:=[VI 0]) rfl rfl zr3 rfl (fun b7=>?_))
 refine TL.cons (TL.store 0 (ds:=[VI (if 0 < a0.f0 then a0.f0 else 0)]) (cs':=[VI (if 0 < a0.f0 then a0.f0 else 0)]) (L':=(Blk b7 [VI (if 0 < a0.f0 then a0.f0 else 0)] 3::Blk b6 [VI a0.f0,.slice A1 a0.f1.length c2] 45::Mk []::L)) rfl fsz3 rfl rfl rfl rfl rfl (Nat.le_of_ble_eq_true rfl) rfl rfl ?_)
 refine TL.nil ?_
 refine TQ.then_ ?_
 refine TC.seq ?_
 refine TC.seq ?_
 refine TC.region ?_
 refine TV rfl rfl rfl (Val.loadsB 1 (cs:=[VI a0.f0,.slice A1 a0.f1.length c2]) agg45 fsz45 rfl rfl rfl rfl) ?_
 refine TL.cons (TO.inl (args:=[.agg #[VI a0.f0,.slice A1 a0.f1.length c2]]) (e':=[(0,.agg #[VI a0.f0,.slice A1 a0.f1.length c2])]) 4 rfl rfl hbd55 rfl rfl Try.func55 rfl Try.ntmps55 rfl rfl (Nat.le_of_ble_eq_true rfl) (fun a8 hf9=>?_))
 refine TC.seq ?_
 refine TC.region ?_
 refine TL.cons (TL.box (cs:=[VI a0.f0,.slice A1 a0.f1.length c2]) rfl rfl rfl rfl (fun b11=>?_))
 refine TV rfl rfl rfl (Val.assign rfl) ?_
 refine TL.nil ?_
 refine TQ.then_ ?_
 refine TC.seq ?_
 refine TC.region ?_
 refine TV rfl rfl rfl (Val.makeFunc (xs:=[]) (ys:=[VP b11 0]) rfl rfl) ?_
 refine TV rfl rfl rfl (Val.assign rfl) ?_
 refine TL.nil ?_
 refine TQ.then_ ?_
 refine TC.ret ?_
 refine TQ.fin (v:=.func (.func 77) #[] #[VP b11 0]) (.inl rfl) rfl Try.results55 (.tmp rfl .nil) rfl (After.mk hf9 rfl ?_)
 refine TL.nil ?_
 refine TQ.then_ ?_
 refine TC.block ?_
 refine TC.rangeFunc (e1:=fun l_=>[(0,.func (.yield l_) #[] #[]),(1,VP b11 0)]) 27 rfl hbd77 Try.func77 rfl Try.ntmps77 rfl (fun _=>rfl) (Nat.le_of_ble_eq_true rfl) (fun a1589 R1586 o1587 o1588 hp1590 ha1591 hb1592 hf1593 hf1594=>?_)
 refine TC.sel (Ls:=[Ob o1588 (.deferred (some [])),Mk [],Ob o1587 (LoopO R1586 .ready none),Blk b11 [VI a0.f0,.slice A1 a0.f1.length c2] 45,Blk b7 [VI (if 0 < a0.f0 then a0.f0 else 0)] 3,Blk b6 [VI a0.f0,.slice A1 a0.f1.length c2] 45]) [1,5,0,2,3,4] 6 rfl rfl rfl ?_
 refine TC.two (ch:=Mk (o1588::[])) Mk.cons ?_
 refine TC.seq ?_
 refine TC.region ?_
 refine TV rfl rfl rfl (Val.fieldAddrB Try.underlying45 rfl fsz43 rfl rfl rfl) ?_
 refine TV rfl rfl rfl (Val.loadB 2 agg43 rfl rfl rfl) ?_
 refine TV rfl rfl rfl (Val.len Try.underlying43 rfl) ?_
 refine TV rfl rfl rfl (Val.move rfl) ?_
 refine TL.nil ?_
 refine TQ.then_ ?_
 obtain ⟨o4438,ho4438,ko4438⟩:=bind_no h
 clear h
 refine TC.tail (fun a W=>∃ (x4437:Int),x4437=o4438∧Fr 27 a []∧Own G (Blk b11 [VI a0.f0,.slice A1 a0.f1.length c2] 45::Blk b6 [VI a0.f0,.slice A1 a0.f1.length c2] 45::Blk b7 [VI x4437] 3::Mk (o1588::[])::Ob o1587 (LoopO R1586 .ready none)::L) W) ?_ ?_
 ·
  rintro a W ⟨x4437,rfl,hF,hO⟩
  have h:=ko4438
  clear ko4438 ho4438
  refine TQ.use ?_ hF hO
  clear hF hO
  refine TQ.fin (v:=.tuple #[]) (.inr rfl) rfl Try.results77 .nil rfl (RangeP.normal (L':=(Blk b11 [VI a0.f0,.slice A1 a0.f1.length c2] 45::Blk b6 [VI a0.f0,.slice A1 a0.f1.length c2] 45::Blk b7 [VI x4437] 3::Mk (o1588::[])::Emp::L)) 4 hf1594 rfl rfl rfl ?_)
  refine TQ.inB ?_
  refine TQ.then_ ?_
  refine TC.seq ?_
  refine TC.seq ?_
  refine TC.region ?_
  refine TV rfl rfl rfl (Val.fieldAddrB Try.underlying45 rfl fsz43 rfl rfl rfl) ?_
  refine TV rfl rfl rfl (Val.loadB 1 agg43 rfl rfl rfl) ?_
  refine TV rfl rfl rfl (Val.len Try.underlying43 rfl) ?_
  refine TV rfl rfl rfl (Val.move rfl) ?_
  refine TL.nil ?_
  refine TQ.then_ ?_
  obtain ⟨o5973,ho5973,ko5973⟩:=bind_no h
  clear h
  refine TC.tail (fun a W=>∃ (x5972:Int),x5972=o5973∧Fr (⟨53,List.map mark (o1588::[])⟩:Nd) a [(3,VP b7 0)]∧Own G (Blk b7 [VI x5972] 3::Mk (o1588::[])::L) W) ?_ ?_
  ·
   rintro a W ⟨x5972,rfl,hF,hO⟩
   have h:=ko5973
   clear ko5973 ho5973
   refine TQ.use ?_ hF hO
   clear hF hO
   refine TQ.then_ ?_
   refine TC.seq ?_
   refine TC.region ?_
   refine TV rfl rfl rfl (Val.loadB 0 agg3 rfl rfl rfl) ?_
   refine TV rfl rfl rfl (Val.assign rfl) ?_
   refine TL.nil ?_
   refine TQ.then_ ?_
   refine TC.ret ?_
   refine TQ.finL (ds:=List.map mark (o1588::[])) (.inl rfl) rfl (fun a_ hx6167=>?_)
   refine Lv.marks (L':=(Blk b7 [VI x5972] 3::Emp::L)) 1 rfl rfl ?_
   obtain rfl:=Option.some.inj h
   exact Lv.nil hx6167 Try.results57 (.tmp rfl .nil) rfl (FRel.mk (Ls:=[]) [] 2 (Gd.le.refl _) rfl rfl rfl ⟨rfl,rfl,rfl⟩)
  ·
   refine TC.block ?_
   intro a W hF hO
   have hS:∃ (x5776:Int) (x5777:Int),code_Regs.l1 a0 (a0.f1.length + 1) x5776 x5777=some o5973∧Fr (⟨53,List.map mark (o1588::[])⟩:Nd) a [(3,VP b7 0),(33,.slice A1 a0.f1.length c2),(34,VI (a0.f1.length:Int)),(35,VI x5776)]∧Own G (Blk b7 [VI x5777] 3::Mk (o1588::[])::L) W:=by
    exact ⟨0,x4437,ho5973,hF.sub ⟨rfl,rfl,rfl,rfl,trivial⟩,hO.selT (Ls:=[Blk b7 [VI x4437] 3,Mk (o1588::[])]) [2,3] 5 rfl rfl rfl⟩
   clear hF hO ho5973 ko5973
   refine TC.loop (fun n5974 a W=>∃ (x5776:Int) (x5777:Int),code_Regs.l1 a0 n5974 x5776 x5777=some o5973∧Fr (⟨53,List.map mark (o1588::[])⟩:Nd) a [(3,VP b7 0),(33,.slice A1 a0.f1.length c2),(34,VI (a0.f1.length:Int)),(35,VI x5776)]∧Own G (Blk b7 [VI x5777] 3::Mk (o1588::[])::L) W) ?_ ?_ hS
   ·
    rintro a W ⟨x5776,x5777,h,hF,hO⟩
    exact none_no h
   ·
    clear hS
    rintro n5974 a W ⟨x5776,x5777,h,hF,hO⟩
    rw [code_Regs.l1] at h
    refine TC.use ?_ hF hO
    clear hF hO
    refine TC.seq ?_
    refine TC.region ?_
    refine TV rfl rfl rfl (Val.cmp rfl rfl run_lss) ?_
    refine TL.nil ?_
    refine TQ.then_ ?_
    refine TC.seq ?_
    refine TC.cond_p rfl h (fun hc6169 h=>?_) (fun hc6169 h=>?_)
    ·
     refine TC.skip ?_
     refine TQ.then_ ?_
     refine TC.seq ?_
     refine TC.block ?_
     refine TC.seq ?_
     refine TC.region ?_
     obtain ⟨y6290,hx6291,h⟩:=bind_no h
     obtain ⟨ad6292,cs6298,hA6293,hi6294,hj6295,hcl6296,hK6297⟩:=Rd.at hr3 hx6291
     obtain ⟨A6299,c6300,rfl,hr6301,hl6302⟩:=k42_openR hK6297
     refine TV rfl rfl rfl (Val.indexAddr Try.underlying43 fsz42 rfl hA6293 rfl hi6294 hj6295) ?_
     refine TV rfl rfl rfl (Val.loadsS (cs:=[.slice A6299 y6290.f0.length c6300,VI y6290.f1.f0,VI y6290.f1.f1,VI y6290.f1.f2,VI y6290.f1.f3]) agg42 fsz42 rfl rfl (Cl.sub (off:=0) (n:=5) hcl6296 rfl)) ?_
     refine TL.cons (TL.alloc (cs:=[.slice none 0 0,VI 0,VI 0,VI 0,VI 0]) rfl rfl zr42 rfl (fun b6303=>?_))
     refine TL.cons (TL.store 0 (ds:=[.slice A6299 y6290.f0.length c6300,VI y6290.f1.f0,VI y6290.f1.f1,VI y6290.f1.f2,VI y6290.f1.f3]) (cs':=[.slice A6299 y6290.f0.length c6300,VI y6290.f1.f0,VI y6290.f1.f1,VI y6290.f1.f2,VI y6290.f1.f3]) (L':=(Blk b6303 [.slice A6299 y6290.f0.length c6300,VI y6290.f1.f0,VI y6290.f1.f1,VI y6290.f1.f2,VI y6290.f1.f3] 42::Blk b7 [VI x5777] 3::Mk (o1588::[])::L)) rfl fsz42 rfl rfl rfl rfl rfl (Nat.le_of_ble_eq_true rfl) rfl rfl ?_)
     refine TL.nil ?_
     refine TQ.then_ ?_
     refine TC.seq ?_
     refine TC.region ?_
     refine TV rfl rfl rfl (Val.fieldAddrB Try.underlying42 rfl fsz40 rfl rfl rfl) ?_
     refine TV rfl rfl rfl (Val.loadsB 0 (cs:=[VI y6290.f1.f0,VI y6290.f1.f1,VI y6290.f1.f2,VI y6290.f1.f3]) agg40 fsz40 rfl rfl rfl rfl) ?_
     obtain ⟨y6304,hy6305,h⟩:=bind_no h
     refine TL.cons (TL.callV (Lin:=[]) (args:=[.agg #[VI y6290.f1.f0,VI y6290.f1.f1,VI y6290.f1.f2,VI y6290.f1.f3]]) rfl rfl rfl hbd80 rfl rfl (code_TermUses.calls (a0:=y6290.f1) hy6305) rfl ?_)
     rintro _ _ _ _ ⟨rfl,A6306,c6307,rfl,rfl⟩
     refine TV rfl rfl rfl (Val.len Try.underlying23 rfl) ?_
     refine TV rfl rfl rfl (Val.move rfl) ?_
     refine TL.nil ?_
     refine TQ.then_ ?_
     obtain ⟨o6410,ho6410,ko6410⟩:=bind_no h
     clear h
     refine TC.tail (fun a W=>∃ (x6409:Int),x6409=o6410∧Fr (⟨53,List.map mark (o1588::[])⟩:Nd) a [(3,VP b7 0),(33,.slice A1 a0.f1.length c2),(34,VI (a0.f1.length:Int)),(35,VI x5776)]∧Own G (Blk b7 [VI x6409] 3::Mk (o1588::[])::L) W) ?_ ?_
     ·
      rintro a W ⟨x6409,rfl,hF,hO⟩
      have h:=ko6410
      clear ko6410 ho6410
      refine TQ.use ?_ hF hO
      clear hF hO
      refine TQ.inB ?_
      refine TQ.then_ ?_
      refine TC.region ?_
      refine TV rfl rfl rfl (Val.cmp rfl rfl run_add) ?_
      refine TV rfl rfl rfl (Val.move rfl) ?_
      refine TL.nil ?_
      exact fun a W hF hO=>⟨IntKind.i64.wrap (x5776 + 1),x6409,h,hF.sub ⟨rfl,rfl,rfl,rfl,trivial⟩,hO.selT (Ls:=[Blk b7 [VI x6409] 3,Mk (o1588::[])]) [0,1] 2 rfl rfl rfl⟩
     ·
      refine TC.block ?_
      intro a W hF hO
      have hS:∃ (x6375:Int) (x6376:Int),code_Regs.l2 y6304 (y6304.length + 1) x6375 x6376=some o6410∧Fr (⟨53,List.map mark (o1588::[])⟩:Nd) a [(3,VP b7 0),(33,.slice A1 a0.f1.length c2),(34,VI (a0.f1.length:Int)),(35,VI x5776),(41,.slice A6306 y6304.length c6307),(42,VI (y6304.length:Int)),(43,VI x6375)]∧Own G (Blk b7 [VI x6376] 3::Mk (o1588::[])::Row kI 3 (.slice A6306 y6304.length c6307) y6304::L) W:=by
       exact ⟨0,x5777,ho6410,hF.sub ⟨rfl,rfl,rfl,rfl,rfl,rfl,rfl,trivial⟩,hO.selT (Ls:=[Blk b7 [VI x5777] 3,Mk (o1588::[]),Row kI 3 (.slice A6306 y6304.length c6307) y6304]) [2,3,0] 4 rfl rfl rfl⟩
      clear hF hO ho6410 ko6410
      refine TC.loop (fun n6411 a W=>∃ (x6375:Int) (x6376:Int),code_Regs.l2 y6304 n6411 x6375 x6376=some o6410∧Fr (⟨53,List.map mark (o1588::[])⟩:Nd) a [(3,VP b7 0),(33,.slice A1 a0.f1.length c2),(34,VI (a0.f1.length:Int)),(35,VI x5776),(41,.slice A6306 y6304.length c6307),(42,VI (y6304.length:Int)),(43,VI x6375)]∧Own G (Blk b7 [VI x6376] 3::Mk (o1588::[])::Row kI 3 (.slice A6306 y6304.length c6307) y6304::L) W) ?_ ?_ hS
      ·
       rintro a W ⟨x6375,x6376,h,hF,hO⟩
       exact none_no h
      ·
       clear hS
       rintro n6411 a W ⟨x6375,x6376,h,hF,hO⟩
       rw [code_Regs.l2] at h
       refine TC.use ?_ hF hO
       clear hF hO
       refine TC.seq ?_
       refine TC.region ?_
       refine TV rfl rfl rfl (Val.cmp rfl rfl run_lss) ?_
       refine TL.nil ?_
       refine TQ.then_ ?_
       refine TC.seq ?_
       refine TC.cond_p rfl h (fun hc6445 h=>?_) (fun hc6445 h=>?_)
       ·
        refine TC.skip ?_
        refine TQ.then_ ?_
        refine TC.seq ?_
        refine TC.block ?_
        refine TC.seq ?_
        refine TC.region ?_
        refine TK.sel (Ls:=[Row kI 3 (.slice A6306 y6304.length c6307) y6304,Blk b7 [VI x6376] 3,Mk (o1588::[])]) [2,0,1] 3 rfl rfl rfl ?_
        refine TK.share (fun G6461 e6462 hs6463 hb6464=>?_)
        have rd6465:Rd G6461 kI A6306 y6304:=Rd.row hs6463
        have le6466:y6304.length ≤ c6307:=Row.le hs6463
        obtain ⟨y6467,hx6468,h⟩:=bind_no h
        obtain ⟨ad6469,cs6475,hA6470,hi6471,hj6472,hcl6473,hK6474⟩:=Rd.at rd6465 hx6468
        obtain rfl:=RdK.int hK6474
        refine TV rfl rfl rfl (Val.indexAddr Try.underlying23 fsz3 rfl hA6470 rfl hi6471 hj6472) ?_
        refine TV rfl rfl rfl (Val.loadS agg3 rfl (hcl6473 0 _ rfl)) ?_
        refine TV rfl rfl rfl (Val.assign rfl) ?_
        refine TL.nil ?_
        refine TQ.then_ ?_
        refine TC.region ?_
        refine TV rfl rfl rfl (Val.loadB 0 agg3 rfl rfl rfl) ?_
        refine TV rfl rfl rfl (Val.move rfl) ?_
        refine TV rfl rfl rfl (Val.max2 rfl rfl) ?_
        refine TL.cons (TL.store 0 (ds:=[VI (if x6376 < y6467 then y6467 else x6376)]) (cs':=[VI (if x6376 < y6467 then y6467 else x6376)]) (L':=(Blk b7 [VI (if x6376 < y6467 then y6467 else x6376)] 3::Mk (o1588::[])::L)) rfl fsz3 rfl rfl rfl rfl rfl (Nat.le_of_ble_eq_true rfl) rfl rfl ?_)
        refine TL.nil ?_
        refine TQ.inB ?_
        refine TQ.then_ ?_
        refine TC.region ?_
        refine TV rfl rfl rfl (Val.cmp rfl rfl run_add) ?_
        refine TV rfl rfl rfl (Val.move rfl) ?_
        refine TL.nil ?_
        refine TQ.back hb6464 ?_
        exact fun a W hF hO=>⟨IntKind.i64.wrap (x6375 + 1),(if x6376 < y6467 then y6467 else x6376),h,hF.sub ⟨rfl,rfl,rfl,rfl,rfl,rfl,rfl,trivial⟩,hO.selT (Ls:=[Blk b7 [VI (if x6376 < y6467 then y6467 else x6376)] 3,Mk (o1588::[]),Row kI 3 (.slice A6306 y6304.length c6307) y6304]) [1,2,0] 3 rfl rfl rfl⟩
       ·
        refine TC.exit ?_
        refine TQ.thenX ?_
        refine TQ.thenX ?_
        refine TQ.inBX ?_
        exact fun a W hF hO=>⟨x6376,Option.some.inj h,hF.sub ⟨rfl,rfl,rfl,rfl,trivial⟩,hO.selT (Ls:=[Blk b7 [VI x6376] 3,Mk (o1588::[])]) [0,1] 3 rfl rfl rfl⟩
    ·
     refine TC.exit ?_
     refine TQ.thenX ?_
     refine TQ.thenX ?_
     refine TQ.inBX ?_
     exact fun a W hF hO=>⟨x5777,Option.some.inj h,hF.sub ⟨rfl,trivial⟩,hO.selT (Ls:=[Blk b7 [VI x5777] 3,Mk (o1588::[])]) [0,1] 2 rfl rfl rfl⟩
 ·
  refine TC.block ?_
  intro a W hF hO
  have hS:∃ (x3489:Int) (x3490:Int),code_Regs.l0 a0 (a0.f1.length + 1) x3489 x3490=some o4438∧Fr 27 a [(0,.func (.yield o1587) #[] #[]),(8,.slice A1 a0.f1.length c2),(9,VI (a0.f1.length:Int)),(10,VI x3489)]∧Own G (Blk b11 [VI a0.f0,.slice A1 a0.f1.length c2] 45::Blk b6 [VI a0.f0,.slice A1 a0.f1.length c2] 45::Blk b7 [VI x3490] 3::Mk (o1588::[])::Ob o1587 (LoopO R1586 .ready none)::L) W:=by
   exact ⟨0,(if 0 < a0.f0 then a0.f0 else 0),ho4438,hF.sub ⟨rfl,rfl,rfl,rfl,trivial⟩,hO.selT (Ls:=[Blk b11 [VI a0.f0,.slice A1 a0.f1.length c2] 45,Blk b6 [VI a0.f0,.slice A1 a0.f1.length c2] 45,Blk b7 [VI (if 0 < a0.f0 then a0.f0 else 0)] 3,Mk (o1588::[]),Ob o1587 (LoopO R1586 .ready none)]) [2,4,3,0,1] 5 rfl rfl rfl⟩
  clear hF hO ho4438 ko4438
  refine TC.loop (fun n4439 a W=>∃ (x3489:Int) (x3490:Int),code_Regs.l0 a0 n4439 x3489 x3490=some o4438∧Fr 27 a [(0,.func (.yield o1587) #[] #[]),(8,.slice A1 a0.f1.length c2),(9,VI (a0.f1.length:Int)),(10,VI x3489)]∧Own G (Blk b11 [VI a0.f0,.slice A1 a0.f1.length c2] 45::Blk b6 [VI a0.f0,.slice A1 a0.f1.length c2] 45::Blk b7 [VI x3490] 3::Mk (o1588::[])::Ob o1587 (LoopO R1586 .ready none)::L) W) ?_ ?_ hS
  ·
   rintro a W ⟨x3489,x3490,h,hF,hO⟩
   exact none_no h
  ·
   clear hS
   rintro n4439 a W ⟨x3489,x3490,h,hF,hO⟩
   rw [code_Regs.l0] at h
   refine TC.use ?_ hF hO
   clear hF hO
   refine TC.seq ?_
   refine TC.region ?_
   refine TV rfl rfl rfl (Val.cmp rfl rfl run_lss) ?_
   refine TL.nil ?_
   refine TQ.then_ ?_
   refine TC.seq ?_
   refine TC.cond_p rfl h (fun hc6477 h=>?_) (fun hc6477 h=>?_)
   ·
    refine TC.skip ?_
    refine TQ.then_ ?_
    refine TC.seq ?_
    refine TC.block ?_
    refine TC.seq ?_
    refine TC.region ?_
    obtain ⟨y7163,hx7164,h⟩:=bind_no h
    obtain ⟨ad7165,cs7171,hA7166,hi7167,hj7168,hcl7169,hK7170⟩:=Rd.at hr3 hx7164
    obtain ⟨A7172,c7173,rfl,hr7174,hl7175⟩:=k42_openR hK7170
    refine TV rfl rfl rfl (Val.indexAddr Try.underlying43 fsz42 rfl hA7166 rfl hi7167 hj7168) ?_
    refine TV rfl rfl rfl (Val.loadsS (cs:=[.slice A7172 y7163.f0.length c7173,VI y7163.f1.f0,VI y7163.f1.f1,VI y7163.f1.f2,VI y7163.f1.f3]) agg42 fsz42 rfl rfl (Cl.sub (off:=0) (n:=5) hcl7169 rfl)) ?_
    refine TL.cons (TL.alloc (cs:=[.slice none 0 0,VI 0,VI 0,VI 0,VI 0]) rfl rfl zr42 rfl (fun b7176=>?_))
    refine TL.cons (TL.store 0 (ds:=[.slice A7172 y7163.f0.length c7173,VI y7163.f1.f0,VI y7163.f1.f1,VI y7163.f1.f2,VI y7163.f1.f3]) (cs':=[.slice A7172 y7163.f0.length c7173,VI y7163.f1.f0,VI y7163.f1.f1,VI y7163.f1.f2,VI y7163.f1.f3]) (L':=(Blk b7176 [.slice A7172 y7163.f0.length c7173,VI y7163.f1.f0,VI y7163.f1.f1,VI y7163.f1.f2,VI y7163.f1.f3] 42::Blk b11 [VI a0.f0,.slice A1 a0.f1.length c2] 45::Blk b6 [VI a0.f0,.slice A1 a0.f1.length c2] 45::Blk b7 [VI x3490] 3::Mk (o1588::[])::Ob o1587 (LoopO R1586 .ready none)::L)) rfl fsz42 rfl rfl rfl rfl rfl (Nat.le_of_ble_eq_true rfl) rfl rfl ?_)
    refine TL.nil ?_
    refine TQ.then_ ?_
    refine TC.seq ?_
    refine TC.region ?_
    refine TV rfl rfl rfl (Val.fieldAddrB Try.underlying42 rfl fsz38 rfl rfl rfl) ?_
    refine TV rfl rfl rfl (Val.loadB 0 agg38 rfl rfl rfl) ?_
    refine TV rfl rfl rfl (Val.len Try.underlying38 rfl) ?_
    refine TV rfl rfl rfl (Val.move rfl) ?_
    refine TL.nil ?_
    refine TQ.then_ ?_
    obtain ⟨o8178,ho8178,ko8178⟩:=bind_no h
    clear h
    refine TC.tail (fun a W=>∃ (x8177:Int),x8177=o8178∧Fr 27 a [(0,.func (.yield o1587) #[] #[]),(8,.slice A1 a0.f1.length c2),(9,VI (a0.f1.length:Int)),(10,VI x3489)]∧Own G (Blk b11 [VI a0.f0,.slice A1 a0.f1.length c2] 45::Blk b6 [VI a0.f0,.slice A1 a0.f1.length c2] 45::Blk b7 [VI x8177] 3::Mk (o1588::[])::Ob o1587 (LoopO R1586 .ready none)::L) W) ?_ ?_
    ·
     rintro a W ⟨x8177,rfl,hF,hO⟩
     have h:=ko8178
     clear ko8178 ho8178
     refine TQ.use ?_ hF hO
     clear hF hO
     refine TQ.inB ?_
     refine TQ.then_ ?_
     refine TC.region ?_
     refine TV rfl rfl rfl (Val.cmp rfl rfl run_add) ?_
     refine TV rfl rfl rfl (Val.move rfl) ?_
     refine TL.nil ?_
     exact fun a W hF hO=>⟨IntKind.i64.wrap (x3489 + 1),x8177,h,hF.sub ⟨rfl,rfl,rfl,rfl,trivial⟩,hO.selT (Ls:=[Blk b11 [VI a0.f0,.slice A1 a0.f1.length c2] 45,Blk b6 [VI a0.f0,.slice A1 a0.f1.length c2] 45,Blk b7 [VI x8177] 3,Mk (o1588::[]),Ob o1587 (LoopO R1586 .ready none)]) [0,1,2,3,4] 5 rfl rfl rfl⟩
    ·
     refine TC.block ?_
     intro a W hF hO
     have hS:∃ (x7843:Int) (x7844:Int),code_Regs.l3 y7163 (y7163.f0.length + 1) x7843 x7844=some o8178∧Fr 27 a [(0,.func (.yield o1587) #[] #[]),(8,.slice A1 a0.f1.length c2),(9,VI (a0.f1.length:Int)),(10,VI x3489),(15,.slice A7172 y7163.f0.length c7173),(16,VI (y7163.f0.length:Int)),(17,VI x7843)]∧Own G (Blk b11 [VI a0.f0,.slice A1 a0.f1.length c2] 45::Blk b6 [VI a0.f0,.slice A1 a0.f1.length c2] 45::Blk b7 [VI x7844] 3::Mk (o1588::[])::Ob o1587 (LoopO R1586 .ready none)::L) W:=by
      exact ⟨0,x3490,ho8178,hF.sub ⟨rfl,rfl,rfl,rfl,rfl,rfl,rfl,trivial⟩,hO.selT (Ls:=[Blk b11 [VI a0.f0,.slice A1 a0.f1.length c2] 45,Blk b6 [VI a0.f0,.slice A1 a0.f1.length c2] 45,Blk b7 [VI x3490] 3,Mk (o1588::[]),Ob o1587 (LoopO R1586 .ready none)]) [1,2,3,4,5] 6 rfl rfl rfl⟩
     clear hF hO ho8178 ko8178
     refine TC.loop (fun n8179 a W=>∃ (x7843:Int) (x7844:Int),code_Regs.l3 y7163 n8179 x7843 x7844=some o8178∧Fr 27 a [(0,.func (.yield o1587) #[] #[]),(8,.slice A1 a0.f1.length c2),(9,VI (a0.f1.length:Int)),(10,VI x3489),(15,.slice A7172 y7163.f0.length c7173),(16,VI (y7163.f0.length:Int)),(17,VI x7843)]∧Own G (Blk b11 [VI a0.f0,.slice A1 a0.f1.length c2] 45::Blk b6 [VI a0.f0,.slice A1 a0.f1.length c2] 45::Blk b7 [VI x7844] 3::Mk (o1588::[])::Ob o1587 (LoopO R1586 .ready none)::L) W) ?_ ?_ hS
     ·
      rintro a W ⟨x7843,x7844,h,hF,hO⟩
      exact none_no h
     ·
      clear hS
      rintro n8179 a W ⟨x7843,x7844,h,hF,hO⟩
      rw [code_Regs.l3] at h
      refine TC.use ?_ hF hO
      clear hF hO
      refine TC.seq ?_
      refine TC.region ?_
      refine TV rfl rfl rfl (Val.cmp rfl rfl run_lss) ?_
      refine TL.nil ?_
      refine TQ.then_ ?_
      refine TC.seq ?_
      refine TC.cond_p rfl h (fun hc8513 h=>?_) (fun hc8513 h=>?_)
      ·
       refine TC.skip ?_
       refine TQ.then_ ?_
       refine TC.seq ?_
       refine TC.block ?_
       refine TC.seq ?_
       refine TC.region ?_
       obtain ⟨y8703,hx8704,h⟩:=bind_no h
       obtain ⟨ad8705,cs8711,hA8706,hi8707,hj8708,hcl8709,hK8710⟩:=Rd.at hr7174 hx8704
       obtain ⟨A8712,c8713,rfl,hr8714,hl8715⟩:=k37_openR hK8710
       refine TV rfl rfl rfl (Val.indexAddr Try.underlying38 fsz37 rfl hA8706 rfl hi8707 hj8708) ?_
       refine TV rfl rfl rfl (Val.loadsS (cs:=[VI y8703.f0,VI y8703.f1,VI y8703.f2,VI y8703.f3,VI y8703.f4,.slice A8712 y8703.f5.length c8713]) agg37 fsz37 rfl rfl (Cl.sub (off:=0) (n:=6) hcl8709 rfl)) ?_
       refine TL.cons (TL.alloc (cs:=[VI 0,VI 0,VI 0,VI 0,VI 0,.slice none 0 0]) rfl rfl zr37 rfl (fun b8716=>?_))
       refine TL.cons (TL.store 0 (ds:=[VI y8703.f0,VI y8703.f1,VI y8703.f2,VI y8703.f3,VI y8703.f4,.slice A8712 y8703.f5.length c8713]) (cs':=[VI y8703.f0,VI y8703.f1,VI y8703.f2,VI y8703.f3,VI y8703.f4,.slice A8712 y8703.f5.length c8713]) (L':=(Blk b8716 [VI y8703.f0,VI y8703.f1,VI y8703.f2,VI y8703.f3,VI y8703.f4,.slice A8712 y8703.f5.length c8713] 37::Blk b11 [VI a0.f0,.slice A1 a0.f1.length c2] 45::Blk b6 [VI a0.f0,.slice A1 a0.f1.length c2] 45::Blk b7 [VI x7844] 3::Mk (o1588::[])::Ob o1587 (LoopO R1586 .ready none)::L)) rfl fsz37 rfl rfl rfl rfl rfl (Nat.le_of_ble_eq_true rfl) rfl rfl ?_)
       refine TL.nil ?_
       refine TQ.then_ ?_
       refine TC.seq ?_
       refine TC.region ?_
       refine TV rfl rfl rfl (Val.move rfl) ?_
       refine TV rfl rfl rfl (Val.loadsB 0 (cs:=[VI y8703.f0,VI y8703.f1,VI y8703.f2,VI y8703.f3,VI y8703.f4,.slice A8712 y8703.f5.length c8713]) agg37 fsz37 rfl rfl rfl rfl) ?_
       refine TL.cons (TO.yield 5 rfl rfl rfl rfl hp1590 ha1591 hb1592 rfl hf1593 rfl rfl (fun a8717 hf8718=>?_))
       refine TC.region ?_
       refine TL.cons (TL.alloc (cs:=[VI 0,VI 0,VI 0,VI 0,VI 0,.slice none 0 0]) rfl rfl zr37 rfl (fun b8719=>?_))
       refine TL.cons (TL.store 0 (ds:=[VI y8703.f0,VI y8703.f1,VI y8703.f2,VI y8703.f3,VI y8703.f4,.slice A8712 y8703.f5.length c8713]) (cs':=[VI y8703.f0,VI y8703.f1,VI y8703.f2,VI y8703.f3,VI y8703.f4,.slice A8712 y8703.f5.length c8713]) (L':=(Blk b8719 [VI y8703.f0,VI y8703.f1,VI y8703.f2,VI y8703.f3,VI y8703.f4,.slice A8712 y8703.f5.length c8713] 37::Blk b8716 [VI y8703.f0,VI y8703.f1,VI y8703.f2,VI y8703.f3,VI y8703.f4,.slice A8712 y8703.f5.length c8713] 37::Blk b11 [VI a0.f0,.slice A1 a0.f1.length c2] 45::Blk b6 [VI a0.f0,.slice A1 a0.f1.length c2] 45::Blk b7 [VI x7844] 3::Mk (o1588::[])::Ob o1587 (LoopO R1586 .ready none)::L)) rfl fsz37 rfl rfl rfl rfl rfl (Nat.le_of_ble_eq_true rfl) rfl rfl ?_)
       refine TL.nil ?_
       refine TQ.begin (L':=(Blk b8719 [VI y8703.f0,VI y8703.f1,VI y8703.f2,VI y8703.f3,VI y8703.f4,.slice A8712 y8703.f5.length c8713] 37::Blk b8716 [VI y8703.f0,VI y8703.f1,VI y8703.f2,VI y8703.f3,VI y8703.f4,.slice A8712 y8703.f5.length c8713] 37::Blk b11 [VI a0.f0,.slice A1 a0.f1.length c2] 45::Blk b6 [VI a0.f0,.slice A1 a0.f1.length c2] 45::Blk b7 [VI x7844] 3::Mk (o1588::[])::Ob o1587 (LoopO R1586 .busy none)::L)) 6 rfl rfl ?_
       refine TC.block ?_
       refine TC.seq ?_
       refine TC.regionAny [4] [0,1,3] mixed (by kernel_rfl) ?_
       refine TA.take 0 rfl (by kernel_rfl) rfl (PQ.then_ (PQ.inB PQ.round)) rfl (Val.loadB 4 agg3 rfl rfl rfl) (fun W hO=>hO) ?_
       refine TA.take 1 rfl (by kernel_rfl) rfl (PQ.then_ (PQ.inB PQ.round)) rfl (Val.loadsB 0 (cs:=[VI y8703.f0,VI y8703.f1,VI y8703.f2,VI y8703.f3,VI y8703.f4,.slice A8712 y8703.f5.length c8713]) agg37 fsz37 rfl rfl rfl rfl) (fun W hO=>hO) ?_
       obtain ⟨y8832,hy8833,h⟩:=bind_no h
       refine TA.eff 2 rfl (by kernel_rfl) rfl (TL.callV (Lin:=[]) (args:=[.agg #[VI y8703.f0,VI y8703.f1,VI y8703.f2,VI y8703.f3,VI y8703.f4,.slice A8712 y8703.f5.length c8713]]) rfl rfl rfl hbd78 rfl rfl (code_Sets.calls (a0:=y8703) hr8714 hl8715 hy8833) rfl ?_)
       rintro _ _ _ _ ⟨rfl,rfl,rfl⟩
       refine TA.next (fun W hO=>hO) ?_
       refine TA.take 3 rfl (by kernel_rfl) rfl (PQ.then_ (PQ.inB PQ.round)) rfl (Val.max2 rfl rfl) (fun W hO=>hO) ?_
       refine TA.eff 4 rfl (by kernel_rfl) rfl (TL.store 4 (ds:=[VI (if x7844 < y8832 then y8832 else x7844)]) (cs':=[VI (if x7844 < y8832 then y8832 else x7844)]) (L':=(Blk b8719 [VI y8703.f0,VI y8703.f1,VI y8703.f2,VI y8703.f3,VI y8703.f4,.slice A8712 y8703.f5.length c8713] 37::Blk b8716 [VI y8703.f0,VI y8703.f1,VI y8703.f2,VI y8703.f3,VI y8703.f4,.slice A8712 y8703.f5.length c8713] 37::Blk b11 [VI a0.f0,.slice A1 a0.f1.length c2] 45::Blk b6 [VI a0.f0,.slice A1 a0.f1.length c2] 45::Blk b7 [VI (if x7844 < y8832 then y8832 else x7844)] 3::Mk (o1588::[])::Ob o1587 (LoopO R1586 .busy none)::L)) rfl fsz3 rfl rfl rfl rfl rfl (Nat.le_of_ble_eq_true rfl) rfl rfl ?_)
       refine TA.last rfl ?_
       refine TA.done (by kernel_rfl) ?_
       refine TQ.then_ ?_
       refine TC.seq ?_
       refine TC.region ?_
       refine TV rfl rfl rfl (Val.loadsB 0 (cs:=[VI y8703.f0,VI y8703.f1,VI y8703.f2,VI y8703.f3,VI y8703.f4,.slice A8712 y8703.f5.length c8713]) agg37 fsz37 rfl rfl rfl rfl) ?_
       obtain ⟨y8834,hy8835,h⟩:=bind_no h
       refine TL.cons (TL.callV (Lin:=[]) (args:=[.agg #[VI y8703.f0,VI y8703.f1,VI y8703.f2,VI y8703.f3,VI y8703.f4,.slice A8712 y8703.f5.length c8713]]) rfl rfl rfl hbd79 rfl rfl (code_Uses.calls (a0:=y8703) hr8714 hl8715 hy8835) rfl ?_)
       rintro _ _ _ _ ⟨rfl,A8836,c8837,rfl,rfl⟩
       refine TV rfl rfl rfl (Val.len Try.underlying23 rfl) ?_
       refine TV rfl rfl rfl (Val.move rfl) ?_
       refine TL.nil ?_
       refine TQ.then_ ?_
       obtain ⟨o8940,ho8940,ko8940⟩:=bind_no h
       clear h
       refine TC.tail (fun a W=>∃ (x8939:Int),x8939=o8940∧Fr 53 a []∧Own G (Blk b11 [VI a0.f0,.slice A1 a0.f1.length c2] 45::Blk b6 [VI a0.f0,.slice A1 a0.f1.length c2] 45::Blk b7 [VI x8939] 3::Blk b8716 [VI y8703.f0,VI y8703.f1,VI y8703.f2,VI y8703.f3,VI y8703.f4,.slice A8712 y8703.f5.length c8713] 37::Mk (o1588::[])::Ob o1587 (LoopO R1586 .busy none)::L) W) ?_ ?_
       ·
        rintro a W ⟨x8939,rfl,hF,hO⟩
        have h:=ko8940
        clear ko8940 ho8940
        refine TQ.use ?_ hF hO
        clear hF hO
        refine TQ.inB ?_
        refine TQ.roundN (L':=(Blk b11 [VI a0.f0,.slice A1 a0.f1.length c2] 45::Blk b6 [VI a0.f0,.slice A1 a0.f1.length c2] 45::Blk b7 [VI x8939] 3::Blk b8716 [VI y8703.f0,VI y8703.f1,VI y8703.f2,VI y8703.f3,VI y8703.f4,.slice A8712 y8703.f5.length c8713] 37::Mk (o1588::[])::Ob o1587 (LoopO R1586 .ready none)::L)) 5 rfl rfl (After.mk hf8718 rfl ?_)
        refine TV rfl rfl rfl (Val.not_ rfl) ?_
        refine TL.nil ?_
        refine TQ.then_ ?_
        refine TC.condF rfl ?_
        refine TC.skip ?_
        refine TQ.inB ?_
        refine TQ.then_ ?_
        refine TC.region ?_
        refine TV rfl rfl rfl (Val.cmp rfl rfl run_add) ?_
        refine TV rfl rfl rfl (Val.move rfl) ?_
        refine TL.nil ?_
        exact fun a W hF hO=>⟨IntKind.i64.wrap (x7843 + 1),x8939,h,hF.sub ⟨rfl,rfl,rfl,rfl,rfl,rfl,rfl,trivial⟩,hO.selT (Ls:=[Blk b11 [VI a0.f0,.slice A1 a0.f1.length c2] 45,Blk b6 [VI a0.f0,.slice A1 a0.f1.length c2] 45,Blk b7 [VI x8939] 3,Mk (o1588::[]),Ob o1587 (LoopO R1586 .ready none)]) [0,1,2,4,5] 6 rfl rfl rfl⟩
       ·
        refine TC.block ?_
        intro a W hF hO
        have hS:∃ (x8905:Int) (x8906:Int),code_Regs.l4 y8834 (y8834.length + 1) x8905 x8906=some o8940∧Fr 53 a [(3,VP b7 0),(22,.slice A8836 y8834.length c8837),(23,VI (y8834.length:Int)),(24,VI x8905)]∧Own G (Blk b11 [VI a0.f0,.slice A1 a0.f1.length c2] 45::Blk b6 [VI a0.f0,.slice A1 a0.f1.length c2] 45::Blk b7 [VI x8906] 3::Blk b8716 [VI y8703.f0,VI y8703.f1,VI y8703.f2,VI y8703.f3,VI y8703.f4,.slice A8712 y8703.f5.length c8713] 37::Mk (o1588::[])::Ob o1587 (LoopO R1586 .busy none)::Row kI 3 (.slice A8836 y8834.length c8837) y8834::L) W:=by
         exact ⟨0,(if x7844 < y8832 then y8832 else x7844),ho8940,hF.sub ⟨rfl,rfl,rfl,rfl,trivial⟩,hO.selT (Ls:=[Blk b11 [VI a0.f0,.slice A1 a0.f1.length c2] 45,Blk b6 [VI a0.f0,.slice A1 a0.f1.length c2] 45,Blk b7 [VI (if x7844 < y8832 then y8832 else x7844)] 3,Blk b8716 [VI y8703.f0,VI y8703.f1,VI y8703.f2,VI y8703.f3,VI y8703.f4,.slice A8712 y8703.f5.length c8713] 37,Mk (o1588::[]),Ob o1587 (LoopO R1586 .busy none),Row kI 3 (.slice A8836 y8834.length c8837) y8834]) [3,4,5,2,6,7,0] 8 rfl rfl rfl⟩
        clear hF hO ho8940 ko8940
        refine TC.loop (fun n8941 a W=>∃ (x8905:Int) (x8906:Int),code_Regs.l4 y8834 n8941 x8905 x8906=some o8940∧Fr 53 a [(3,VP b7 0),(22,.slice A8836 y8834.length c8837),(23,VI (y8834.length:Int)),(24,VI x8905)]∧Own G (Blk b11 [VI a0.f0,.slice A1 a0.f1.length c2] 45::Blk b6 [VI a0.f0,.slice A1 a0.f1.length c2] 45::Blk b7 [VI x8906] 3::Blk b8716 [VI y8703.f0,VI y8703.f1,VI y8703.f2,VI y8703.f3,VI y8703.f4,.slice A8712 y8703.f5.length c8713] 37::Mk (o1588::[])::Ob o1587 (LoopO R1586 .busy none)::Row kI 3 (.slice A8836 y8834.length c8837) y8834::L) W) ?_ ?_ hS
        ·
         rintro a W ⟨x8905,x8906,h,hF,hO⟩
         exact none_no h
        ·
         clear hS
         rintro n8941 a W ⟨x8905,x8906,h,hF,hO⟩
         rw [code_Regs.l4] at h
         refine TC.use ?_ hF hO
         clear hF hO
         refine TC.seq ?_
         refine TC.region ?_
         refine TV rfl rfl rfl (Val.cmp rfl rfl run_lss) ?_
         refine TL.nil ?_
         refine TQ.then_ ?_
         refine TC.seq ?_
         refine TC.cond_p rfl h (fun hc8975 h=>?_) (fun hc8975 h=>?_)
         ·
          refine TC.skip ?_
          refine TQ.then_ ?_
          refine TC.seq ?_
          refine TC.block ?_
          refine TC.seq ?_
          refine TC.region ?_
          refine TK.sel (Ls:=[Row kI 3 (.slice A8836 y8834.length c8837) y8834,Blk b11 [VI a0.f0,.slice A1 a0.f1.length c2] 45,Blk b6 [VI a0.f0,.slice A1 a0.f1.length c2] 45,Blk b7 [VI x8906] 3,Blk b8716 [VI y8703.f0,VI y8703.f1,VI y8703.f2,VI y8703.f3,VI y8703.f4,.slice A8712 y8703.f5.length c8713] 37,Mk (o1588::[]),Ob o1587 (LoopO R1586 .busy none)]) [6,0,1,2,3,4,5] 7 rfl rfl rfl ?_
          refine TK.share (fun G8991 e8992 hs8993 hb8994=>?_)
          have rd8995:Rd G8991 kI A8836 y8834:=Rd.row hs8993
          have le8996:y8834.length ≤ c8837:=Row.le hs8993
          obtain ⟨y8997,hx8998,h⟩:=bind_no h
          obtain ⟨ad8999,cs9005,hA9000,hi9001,hj9002,hcl9003,hK9004⟩:=Rd.at rd8995 hx8998
          obtain rfl:=RdK.int hK9004
          refine TV rfl rfl rfl (Val.indexAddr Try.underlying23 fsz3 rfl hA9000 rfl hi9001 hj9002) ?_
          refine TV rfl rfl rfl (Val.loadS agg3 rfl (hcl9003 0 _ rfl)) ?_
          refine TV rfl rfl rfl (Val.assign rfl) ?_
          refine TL.nil ?_
          refine TQ.then_ ?_
          refine TC.region ?_
          refine TV rfl rfl rfl (Val.loadB 2 agg3 rfl rfl rfl) ?_
          refine TV rfl rfl rfl (Val.move rfl) ?_
          refine TV rfl rfl rfl (Val.max2 rfl rfl) ?_
          refine TL.cons (TL.store 2 (ds:=[VI (if x8906 < y8997 then y8997 else x8906)]) (cs':=[VI (if x8906 < y8997 then y8997 else x8906)]) (L':=(Blk b11 [VI a0.f0,.slice A1 a0.f1.length c2] 45::Blk b6 [VI a0.f0,.slice A1 a0.f1.length c2] 45::Blk b7 [VI (if x8906 < y8997 then y8997 else x8906)] 3::Blk b8716 [VI y8703.f0,VI y8703.f1,VI y8703.f2,VI y8703.f3,VI y8703.f4,.slice A8712 y8703.f5.length c8713] 37::Mk (o1588::[])::Ob o1587 (LoopO R1586 .busy none)::L)) rfl fsz3 rfl rfl rfl rfl rfl (Nat.le_of_ble_eq_true rfl) rfl rfl ?_)
          refine TL.nil ?_
          refine TQ.inB ?_
          refine TQ.then_ ?_
          refine TC.region ?_
          refine TV rfl rfl rfl (Val.cmp rfl rfl run_add) ?_
          refine TV rfl rfl rfl (Val.move rfl) ?_
          refine TL.nil ?_
          refine TQ.back hb8994 ?_
          exact fun a W hF hO=>⟨IntKind.i64.wrap (x8905 + 1),(if x8906 < y8997 then y8997 else x8906),h,hF.sub ⟨rfl,rfl,rfl,rfl,trivial⟩,hO.selT (Ls:=[Blk b11 [VI a0.f0,.slice A1 a0.f1.length c2] 45,Blk b6 [VI a0.f0,.slice A1 a0.f1.length c2] 45,Blk b7 [VI (if x8906 < y8997 then y8997 else x8906)] 3,Blk b8716 [VI y8703.f0,VI y8703.f1,VI y8703.f2,VI y8703.f3,VI y8703.f4,.slice A8712 y8703.f5.length c8713] 37,Mk (o1588::[]),Ob o1587 (LoopO R1586 .busy none),Row kI 3 (.slice A8836 y8834.length c8837) y8834]) [1,2,3,4,5,6,0] 7 rfl rfl rfl⟩
         ·
          refine TC.exit ?_
          refine TQ.thenX ?_
          refine TQ.thenX ?_
          refine TQ.inBX ?_
          exact fun a W hF hO=>⟨x8906,Option.some.inj h,hF.sub trivial,hO.selT (Ls:=[Blk b11 [VI a0.f0,.slice A1 a0.f1.length c2] 45,Blk b6 [VI a0.f0,.slice A1 a0.f1.length c2] 45,Blk b7 [VI x8906] 3,Blk b8716 [VI y8703.f0,VI y8703.f1,VI y8703.f2,VI y8703.f3,VI y8703.f4,.slice A8712 y8703.f5.length c8713] 37,Mk (o1588::[]),Ob o1587 (LoopO R1586 .busy none)]) [0,1,2,3,4,5] 7 rfl rfl rfl⟩
      ·
       refine TC.exit ?_
       refine TQ.thenX ?_
       refine TQ.thenX ?_
       refine TQ.inBX ?_
       exact fun a W hF hO=>⟨x7844,Option.some.inj h,hF.sub ⟨rfl,rfl,rfl,rfl,trivial⟩,hO.selT (Ls:=[Blk b11 [VI a0.f0,.slice A1 a0.f1.length c2] 45,Blk b6 [VI a0.f0,.slice A1 a0.f1.length c2] 45,Blk b7 [VI x7844] 3,Mk (o1588::[]),Ob o1587 (LoopO R1586 .ready none)]) [0,1,2,3,4] 5 rfl rfl rfl⟩
   ·
    refine TC.exit ?_
    refine TQ.thenX ?_
    refine TQ.thenX ?_
    refine TQ.inBX ?_
    exact fun a W hF hO=>⟨x3490,Option.some.inj h,hF.sub trivial,hO.selT (Ls:=[Blk b11 [VI a0.f0,.slice A1 a0.f1.length c2] 45,Blk b6 [VI a0.f0,.slice A1 a0.f1.length c2] 45,Blk b7 [VI x3490] 3,Mk (o1588::[]),Ob o1587 (LoopO R1586 .ready none)]) [0,1,2,3,4] 5 rfl rfl rfl⟩
end Go.Proofs.Ytfmocegnpmomnaa.Sy
set_option linter.unusedVariables false
set_option linter.unusedSimpArgs false
namespace Go.Proofs.Ytfmocegnpmomnaa.Sy
open Go Go.RowKit Go.Proofs.YtfmocegnpmomnaaW.PrintWords Go.Proofs.Ytfmocegnpmomnaa.SyO
theorem loopd {α ρ : Type} {xs : List α} (hl : xs.length ≤ 140737488355328) {F : Nat → Int → ρ} {P : List α → ρ → Prop} (hend : ∀ n, P [] (F (n + 1) (xs.length : Int)))
    (hstep : ∀ n (i : Nat) y r, xs.drop i = y :: r → (i : Int) < (xs.length : Int) → at? xs (i : Int) = some y → y ∈ xs → IntKind.i64.wrap ((i : Int) + 1) = ((i + 1 : Nat) : Int) → P r (F n ((i + 1 : Nat) : Int)) → P (y :: r) (F (n + 1) (i : Int))) :
    ∀ n, xs.length < n → P xs (F n 0) := by
  have key : ∀ (ys : List α) (n i : Nat), xs.drop i = ys → ys.length < n → i ≤ xs.length → P ys (F n (i : Int)) := by
    intro ys
    induction ys with
    | nil =>
      intro n i hd hn hi
      have hlen := congrArg List.length hd
      rw [List.length_drop, List.length_nil] at hlen
      obtain rfl : i = xs.length := by omega
      obtain ⟨m, rfl⟩ : ∃ m, n = m + 1 := ⟨n - 1, by simp at hn; omega⟩
      exact hend m
    | cons y r ih =>
      intro n i hd hn hi
      obtain ⟨h1, h2, h3, h4⟩ := drop_cons hd
      obtain ⟨m, rfl⟩ : ∃ m, n = m + 1 := ⟨n - 1, by omega⟩
      exact hstep m i y r hd h1 h2 h4 (wsucc (by omega)) (ih m (i + 1) h3 (by simp at hn; omega) (by omega))
  intro n hn
  exact key xs n 0 (by simp) hn (by omega)
theorem at_nat {α : Type} {xs : List α} {i : Nat} {y : α} : at? xs (i : Int) = some y ↔ xs[i]? = some y := by
  unfold at?; rw [if_pos (by omega), Int.toNat_natCast]
theorem at_zip {α β : Type} {xs : List α} {zs : List β} {i : Nat} {p : α × β} (h : at? (xs.zip zs) (i : Int) = some p) : at? xs (i : Int) = some p.1 ∧ at? zs (i : Int) = some p.2 := by
  rw [at_nat] at h
  rw [at_nat, at_nat]
  obtain ⟨h1, h2⟩ := List.getElem?_eq_some_iff.1 h
  rw [List.length_zip] at h1
  rw [List.getElem_zip] at h2
  subst h2
  exact ⟨List.getElem?_eq_getElem _, List.getElem?_eq_getElem _⟩
theorem zip_all {α : Type} : ∀ {xs zs : List α}, xs.length = zs.length → ((∀ p ∈ xs.zip zs, p.1 = p.2) ↔ xs = zs)
  | [], [], _ => by simp
  | x :: xs, z :: zs, h => by
    have ih := zip_all (xs := xs) (zs := zs) (by simpa using h)
    simp only [List.zip_cons_cons, List.mem_cons, forall_eq_or_imp, List.cons.injEq]
    rw [← ih]
theorem known_b (a : Int) : word_Known.f a = some (decide (1 ≤ a ∧ a ≤ 14)) := by
  unfold word_Known.f
  by_cases h : 1 ≤ a <;> simp [h]
def Ra (o : S37) : Bool := o.f5.all fun a => decide (Rg a)
theorem cop_l0 {o : S37} (hl : o.f5.length ≤ 1000) : (code_RightOp.l0 o (fun x => some (!(decide (0 ≤ x)))) (o.f5.length + 1) 0).bind (fun | .inl q => some q | .inr _ => some true) = some (Ra o) := by
  have := loopd (xs := o.f5) (F := fun n i => code_RightOp.l0 o (fun x => some (!(decide (0 ≤ x)))) n i) (P := fun ys r => r.bind (fun | .inl q => some q | .inr _ => some true) = some (ys.all fun a => decide (Rg a))) (by omega) (fun n => ?_) (fun n i y r hd hlt hat hm hw ih => ?_) (o.f5.length + 1) (by omega)
  · exact this
  · simp [code_RightOp.l0]
  · show Option.bind (code_RightOp.l0 o (fun x => some (!(decide (0 ≤ x)))) (n + 1) i) _ = _
    rw [code_RightOp.l0, if_pos hlt, hat, Option.bind_some]
    unfold code_RightOp_1.f
    rw [reg_f, Option.bind_some, Option.bind_some]
    by_cases hy : Rg y
    · rw [decide_eq_true hy, if_neg (by simp), hw]
      simp only [List.all_cons, decide_eq_true hy, Bool.true_and]
      exact ih
    · rw [decide_eq_false hy, if_pos (by simp)]
      simp [hy]
def okOp (o : S37) (k : Int) : Bool :=
  decide (1 ≤ o.f0 ∧ o.f0 ≤ 9) && (if o.f0 = 5 ∨ o.f0 = 9 then decide (o.f1 = 0) else decide (Rg o.f1)) && (if o.f0 = 2 ∨ o.f0 = 3 ∨ o.f0 = 4 ∨ o.f0 = 5 ∨ o.f0 = 9 then decide (Rg o.f2) else decide (o.f2 = 0)) &&
  (if o.f0 = 2 ∨ o.f0 = 5 then decide (Rg o.f3) else decide (o.f3 = 0)) &&
  (if o.f0 = 1 then true else if o.f0 = 2 then decide (1 ≤ o.f4 ∧ o.f4 ≤ 14) else if o.f0 = 4 ∨ o.f0 = 5 then decide (-2147483648 ≤ o.f4 ∧ o.f4 ≤ 2147483647) else if o.f0 = 6 then decide (0 ≤ o.f4 ∧ o.f4 ≤ 1048576) else if o.f0 = 7 then decide (0 ≤ o.f4 ∧ o.f4 < k) else decide (o.f4 = 0)) &&
  (if o.f0 = 7 then decide (o.f5.length ≤ 8) && Ra o else decide (o.f5.length = 0))
theorem nine {n : Int} (h1 : 1 ≤ n) (h9 : n ≤ 9) : n = 1 ∨ n = 2 ∨ n = 3 ∨ n = 4 ∨ n = 5 ∨ n = 6 ∨ n = 7 ∨ n = 8 ∨ n = 9 := by omega
theorem cop_f {o : S37} {k : Int} (hl : o.f5.length ≤ 20) (hk0 : 0 ≤ k) (hk1 : k ≤ 1000) : code_RightOp.f o k = some (okOp o k) := by
  have hw : IntKind.i64.wrap (k - 1) = k - 1 := w64 (by omega) (by omega)
  have hl0 := cop_l0 (o := o) (by omega)
  unfold code_RightOp.f code_immediate.f
  simp only [jn, shape_f, field_f, within_f, known_b, Option.bind_some, hw]
  clear hw
  unfold okOp
  generalize o.f5.length = L at *
  by_cases hkk : 1 ≤ o.f0 ∧ o.f0 ≤ 9
  · rcases nine hkk.1 hkk.2 with h | h | h | h | h | h | h | h | h <;> simp only [h] <;> simp [hl0]
    all_goals (try split) <;> (try split) <;> (try split) <;> (try split) <;> (try split) <;> simp_all [hl0] <;> first | (intros; omega) | skip
    first | refine Eq.trans hl0 ?_ | skip
    have h1 : o.f4 < k := by omega
    have h2 : L ≤ 8 := by omega
    simp [h1, h2]
  · simp only [decide_eq_false hkk]
    have : ¬ o.f0 = 1 ∧ ¬ o.f0 = 2 ∧ ¬ o.f0 = 3 ∧ ¬ o.f0 = 4 ∧ ¬ o.f0 = 5 ∧ ¬ o.f0 = 6 ∧ ¬ o.f0 = 7 ∧ ¬ o.f0 = 8 ∧ ¬ o.f0 = 9 := by omega
    obtain ⟨a1, a2, a3, a4, a5, a6, a7, a8, a9⟩ := this
    simp [a1, a2, a3, a4, a5, a6, a7, a8, a9]
theorem beq_dec (a b : Int) : (a == b) = decide (a = b) := by by_cases h : a = b <;> simp [h]
def okTerm (t : S40) (n : Int) : Bool :=
  if t.f0 = 1 then decide (0 ≤ t.f2 ∧ t.f2 < n) && decide (t.f1 = 0) && decide (t.f3 = 0)
  else if t.f0 = 2 then decide (0 ≤ t.f2 ∧ t.f2 < n) && decide (0 ≤ t.f3 ∧ t.f3 < n) && decide (Rg t.f1)
  else if t.f0 = 3 then decide (Rg t.f1) && decide (t.f2 = 0) && decide (t.f3 = 0)
  else if t.f0 = 4 then decide (1 ≤ t.f2 ∧ t.f2 ≤ 15) && decide (t.f1 = 0) && decide (t.f3 = 0) else false
theorem cterm_f {t : S40} {n : Int} (h0 : 0 ≤ n) (h1 : n ≤ 5000) : code_rightTerm.f t n = some (okTerm t n) := by
  have hw : IntKind.i64.wrap (n - 1) = n - 1 := w64 (by omega) (by omega)
  have hn : ∀ a : Int, (0 ≤ a ∧ a ≤ n - 1) ↔ (0 ≤ a ∧ a < n) := fun a => by omega
  unfold code_rightTerm.f okTerm
  simp only [within_f, reg_f, Option.bind_some, hw, hn]
  by_cases a1 : t.f0 = 1
  · simp only [a1, if_true]; by_cases q1 : 0 ≤ t.f2 ∧ t.f2 < n <;> simp [q1, beq_dec]
  by_cases a2 : t.f0 = 2
  · simp only [a2]; by_cases q1 : 0 ≤ t.f2 ∧ t.f2 < n <;> by_cases q2 : 0 ≤ t.f3 ∧ t.f3 < n <;> simp [q1, q2]
  by_cases a3 : t.f0 = 3
  · simp only [a3]; by_cases q1 : Rg t.f1 <;> simp [q1, beq_dec]
  by_cases a4 : t.f0 = 4
  · simp only [a4]; by_cases q1 : 1 ≤ t.f2 ∧ t.f2 ≤ 15 <;> simp [q1, beq_dec]
  simp [a1, a2, a3, a4]
def okFn (t : S45) (k : Int) : Bool :=
  decide (1 ≤ t.f1.length ∧ t.f1.length ≤ 4096) && decide (0 ≤ t.f0 ∧ t.f0 ≤ 8) && (t.f1.all fun y => okTerm y.f1 t.f1.length) && (t.f1.all fun y => y.f0.all fun o => okOp o k)
theorem cright_l2 {t : S45} (hl : t.f1.length ≤ 4096) {j : Int → Option Bool} : (∀ x : Nat, j x = some false) → ((t.f1.all fun y => okTerm y.f1 t.f1.length) = true ∧ code_Right.l2 t j (t.f1.length + 1) 0 = some (.inr ())) ∨ ((t.f1.all fun y => okTerm y.f1 t.f1.length) = false ∧ code_Right.l2 t j (t.f1.length + 1) 0 = some (.inl false)) := fun hj => by
  refine loopd (xs := t.f1) (F := fun n i => code_Right.l2 t j n i) (P := fun ys r => ((ys.all fun y => okTerm y.f1 t.f1.length) = true ∧ r = some (.inr ())) ∨ ((ys.all fun y => okTerm y.f1 t.f1.length) = false ∧ r = some (.inl false))) (by omega) (fun n => ?_) (fun n i y r hd hlt hat hm hw ih => ?_) (t.f1.length + 1) (by omega)
  · left; simp [code_Right.l2]
  · rw [code_Right.l2, if_pos hlt, hat, Option.bind_some, cterm_f (by omega) (by omega), Option.bind_some]
    cases hy : okTerm y.f1 t.f1.length with
    | true => rw [if_neg (by simp), hw]; simpa [hy] using ih
    | false => rw [if_pos (by simp), hj i]; right; simp [hy]
theorem cright_l1 {y : S42} {k : Int} (hk0 : 0 ≤ k) (hk1 : k ≤ 1000) (hl : y.f0.length ≤ 250) (ho : ∀ o ∈ y.f0, o.f5.length ≤ 20) {z : Nat} (hz : z ≤ 10000) : ((y.f0.all fun o => okOp o k) = true ∧ code_Right.l1 k y (y.f0.length + 1) 0 (z : Int) = some (.inr ((z + y.f0.length : Nat) : Int))) ∨ ((y.f0.all fun o => okOp o k) = false ∧ code_Right.l1 k y (y.f0.length + 1) 0 (z : Int) = some (.inl (.inl false))) := by
  have := loopd (xs := y.f0) (F := fun n i w => code_Right.l1 k y n i w) (P := fun os f => ∀ w : Nat, w + os.length ≤ 11000 → ((os.all fun o => okOp o k) = true ∧ f (w : Int) = some (.inr ((w + os.length : Nat) : Int))) ∨ ((os.all fun o => okOp o k) = false ∧ f (w : Int) = some (.inl (.inl false)))) (by omega) (fun n w hw => ?_) (fun n i o r hd hlt hat hm hw ih w hwl => ?_) (y.f0.length + 1) (by omega)
  · exact this z (by omega)
  · left; simp [code_Right.l1]
  · simp only [List.length_cons] at hwl
    show (_ ∧ code_Right.l1 k y (n + 1) i w = _) ∨ (_ ∧ code_Right.l1 k y (n + 1) i w = _)
    rw [code_Right.l1, if_pos hlt, hat, Option.bind_some]
    simp only [jn, wsucc (show w ≤ 140737488355328 by omega)]
    rw [if_neg (by omega), cop_f (ho o hm) hk0 hk1, Option.bind_some]
    cases hy : okOp o k with
    | true =>
      rw [if_neg (by simp), hw]
      have := ih (w + 1) (by omega)
      rw [show w + 1 + r.length = w + (o :: r).length by simp; omega] at this
      simpa [hy] using this
    | false => rw [if_pos (by simp)]; right; simp [hy]
theorem cright_l0 {t : S45} {k : Int} (hk0 : 0 ≤ k) (hk1 : k ≤ 1000) (hf : Fewp t) : ((t.f1.all fun y => y.f0.all fun o => okOp o k) = true ∧ ∃ x, code_Right.l0 t k (t.f1.length + 1) 0 0 = some (.inr x)) ∨ ((t.f1.all fun y => y.f0.all fun o => okOp o k) = false ∧ code_Right.l0 t k (t.f1.length + 1) 0 0 = some (.inl false)) := by
  obtain ⟨f1, f2, f3⟩ := hf
  have := loopd (xs := t.f1) (F := fun n i w => code_Right.l0 t k n i w) (P := fun os f => ∀ w : Nat, w + 250 * os.length ≤ 10000 → ((os.all fun y => y.f0.all fun o => okOp o k) = true ∧ ∃ x, f (w : Int) = some (.inr x)) ∨ ((os.all fun y => y.f0.all fun o => okOp o k) = false ∧ f (w : Int) = some (.inl false))) (by omega) (fun n w hw => ?_) (fun n i y r hd hlt hat hm hw ih w hwl => ?_) (t.f1.length + 1) (by omega)
  · exact this 0 (by omega)
  · left; simp [code_Right.l0]
  · simp only [List.length_cons] at hwl
    show (_ ∧ ∃ x, code_Right.l0 t k (n + 1) i w = _) ∨ (_ ∧ code_Right.l0 t k (n + 1) i w = _)
    rw [code_Right.l0, if_pos hlt, hat, Option.bind_some]
    rcases cright_l1 hk0 hk1 (f3 y hm).1 (f3 y hm).2 (z := w) (by omega) with ⟨h1, h2⟩ | ⟨h1, h2⟩
    · rw [h2, Option.bind_some]
      simp only [hw]
      have := ih (w + y.f0.length) (by have := (f3 y hm).1; omega)
      simpa [h1] using this
    · rw [h2, Option.bind_some]; right; simp [h1]
theorem cright_f {t : S45} {k : Int} (hk0 : 0 ≤ k) (hk1 : k ≤ 1000) (hf : Fewp t) : code_Right.f t k = some (okFn t k) := by
  have hf' := hf
  obtain ⟨f1, f2, f3⟩ := hf'
  unfold code_Right.f okFn
  simp only [jn, within_f, Option.bind_some]
  have e1 : ((1 : Int) ≤ (t.f1.length : Int) ∧ (t.f1.length : Int) ≤ 4096) ↔ (1 ≤ t.f1.length ∧ t.f1.length ≤ 4096) := by omega
  simp only [e1]
  by_cases h1 : 1 ≤ t.f1.length ∧ t.f1.length ≤ 4096
  · by_cases h2 : 0 ≤ t.f0 ∧ t.f0 ≤ 8
    · simp only [decide_eq_true h1, decide_eq_true h2, Bool.not_true, Bool.false_eq_true, if_false, Bool.true_and]
      have key : ∀ (j : Int → Option Bool) (hj : ∀ x : Nat, j x = some false) (X : Bool) (hX : j (-1) = some X), Option.bind (code_Right.l2 t j (t.f1.length + 1) 0) (fun r => match r with | .inl q => some q | .inr _ => j (-1)) = some ((t.f1.all fun y => okTerm y.f1 t.f1.length) && X) := by
        intro j hj X hX
        rcases cright_l2 (t := t) (by omega) hj with ⟨h3, h4⟩ | ⟨h3, h4⟩
        · rw [h4, h3]; simp [hX]
        · rw [h4, h3]; simp
      refine key _ (fun x => by simp) (t.f1.all fun y => y.f0.all fun o => okOp o k) ?_
      rw [if_neg (by omega)]
      rcases cright_l0 hk0 hk1 hf with ⟨h5, x, h6⟩ | ⟨h5, h6⟩ <;> rw [h6, h5] <;> rfl
    · simp [h1, h2]
  · simp [h1]
def okCall (l : List S45) (o : S37) : Bool := if o.f0 = 7 then (match at? l o.f4 with | some g => decide ((o.f5.length : Int) = g.f0) | none => false) else true
theorem call_at {l : List S45} {o : S37} (h : okOp o l.length = true) (h7 : o.f0 = 7) : ∃ g, at? l o.f4 = some g := by
  unfold okOp at h
  simp only [h7] at h
  simp at h
  obtain ⟨⟨_, h1⟩, _⟩ := h
  have h0 : o.f4.toNat < l.length := by omega
  exact ⟨l[o.f4.toNat], by unfold at?; rw [if_pos (by omega), List.getElem?_eq_getElem h0]⟩
theorem cprog_l2 {l : List S45} {y : S42} (hl : y.f0.length ≤ 250) (ho : ∀ o ∈ y.f0, okOp o l.length = true) : code_Program.l2 l y (y.f0.length + 1) 0 = some (if (y.f0.all fun o => okCall l o) then .inr () else .inl (.inl (.inl false))) := by
  refine loopd (xs := y.f0) (F := fun n i => code_Program.l2 l y n i) (P := fun os r => r = some (if (os.all fun o => okCall l o) then .inr () else .inl (.inl (.inl false)))) (by omega) (fun n => by simp [code_Program.l2]) (fun n i o r hd hlt hat hm hw ih => ?_) (y.f0.length + 1) (by omega)
  rw [code_Program.l2, if_pos hlt]
  simp only [hat, Option.bind_some, jn, hw]
  by_cases h7 : o.f0 = 7
  · obtain ⟨g, hg⟩ := call_at (ho o hm) h7
    rw [if_pos h7, hg, Option.bind_some, ih]
    by_cases hc : (o.f5.length : Int) = g.f0 <;> simp [okCall, h7, hg, hc]
  · rw [if_neg h7, if_neg (by simp), ih]
    simp [okCall, h7]
theorem cprog_l1 {l : List S45} {t : S45} (hf : Fewp t) (hr : okFn t l.length = true) : code_Program.l1 l t (t.f1.length + 1) 0 = some (if (t.f1.all fun y => y.f0.all fun o => okCall l o) then .inr () else .inl (.inl false)) := by
  obtain ⟨f1, f2, f3⟩ := hf
  unfold okFn at hr
  obtain ⟨_, hr⟩ := (Bool.and_eq_true _ _).mp hr
  have hr' : ∀ y ∈ t.f1, ∀ o ∈ y.f0, okOp o l.length = true := fun y hy o ho => List.all_eq_true.1 (List.all_eq_true.1 hr y hy) o ho
  refine loopd (xs := t.f1) (F := fun n i => code_Program.l1 l t n i) (P := fun os r => r = some (if (os.all fun y => y.f0.all fun o => okCall l o) then .inr () else .inl (.inl false))) (by omega) (fun n => by simp [code_Program.l1]) (fun n i y r hd hlt hat hm hw ih => ?_) (t.f1.length + 1) (by omega)
  rw [code_Program.l1, if_pos hlt]
  simp only [hat, Option.bind_some, cprog_l2 (f3 y hm).1 (hr' y hm), hw]
  cases hc : (y.f0.all fun o => okCall l o) with
  | true => simp only [if_true, Option.bind_some, List.all_cons, hc, Bool.true_and]; exact ih
  | false => simp only [Bool.false_eq_true, if_false, Option.bind_some, List.all_cons, hc, Bool.false_and]
end Go.Proofs.Ytfmocegnpmomnaa.Sy
set_option linter.unusedVariables false
set_option linter.unusedSimpArgs false
set_option maxRecDepth 100000
set_option maxHeartbeats 4000000
namespace Go.Proofs.Ytfmocegnpmomnaa.Sy
open Go Go.RowKit Go.Proofs.YtfmocegnpmomnaaW.PrintWords 
def word_divided.f (a0:Int) (a1:Int) (a2:Int):Option Int:=(if a0=4 then (if ¬ (a2:Int)=0 then some (IntKind.i64.wrap (a1.tdiv a2)) else none) else (if ¬ (a2:Int)=0 then some (a1.tmod a2) else none))
def word_divided.post (G:Gd)  (r:Int) (v:Value) (G':Gd) (Lr:List Ch):Prop:=G=G'∧v=VI r∧Lr=[]
theorem word_divided.calls {G:Gd} {r:Int} {a0:Int} {a1:Int} {a2:Int} (h:word_divided.f a0 a1 a2=some r):Fn Try.prog 36 G [] [VI a0,VI a1,VI a2] (word_divided.post G  r):=by
 refine Fn.intro (e:=[(0,VI a0),(1,VI a1),(2,VI a2)]) 15 Try.func36 rfl Try.ntmps36 rfl rfl (Nat.le_of_ble_eq_true rfl) (fun L=>?_)
 unfold word_divided.f at h
 refine TC.seq ?_
 refine TC.region ?_
 refine TV rfl rfl rfl (Val.assign rfl) ?_
 refine TL.nil ?_
 refine TQ.then_ ?_
 refine TC.seq ?_
 refine TC.seq ?_
 refine TC.region ?_
 refine TV rfl rfl rfl (Val.move rfl) ?_
 refine TV rfl rfl rfl (Val.cmp rfl rfl run_eql) ?_
 refine TL.nil ?_
 refine TQ.then_ ?_
 refine TC.cond_p rfl h (fun hc3 h=>?_) (fun hc3 h=>?_)
 ·
  refine TC.seq ?_
  refine TC.region ?_
  refine TV rfl rfl rfl (Val.move rfl) ?_
  refine TV rfl rfl rfl (Val.move rfl) ?_
  obtain ⟨hz4,h⟩:=ite_no h
  refine TV rfl rfl rfl (Val.cmp rfl rfl (run_quo hz4)) ?_
  refine TV rfl rfl rfl (Val.assign rfl) ?_
  refine TL.nil ?_
  refine TQ.then_ ?_
  refine TC.ret ?_
  refine TQ.thenR ?_
  obtain rfl:=Option.some.inj h
  exact TQ.fin (.inl rfl) rfl Try.results36 (.tmp rfl .nil) rfl (FRel.mk (Ls:=[]) [] 0 (Gd.le.refl _) rfl rfl rfl ⟨rfl,rfl,rfl⟩)
 ·
  refine TC.skip ?_
  refine TQ.then_ ?_
  refine TC.seq ?_
  refine TC.region ?_
  refine TV rfl rfl rfl (Val.move rfl) ?_
  refine TV rfl rfl rfl (Val.move rfl) ?_
  obtain ⟨hz5,h⟩:=ite_no h
  refine TV rfl rfl rfl (Val.cmp rfl rfl (run_rem hz5)) ?_
  refine TV rfl rfl rfl (Val.assign rfl) ?_
  refine TL.nil ?_
  refine TQ.then_ ?_
  refine TC.ret ?_
  obtain rfl:=Option.some.inj h
  exact TQ.fin (.inl rfl) rfl Try.results36 (.tmp rfl .nil) rfl (FRel.mk (Ls:=[]) [] 0 (Gd.le.refl _) rfl rfl rfl ⟨rfl,rfl,rfl⟩)
def word_moved.f (a0:Int) (a1:Int) (a2:Int):Option Int:=(if a0=9 then (if ¬ (IntKind.u64.wrap (if 64 < a2 then 64 else a2):Int) < 0 then some (IntKind.i64.wrap (a1 * (2 ^ (min (IntKind.u64.wrap (if 64 < a2 then 64 else a2)).toNat IntKind.i64.bits)))) else none) else (if ¬ (IntKind.u64.wrap (if 64 < a2 then 64 else a2):Int) < 0 then some (a1.fdiv (2 ^ (min (IntKind.u64.wrap (if 64 < a2 then 64 else a2)).toNat IntKind.i64.bits))) else none))
def word_moved.post (G:Gd)  (r:Int) (v:Value) (G':Gd) (Lr:List Ch):Prop:=G=G'∧v=VI r∧Lr=[]
theorem word_moved.calls {G:Gd} {r:Int} {a0:Int} {a1:Int} {a2:Int} (h:word_moved.f a0 a1 a2=some r):Fn Try.prog 37 G [] [VI a0,VI a1,VI a2] (word_moved.post G  r):=by
 refine Fn.intro (e:=[(0,VI a0),(1,VI a1),(2,VI a2)]) 19 Try.func37 rfl Try.ntmps37 rfl rfl (Nat.le_of_ble_eq_true rfl) (fun L=>?_)
 unfold word_moved.f at h
 refine TC.seq ?_
 refine TC.region ?_
 refine TV rfl rfl rfl (Val.assign rfl) ?_
 refine TL.nil ?_
 refine TQ.then_ ?_
 refine TC.seq ?_
 refine TC.region ?_
 refine TV rfl rfl rfl (Val.move rfl) ?_
 refine TV rfl rfl rfl (Val.min2 rfl rfl) ?_
 refine TV rfl rfl rfl (Val.convI Try.underlying3 Try.underlying100 rfl) ?_
 refine TV rfl rfl rfl (Val.assign rfl) ?_
 refine TL.nil ?_
 refine TQ.then_ ?_
 refine TC.seq ?_
 refine TC.seq ?_
 refine TC.region ?_
 refine TV rfl rfl rfl (Val.move rfl) ?_
 refine TV rfl rfl rfl (Val.cmp rfl rfl run_eql) ?_
 refine TL.nil ?_
 refine TQ.then_ ?_
 refine TC.cond_p rfl h (fun hc3 h=>?_) (fun hc3 h=>?_)
 ·
  refine TC.seq ?_
  refine TC.region ?_
  refine TV rfl rfl rfl (Val.move rfl) ?_
  refine TV rfl rfl rfl (Val.move rfl) ?_
  obtain ⟨hz4,h⟩:=ite_no h
  refine TV rfl rfl rfl (Val.shl rfl rfl hz4) ?_
  refine TV rfl rfl rfl (Val.assign rfl) ?_
  refine TL.nil ?_
  refine TQ.then_ ?_
  refine TC.ret ?_
  refine TQ.thenR ?_
  obtain rfl:=Option.some.inj h
  exact TQ.fin (.inl rfl) rfl Try.results37 (.tmp rfl .nil) rfl (FRel.mk (Ls:=[]) [] 0 (Gd.le.refl _) rfl rfl rfl ⟨rfl,rfl,rfl⟩)
 ·
  refine TC.skip ?_
  refine TQ.then_ ?_
  refine TC.seq ?_
  refine TC.region ?_
  refine TV rfl rfl rfl (Val.move rfl) ?_
  refine TV rfl rfl rfl (Val.move rfl) ?_
  obtain ⟨hz5,h⟩:=ite_no h
  refine TV rfl rfl rfl (Val.shr rfl rfl hz5) ?_
  refine TV rfl rfl rfl (Val.assign rfl) ?_
  refine TL.nil ?_
  refine TQ.then_ ?_
  refine TC.ret ?_
  obtain rfl:=Option.some.inj h
  exact TQ.fin (.inl rfl) rfl Try.results37 (.tmp rfl .nil) rfl (FRel.mk (Ls:=[]) [] 0 (Gd.le.refl _) rfl rfl rfl ⟨rfl,rfl,rfl⟩)
def cmp_isNaN_int.f (a0:Int):Option Bool:=some (!decide (a0=a0))
def cmp_isNaN_int.post (G:Gd)  (r:Bool) (v:Value) (G':Gd) (Lr:List Ch):Prop:=G=G'∧v=.bool r∧Lr=[]
theorem cmp_isNaN_int.calls {G:Gd} {r:Bool} {a0:Int} (h:cmp_isNaN_int.f a0=some r):Fn Try.prog 112 G [] [VI a0] (cmp_isNaN_int.post G  r):=by
 refine Fn.intro (e:=[(0,VI a0)]) 6 Try.func112 rfl Try.ntmps112 rfl rfl (Nat.le_of_ble_eq_true rfl) (fun L=>?_)
 unfold cmp_isNaN_int.f at h
 refine TC.seq ?_
 refine TC.region ?_
 refine TV rfl rfl rfl (Val.assign rfl) ?_
 refine TL.nil ?_
 refine TQ.then_ ?_
 refine TC.seq ?_
 refine TC.region ?_
 refine TV rfl rfl rfl (Val.move rfl) ?_
 refine TV rfl rfl rfl (Val.move rfl) ?_
 refine TV rfl rfl rfl (Val.cmp rfl rfl run_neq) ?_
 refine TV rfl rfl rfl (Val.assign rfl) ?_
 refine TL.nil ?_
 refine TQ.then_ ?_
 refine TC.ret ?_
 obtain rfl:=Option.some.inj h
 exact TQ.fin (.inl rfl) rfl Try.results112 (.tmp rfl .nil) rfl (FRel.mk (Ls:=[]) [] 0 (Gd.le.refl _) rfl rfl rfl ⟨rfl,rfl,rfl⟩)
def cmp_Compare_int.f (a0:Int) (a1:Int):Option Int:=(cmp_isNaN_int.f a0).bind fun (y1:Bool)=>(cmp_isNaN_int.f a1).bind fun (y3:Bool)=>(if y1=true then (if y3=true then some 0 else some (-1)) else (if y3=true then some 1 else (if a0 < a1 then some (-1) else (if a1 < a0 then some 1 else some 0))))
def cmp_Compare_int.post (G:Gd)  (r:Int) (v:Value) (G':Gd) (Lr:List Ch):Prop:=G=G'∧v=VI r∧Lr=[]
theorem cmp_Compare_int.calls {G:Gd} {r:Int} {a0:Int} {a1:Int} (h:cmp_Compare_int.f a0 a1=some r):Fn Try.prog 89 G [] [VI a0,VI a1] (cmp_Compare_int.post G  r):=by
 refine Fn.intro (e:=[(0,VI a0),(1,VI a1)]) 20 Try.func89 rfl Try.ntmps89 rfl rfl (Nat.le_of_ble_eq_true rfl) (fun L=>?_)
 unfold cmp_Compare_int.f at h
 refine TC.seq ?_
 refine TC.region ?_
 refine TV rfl rfl rfl (Val.assign rfl) ?_
 refine TL.nil ?_
 refine TQ.then_ ?_
 refine TC.seq ?_
 refine TC.region ?_
 refine TV rfl rfl rfl (Val.move rfl) ?_
 obtain ⟨y1,hy2,h⟩:=bind_no h
 refine TL.cons (TL.callV (Lin:=[]) (args:=[VI a0]) rfl rfl rfl hbd112 rfl rfl (cmp_isNaN_int.calls (a0:=a0) hy2) rfl ?_)
 rintro _ _ _ _ ⟨rfl,rfl,rfl⟩
 refine TV rfl rfl rfl (Val.assign rfl) ?_
 refine TL.nil ?_
 refine TQ.then_ ?_
 refine TC.seq ?_
 refine TC.region ?_
 refine TV rfl rfl rfl (Val.move rfl) ?_
 obtain ⟨y3,hy4,h⟩:=bind_no h
 refine TL.cons (TL.callV (Lin:=[]) (args:=[VI a1]) rfl rfl rfl hbd112 rfl rfl (cmp_isNaN_int.calls (a0:=a1) hy4) rfl ?_)
 rintro _ _ _ _ ⟨rfl,rfl,rfl⟩
 refine TV rfl rfl rfl (Val.assign rfl) ?_
 refine TL.nil ?_
 refine TQ.then_ ?_
 refine TC.seq ?_
 refine TC.seq ?_
 refine TC.region ?_
 refine TV rfl rfl rfl (Val.move rfl) ?_
 refine TL.nil ?_
 refine TQ.then_ ?_
 refine TC.cond_b rfl h (fun hc8 h=>?_) (fun hc8 h=>?_)
 ·
  refine TC.seq ?_
  refine TC.seq ?_
  refine TC.region ?_
  refine TV rfl rfl rfl (Val.move rfl) ?_
  refine TL.nil ?_
  refine TQ.then_ ?_
  refine TC.cond_b rfl h (fun hc10 h=>?_) (fun hc10 h=>?_)
  ·
   refine TC.seq ?_
   refine TC.region ?_
   refine TV rfl rfl rfl (Val.assign rfl) ?_
   refine TL.nil ?_
   refine TQ.then_ ?_
   refine TC.ret ?_
   refine TQ.thenR ?_
   refine TQ.thenR ?_
   obtain rfl:=Option.some.inj h
   exact TQ.fin (.inl rfl) rfl Try.results89 (.tmp rfl .nil) rfl (FRel.mk (Ls:=[]) [] 0 (Gd.le.refl _) rfl rfl rfl ⟨rfl,rfl,rfl⟩)
  ·
   refine TC.skip ?_
   refine TQ.then_ ?_
   refine TC.seq ?_
   refine TC.region ?_
   refine TV rfl rfl rfl (Val.assign rfl) ?_
   refine TL.nil ?_
   refine TQ.then_ ?_
   refine TC.ret ?_
   refine TQ.thenR ?_
   obtain rfl:=Option.some.inj h
   exact TQ.fin (.inl rfl) rfl Try.results89 (.tmp rfl .nil) rfl (FRel.mk (Ls:=[]) [] 0 (Gd.le.refl _) rfl rfl rfl ⟨rfl,rfl,rfl⟩)
 ·
  refine TC.skip ?_
  refine TQ.then_ ?_
  refine TC.seq ?_
  refine TC.seq ?_
  refine TC.region ?_
  refine TV rfl rfl rfl (Val.move rfl) ?_
  refine TL.nil ?_
  refine TQ.then_ ?_
  refine TC.cond_b rfl h (fun hc12 h=>?_) (fun hc12 h=>?_)
  ·
   refine TC.seq ?_
   refine TC.region ?_
   refine TV rfl rfl rfl (Val.assign rfl) ?_
   refine TL.nil ?_
   refine TQ.then_ ?_
   refine TC.ret ?_
   refine TQ.thenR ?_
   obtain rfl:=Option.some.inj h
   exact TQ.fin (.inl rfl) rfl Try.results89 (.tmp rfl .nil) rfl (FRel.mk (Ls:=[]) [] 0 (Gd.le.refl _) rfl rfl rfl ⟨rfl,rfl,rfl⟩)
  ·
   refine TC.skip ?_
   refine TQ.then_ ?_
   refine TC.seq ?_
   refine TC.seq ?_
   refine TC.region ?_
   refine TV rfl rfl rfl (Val.move rfl) ?_
   refine TV rfl rfl rfl (Val.move rfl) ?_
   refine TV rfl rfl rfl (Val.cmp rfl rfl run_lss) ?_
   refine TL.nil ?_
   refine TQ.then_ ?_
   refine TC.cond_p rfl h (fun hc14 h=>?_) (fun hc14 h=>?_)
   ·
    refine TC.seq ?_
    refine TC.region ?_
    refine TV rfl rfl rfl (Val.assign rfl) ?_
    refine TL.nil ?_
    refine TQ.then_ ?_
    refine TC.ret ?_
    refine TQ.thenR ?_
    obtain rfl:=Option.some.inj h
    exact TQ.fin (.inl rfl) rfl Try.results89 (.tmp rfl .nil) rfl (FRel.mk (Ls:=[]) [] 0 (Gd.le.refl _) rfl rfl rfl ⟨rfl,rfl,rfl⟩)
   ·
    refine TC.skip ?_
    refine TQ.then_ ?_
    refine TC.seq ?_
    refine TC.seq ?_
    refine TC.region ?_
    refine TV rfl rfl rfl (Val.move rfl) ?_
    refine TV rfl rfl rfl (Val.move rfl) ?_
    refine TV rfl rfl rfl (Val.cmp rfl rfl run_gtr) ?_
    refine TL.nil ?_
    refine TQ.then_ ?_
    refine TC.cond_p rfl h (fun hc16 h=>?_) (fun hc16 h=>?_)
    ·
     refine TC.seq ?_
     refine TC.region ?_
     refine TV rfl rfl rfl (Val.assign rfl) ?_
     refine TL.nil ?_
     refine TQ.then_ ?_
     refine TC.ret ?_
     refine TQ.thenR ?_
     obtain rfl:=Option.some.inj h
     exact TQ.fin (.inl rfl) rfl Try.results89 (.tmp rfl .nil) rfl (FRel.mk (Ls:=[]) [] 0 (Gd.le.refl _) rfl rfl rfl ⟨rfl,rfl,rfl⟩)
    ·
     refine TC.skip ?_
     refine TQ.then_ ?_
     refine TC.seq ?_
     refine TC.region ?_
     refine TV rfl rfl rfl (Val.assign rfl) ?_
     refine TL.nil ?_
     refine TQ.then_ ?_
     refine TC.ret ?_
     obtain rfl:=Option.some.inj h
     exact TQ.fin (.inl rfl) rfl Try.results89 (.tmp rfl .nil) rfl (FRel.mk (Ls:=[]) [] 0 (Gd.le.refl _) rfl rfl rfl ⟨rfl,rfl,rfl⟩)
def word_flag.f (a0:Bool):Option Int:=(if a0=true then some 1 else some 0)
def word_flag.post (G:Gd)  (r:Int) (v:Value) (G':Gd) (Lr:List Ch):Prop:=G=G'∧v=VI r∧Lr=[]
theorem word_flag.calls {G:Gd} {r:Int} {a0:Bool} (h:word_flag.f a0=some r):Fn Try.prog 90 G [] [.bool a0] (word_flag.post G  r):=by
 refine Fn.intro (e:=[(0,.bool a0)]) 4 Try.func90 rfl Try.ntmps90 rfl rfl (Nat.le_of_ble_eq_true rfl) (fun L=>?_)
 unfold word_flag.f at h
 refine TC.seq ?_
 refine TC.region ?_
 refine TV rfl rfl rfl (Val.assign rfl) ?_
 refine TL.nil ?_
 refine TQ.then_ ?_
 refine TC.seq ?_
 refine TC.seq ?_
 refine TC.region ?_
 refine TV rfl rfl rfl (Val.move rfl) ?_
 refine TL.nil ?_
 refine TQ.then_ ?_
 refine TC.cond_b rfl h (fun hc2 h=>?_) (fun hc2 h=>?_)
 ·
  refine TC.seq ?_
  refine TC.region ?_
  refine TV rfl rfl rfl (Val.assign rfl) ?_
  refine TL.nil ?_
  refine TQ.then_ ?_
  refine TC.ret ?_
  refine TQ.thenR ?_
  obtain rfl:=Option.some.inj h
  exact TQ.fin (.inl rfl) rfl Try.results90 (.tmp rfl .nil) rfl (FRel.mk (Ls:=[]) [] 0 (Gd.le.refl _) rfl rfl rfl ⟨rfl,rfl,rfl⟩)
 ·
  refine TC.skip ?_
  refine TQ.then_ ?_
  refine TC.seq ?_
  refine TC.region ?_
  refine TV rfl rfl rfl (Val.assign rfl) ?_
  refine TL.nil ?_
  refine TQ.then_ ?_
  refine TC.ret ?_
  obtain rfl:=Option.some.inj h
  exact TQ.fin (.inl rfl) rfl Try.results90 (.tmp rfl .nil) rfl (FRel.mk (Ls:=[]) [] 0 (Gd.le.refl _) rfl rfl rfl ⟨rfl,rfl,rfl⟩)
def word_ordered_int.f (a0:Int) (a1:Int) (a2:Int):Option Int:=(cmp_Compare_int.f a1 a2).bind fun (y1:Int)=>(if a0=11 then (word_flag.f (decide (y1 < 0))).bind fun (y40:Int)=>some y40 else (if a0=12 then (word_flag.f (decide (y1 ≤ 0))).bind fun (y49:Int)=>some y49 else (if a0=13 then (word_flag.f (decide (y1=0))).bind fun (y55:Int)=>some y55 else (word_flag.f (!decide (y1=0))).bind fun (y57:Int)=>some y57)))
def word_ordered_int.post (G:Gd)  (r:Int) (v:Value) (G':Gd) (Lr:List Ch):Prop:=G=G'∧v=VI r∧Lr=[]
theorem word_ordered_int.calls {G:Gd} {r:Int} {a0:Int} {a1:Int} {a2:Int} (h:word_ordered_int.f a0 a1 a2=some r):Fn Try.prog 64 G [] [VI a0,VI a1,VI a2] (word_ordered_int.post G  r):=by
 refine Fn.intro (e:=[(0,VI a0),(1,VI a1),(2,VI a2)]) 30 Try.func64 rfl Try.ntmps64 rfl rfl (Nat.le_of_ble_eq_true rfl) (fun L=>?_)
 unfold word_ordered_int.f at h
 refine TC.seq ?_
 refine TC.region ?_
 refine TV rfl rfl rfl (Val.assign rfl) ?_
 refine TL.nil ?_
 refine TQ.then_ ?_
 refine TC.seq ?_
 refine TC.region ?_
 refine TV rfl rfl rfl (Val.move rfl) ?_
 refine TV rfl rfl rfl (Val.move rfl) ?_
 obtain ⟨y1,hy2,h⟩:=bind_no h
 refine TL.cons (TL.callV (Lin:=[]) (args:=[VI a1,VI a2]) rfl rfl rfl hbd89 rfl rfl (cmp_Compare_int.calls (a0:=a1) (a1:=a2) hy2) rfl ?_)
 rintro _ _ _ _ ⟨rfl,rfl,rfl⟩
 refine TV rfl rfl rfl (Val.assign rfl) ?_
 refine TL.nil ?_
 refine TQ.then_ ?_
 refine TC.seq ?_
 refine TC.seq ?_
 refine TC.region ?_
 refine TV rfl rfl rfl (Val.move rfl) ?_
 refine TL.nil ?_
 refine TQ.then_ ?_
 refine TC.block ?_
 refine TC.seq ?_
 refine TC.region ?_
 refine TV rfl rfl rfl (Val.cmp rfl rfl run_eql) ?_
 refine TV rfl rfl rfl (Val.assign rfl) ?_
 refine TL.nil ?_
 refine TQ.then_ ?_
 refine TC.cond_p rfl h (fun hc39 h=>?_) (fun hc39 h=>?_)
 ·
  refine TC.seq ?_
  refine TC.region ?_
  refine TV rfl rfl rfl (Val.move rfl) ?_
  refine TV rfl rfl rfl (Val.cmp rfl rfl run_lss) ?_
  obtain ⟨y40,hy41,h⟩:=bind_no h
  refine TL.cons (TL.callV (Lin:=[]) (args:=[.bool (decide (y1 < 0))]) rfl rfl rfl hbd90 rfl rfl (word_flag.calls (a0:=decide (y1 < 0)) hy41) rfl ?_)
  rintro _ _ _ _ ⟨rfl,rfl,rfl⟩
  refine TV rfl rfl rfl (Val.assign rfl) ?_
  refine TL.nil ?_
  refine TQ.then_ ?_
  refine TC.ret ?_
  refine TQ.inBR ?_
  refine TQ.thenR ?_
  obtain rfl:=Option.some.inj h
  exact TQ.fin (.inl rfl) rfl Try.results64 (.tmp rfl .nil) rfl (FRel.mk (Ls:=[]) [] 0 (Gd.le.refl _) rfl rfl rfl ⟨rfl,rfl,rfl⟩)
 ·
  refine TC.seq ?_
  refine TC.region ?_
  refine TV rfl rfl rfl (Val.cmp rfl rfl run_eql) ?_
  refine TV rfl rfl rfl (Val.assign rfl) ?_
  refine TL.nil ?_
  refine TQ.then_ ?_
  refine TC.cond_p rfl h (fun hc48 h=>?_) (fun hc48 h=>?_)
  ·
   refine TC.seq ?_
   refine TC.region ?_
   refine TV rfl rfl rfl (Val.move rfl) ?_
   refine TV rfl rfl rfl (Val.cmp rfl rfl run_leq) ?_
   obtain ⟨y49,hy50,h⟩:=bind_no h
   refine TL.cons (TL.callV (Lin:=[]) (args:=[.bool (decide (y1 ≤ 0))]) rfl rfl rfl hbd90 rfl rfl (word_flag.calls (a0:=decide (y1 ≤ 0)) hy50) rfl ?_)
   rintro _ _ _ _ ⟨rfl,rfl,rfl⟩
   refine TV rfl rfl rfl (Val.assign rfl) ?_
   refine TL.nil ?_
   refine TQ.then_ ?_
   refine TC.ret ?_
   refine TQ.inBR ?_
   refine TQ.thenR ?_
   obtain rfl:=Option.some.inj h
   exact TQ.fin (.inl rfl) rfl Try.results64 (.tmp rfl .nil) rfl (FRel.mk (Ls:=[]) [] 0 (Gd.le.refl _) rfl rfl rfl ⟨rfl,rfl,rfl⟩)
  ·
   refine TC.seq ?_
   refine TC.region ?_
   refine TV rfl rfl rfl (Val.cmp rfl rfl run_eql) ?_
   refine TV rfl rfl rfl (Val.assign rfl) ?_
   refine TL.nil ?_
   refine TQ.then_ ?_
   refine TC.cond_p rfl h (fun hc54 h=>?_) (fun hc54 h=>?_)
   ·
    refine TC.seq ?_
    refine TC.region ?_
    refine TV rfl rfl rfl (Val.move rfl) ?_
    refine TV rfl rfl rfl (Val.cmp rfl rfl run_eql) ?_
    obtain ⟨y55,hy56,h⟩:=bind_no h
    refine TL.cons (TL.callV (Lin:=[]) (args:=[.bool (decide (y1=0))]) rfl rfl rfl hbd90 rfl rfl (word_flag.calls (a0:=decide (y1=0)) hy56) rfl ?_)
    rintro _ _ _ _ ⟨rfl,rfl,rfl⟩
    refine TV rfl rfl rfl (Val.assign rfl) ?_
    refine TL.nil ?_
    refine TQ.then_ ?_
    refine TC.ret ?_
    refine TQ.inBR ?_
    refine TQ.thenR ?_
    obtain rfl:=Option.some.inj h
    exact TQ.fin (.inl rfl) rfl Try.results64 (.tmp rfl .nil) rfl (FRel.mk (Ls:=[]) [] 0 (Gd.le.refl _) rfl rfl rfl ⟨rfl,rfl,rfl⟩)
   ·
    refine TC.skip ?_
    refine TQ.inB ?_
    refine TQ.then_ ?_
    refine TC.seq ?_
    refine TC.region ?_
    refine TV rfl rfl rfl (Val.move rfl) ?_
    refine TV rfl rfl rfl (Val.cmp rfl rfl run_neq) ?_
    obtain ⟨y57,hy58,h⟩:=bind_no h
    refine TL.cons (TL.callV (Lin:=[]) (args:=[.bool (!decide (y1=0))]) rfl rfl rfl hbd90 rfl rfl (word_flag.calls (a0:=(!decide (y1=0))) hy58) rfl ?_)
    rintro _ _ _ _ ⟨rfl,rfl,rfl⟩
    refine TV rfl rfl rfl (Val.assign rfl) ?_
    refine TL.nil ?_
    refine TQ.then_ ?_
    refine TC.ret ?_
    obtain rfl:=Option.some.inj h
    exact TQ.fin (.inl rfl) rfl Try.results64 (.tmp rfl .nil) rfl (FRel.mk (Ls:=[]) [] 0 (Gd.le.refl _) rfl rfl rfl ⟨rfl,rfl,rfl⟩)
def word_plain.f (a0:Int) (a1:Int) (a2:Int):Option Int:=(if a0=1 then some (IntKind.i64.wrap (a1 + a2)) else (if a0=2 then some (IntKind.i64.wrap (a1 - a2)) else (if a0=3 then some (IntKind.i64.wrap (a1 * a2)) else (if a0=6 then some (IntKind.i64.wrap (BitVec.ofInt IntKind.i64.bits a1 &&& BitVec.ofInt IntKind.i64.bits a2).toNat) else (if a0=7 then some (IntKind.i64.wrap (BitVec.ofInt IntKind.i64.bits a1 ||| BitVec.ofInt IntKind.i64.bits a2).toNat) else (if a0=8 then some (IntKind.i64.wrap (BitVec.ofInt IntKind.i64.bits a1 ^^^ BitVec.ofInt IntKind.i64.bits a2).toNat) else (word_ordered_int.f a0 a1 a2).bind fun (y55:Int)=>some y55))))))
def word_plain.post (G:Gd)  (r:Int) (v:Value) (G':Gd) (Lr:List Ch):Prop:=G=G'∧v=VI r∧Lr=[]
theorem word_plain.calls {G:Gd} {r:Int} {a0:Int} {a1:Int} {a2:Int} (h:word_plain.f a0 a1 a2=some r):Fn Try.prog 38 G [] [VI a0,VI a1,VI a2] (word_plain.post G  r):=by
 refine Fn.intro (e:=[(0,VI a0),(1,VI a1),(2,VI a2)]) 42 Try.func38 rfl Try.ntmps38 rfl rfl (Nat.le_of_ble_eq_true rfl) (fun L=>?_)
 unfold word_plain.f at h
 refine TC.seq ?_
 refine TC.region ?_
 refine TV rfl rfl rfl (Val.assign rfl) ?_
 refine TL.nil ?_
 refine TQ.then_ ?_
 refine TC.seq ?_
 refine TC.seq ?_
 refine TC.region ?_
 refine TV rfl rfl rfl (Val.move rfl) ?_
 refine TL.nil ?_
 refine TQ.then_ ?_
 refine TC.block ?_
 refine TC.seq ?_
 refine TC.region ?_
 refine TV rfl rfl rfl (Val.cmp rfl rfl run_eql) ?_
 refine TV rfl rfl rfl (Val.assign rfl) ?_
 refine TL.nil ?_
 refine TQ.then_ ?_
 refine TC.cond_p rfl h (fun hc34 h=>?_) (fun hc34 h=>?_)
 ·
  refine TC.seq ?_
  refine TC.region ?_
  refine TV rfl rfl rfl (Val.move rfl) ?_
  refine TV rfl rfl rfl (Val.move rfl) ?_
  refine TV rfl rfl rfl (Val.cmp rfl rfl run_add) ?_
  refine TV rfl rfl rfl (Val.assign rfl) ?_
  refine TL.nil ?_
  refine TQ.then_ ?_
  refine TC.ret ?_
  refine TQ.inBR ?_
  refine TQ.thenR ?_
  obtain rfl:=Option.some.inj h
  exact TQ.fin (.inl rfl) rfl Try.results38 (.tmp rfl .nil) rfl (FRel.mk (Ls:=[]) [] 0 (Gd.le.refl _) rfl rfl rfl ⟨rfl,rfl,rfl⟩)
 ·
  refine TC.seq ?_
  refine TC.region ?_
  refine TV rfl rfl rfl (Val.cmp rfl rfl run_eql) ?_
  refine TV rfl rfl rfl (Val.assign rfl) ?_
  refine TL.nil ?_
  refine TQ.then_ ?_
  refine TC.cond_p rfl h (fun hc40 h=>?_) (fun hc40 h=>?_)
  ·
   refine TC.seq ?_
   refine TC.region ?_
   refine TV rfl rfl rfl (Val.move rfl) ?_
   refine TV rfl rfl rfl (Val.move rfl) ?_
   refine TV rfl rfl rfl (Val.cmp rfl rfl run_sub) ?_
   refine TV rfl rfl rfl (Val.assign rfl) ?_
   refine TL.nil ?_
   refine TQ.then_ ?_
   refine TC.ret ?_
   refine TQ.inBR ?_
   refine TQ.thenR ?_
   obtain rfl:=Option.some.inj h
   exact TQ.fin (.inl rfl) rfl Try.results38 (.tmp rfl .nil) rfl (FRel.mk (Ls:=[]) [] 0 (Gd.le.refl _) rfl rfl rfl ⟨rfl,rfl,rfl⟩)
  ·
   refine TC.seq ?_
   refine TC.region ?_
   refine TV rfl rfl rfl (Val.cmp rfl rfl run_eql) ?_
   refine TV rfl rfl rfl (Val.assign rfl) ?_
   refine TL.nil ?_
   refine TQ.then_ ?_
   refine TC.cond_p rfl h (fun hc45 h=>?_) (fun hc45 h=>?_)
   ·
    refine TC.seq ?_
    refine TC.region ?_
    refine TV rfl rfl rfl (Val.move rfl) ?_
    refine TV rfl rfl rfl (Val.move rfl) ?_
    refine TV rfl rfl rfl (Val.cmp rfl rfl run_mul) ?_
    refine TV rfl rfl rfl (Val.assign rfl) ?_
    refine TL.nil ?_
    refine TQ.then_ ?_
    refine TC.ret ?_
    refine TQ.inBR ?_
    refine TQ.thenR ?_
    obtain rfl:=Option.some.inj h
    exact TQ.fin (.inl rfl) rfl Try.results38 (.tmp rfl .nil) rfl (FRel.mk (Ls:=[]) [] 0 (Gd.le.refl _) rfl rfl rfl ⟨rfl,rfl,rfl⟩)
   ·
    refine TC.seq ?_
    refine TC.region ?_
    refine TV rfl rfl rfl (Val.cmp rfl rfl run_eql) ?_
    refine TV rfl rfl rfl (Val.assign rfl) ?_
    refine TL.nil ?_
    refine TQ.then_ ?_
    refine TC.cond_p rfl h (fun hc49 h=>?_) (fun hc49 h=>?_)
    ·
     refine TC.seq ?_
     refine TC.region ?_
     refine TV rfl rfl rfl (Val.move rfl) ?_
     refine TV rfl rfl rfl (Val.move rfl) ?_
     refine TV rfl rfl rfl (Val.cmp rfl rfl run_and) ?_
     refine TV rfl rfl rfl (Val.assign rfl) ?_
     refine TL.nil ?_
     refine TQ.then_ ?_
     refine TC.ret ?_
     refine TQ.inBR ?_
     refine TQ.thenR ?_
     obtain rfl:=Option.some.inj h
     exact TQ.fin (.inl rfl) rfl Try.results38 (.tmp rfl .nil) rfl (FRel.mk (Ls:=[]) [] 0 (Gd.le.refl _) rfl rfl rfl ⟨rfl,rfl,rfl⟩)
    ·
     refine TC.seq ?_
     refine TC.region ?_
     refine TV rfl rfl rfl (Val.cmp rfl rfl run_eql) ?_
     refine TV rfl rfl rfl (Val.assign rfl) ?_
     refine TL.nil ?_
     refine TQ.then_ ?_
     refine TC.cond_p rfl h (fun hc52 h=>?_) (fun hc52 h=>?_)
     ·
      refine TC.seq ?_
      refine TC.region ?_
      refine TV rfl rfl rfl (Val.move rfl) ?_
      refine TV rfl rfl rfl (Val.move rfl) ?_
      refine TV rfl rfl rfl (Val.cmp rfl rfl run_or) ?_
      refine TV rfl rfl rfl (Val.assign rfl) ?_
      refine TL.nil ?_
      refine TQ.then_ ?_
      refine TC.ret ?_
      refine TQ.inBR ?_
      refine TQ.thenR ?_
      obtain rfl:=Option.some.inj h
      exact TQ.fin (.inl rfl) rfl Try.results38 (.tmp rfl .nil) rfl (FRel.mk (Ls:=[]) [] 0 (Gd.le.refl _) rfl rfl rfl ⟨rfl,rfl,rfl⟩)
     ·
      refine TC.seq ?_
      refine TC.region ?_
      refine TV rfl rfl rfl (Val.cmp rfl rfl run_eql) ?_
      refine TV rfl rfl rfl (Val.assign rfl) ?_
      refine TL.nil ?_
      refine TQ.then_ ?_
      refine TC.cond_p rfl h (fun hc54 h=>?_) (fun hc54 h=>?_)
      ·
       refine TC.seq ?_
       refine TC.region ?_
       refine TV rfl rfl rfl (Val.move rfl) ?_
       refine TV rfl rfl rfl (Val.move rfl) ?_
       refine TV rfl rfl rfl (Val.cmp rfl rfl run_xor) ?_
       refine TV rfl rfl rfl (Val.assign rfl) ?_
       refine TL.nil ?_
       refine TQ.then_ ?_
       refine TC.ret ?_
       refine TQ.inBR ?_
       refine TQ.thenR ?_
       obtain rfl:=Option.some.inj h
       exact TQ.fin (.inl rfl) rfl Try.results38 (.tmp rfl .nil) rfl (FRel.mk (Ls:=[]) [] 0 (Gd.le.refl _) rfl rfl rfl ⟨rfl,rfl,rfl⟩)
      ·
       refine TC.skip ?_
       refine TQ.inB ?_
       refine TQ.then_ ?_
       refine TC.seq ?_
       refine TC.region ?_
       refine TV rfl rfl rfl (Val.move rfl) ?_
       refine TV rfl rfl rfl (Val.move rfl) ?_
       refine TV rfl rfl rfl (Val.move rfl) ?_
       obtain ⟨y55,hy56,h⟩:=bind_no h
       refine TL.cons (TL.callV (Lin:=[]) (args:=[VI a0,VI a1,VI a2]) rfl rfl rfl hbd64 rfl rfl (word_ordered_int.calls (a0:=a0) (a1:=a1) (a2:=a2) hy56) rfl ?_)
       rintro _ _ _ _ ⟨rfl,rfl,rfl⟩
       refine TV rfl rfl rfl (Val.assign rfl) ?_
       refine TL.nil ?_
       refine TQ.then_ ?_
       refine TC.ret ?_
       obtain rfl:=Option.some.inj h
       exact TQ.fin (.inl rfl) rfl Try.results38 (.tmp rfl .nil) rfl (FRel.mk (Ls:=[]) [] 0 (Gd.le.refl _) rfl rfl rfl ⟨rfl,rfl,rfl⟩)
def word_Do.f (a0:Int) (a1:Int) (a2:Int):Option (Int × Int):=jn (γ:=(Int × Int)) (fun (x39:Bool)=>(if x39=true then (if a2=0 then some (0,6) else (word_divided.f a0 a1 a2).bind fun (y58:Int)=>some (y58,0)) else jn (γ:=(Int × Int)) (fun (x61:Bool)=>(if x61=true then (if a2 < 0 then some (0,6) else (word_moved.f a0 a1 a2).bind fun (y71:Int)=>some (y71,0)) else (word_Known.f a0).bind fun (y73:Bool)=>(if (!y73)=true then some (0,1) else (word_plain.f a0 a1 a2).bind fun (y77:Int)=>some (y77,0)))) (fun (j62:(Bool → Option (Int × Int)))=>(if a0=9 then j62 (decide (a0=9)) else j62 (decide (a0=10)))))) (fun (j40:(Bool → Option (Int × Int)))=>(if a0=4 then j40 (decide (a0=4)) else j40 (decide (a0=5))))
def word_Do.post (G:Gd)  (r:(Int × Int)) (v:Value) (G':Gd) (Lr:List Ch):Prop:=G=G'∧v=.tuple #[VI r.1,VI r.2]∧Lr=[]
theorem word_Do.calls {G:Gd} {r:(Int × Int)} {a0:Int} {a1:Int} {a2:Int} (h:word_Do.f a0 a1 a2=some r):Fn Try.prog 19 G [] [VI a0,VI a1,VI a2] (word_Do.post G  r):=by
 refine Fn.intro (e:=[(0,VI a0),(1,VI a1),(2,VI a2)]) 34 Try.func19 rfl Try.ntmps19 rfl rfl (Nat.le_of_ble_eq_true rfl) (fun L=>?_)
 unfold word_Do.f at h
 refine TC.seq ?_
 refine TC.region ?_
 refine TV rfl rfl rfl (Val.assign rfl) ?_
 refine TV rfl rfl rfl (Val.assign rfl) ?_
 refine TL.nil ?_
 refine TQ.then_ ?_
 refine TC.seq ?_
 refine TC.seq ?_
 refine TC.region ?_
 refine TV rfl rfl rfl (Val.move rfl) ?_
 refine TL.nil ?_
 refine TQ.then_ ?_
 refine TC.block ?_
 refine TC.seq ?_
 refine TC.seq ?_
 refine TC.region ?_
 refine TV rfl rfl rfl (Val.cmp rfl rfl run_eql) ?_
 refine TV rfl rfl rfl (Val.assign rfl) ?_
 refine TL.nil ?_
 refine TQ.then_ ?_
 obtain ⟨j40,hj40,h⟩:=jn_no h
 refine TC.tail (fun a W=>∃ (x39:Bool),j40 x39=some r∧Fr 34 a [(0,VI a0),(1,VI a1),(2,VI a2),(8,VI a0),(9,.bool x39)]∧Own G (L) W) ?_ ?_
 ·
  rintro a W ⟨x39,h,hF,hO⟩
  rw [hj40] at h
  refine TQ.use ?_ hF hO
  clear hF hO
  refine TQ.then_ ?_
  refine TC.cond_b rfl h (fun hc55 h=>?_) (fun hc55 h=>?_)
  ·
   refine TC.seq ?_
   refine TC.seq ?_
   refine TC.region ?_
   refine TV rfl rfl rfl (Val.move rfl) ?_
   refine TV rfl rfl rfl (Val.cmp rfl rfl run_eql) ?_
   refine TL.nil ?_
   refine TQ.then_ ?_
   refine TC.cond_p rfl h (fun hc57 h=>?_) (fun hc57 h=>?_)
   ·
    refine TC.seq ?_
    refine TC.region ?_
    refine TV rfl rfl rfl (Val.assign rfl) ?_
    refine TV rfl rfl rfl (Val.assign rfl) ?_
    refine TL.nil ?_
    refine TQ.then_ ?_
    refine TC.ret ?_
    refine TQ.thenR ?_
    refine TQ.inBR ?_
    refine TQ.thenR ?_
    obtain rfl:=Option.some.inj h
    exact TQ.fin (.inl rfl) rfl Try.results19 (.tmp rfl (.tmp rfl .nil)) rfl (FRel.mk (Ls:=[]) [] 0 (Gd.le.refl _) rfl rfl rfl ⟨rfl,rfl,rfl⟩)
   ·
    refine TC.skip ?_
    refine TQ.then_ ?_
    refine TC.seq ?_
    refine TC.region ?_
    refine TV rfl rfl rfl (Val.move rfl) ?_
    refine TV rfl rfl rfl (Val.move rfl) ?_
    refine TV rfl rfl rfl (Val.move rfl) ?_
    obtain ⟨y58,hy59,h⟩:=bind_no h
    refine TL.cons (TL.callV (Lin:=[]) (args:=[VI a0,VI a1,VI a2]) rfl rfl rfl hbd36 rfl rfl (word_divided.calls (a0:=a0) (a1:=a1) (a2:=a2) hy59) rfl ?_)
    rintro _ _ _ _ ⟨rfl,rfl,rfl⟩
    refine TV rfl rfl rfl (Val.assign rfl) ?_
    refine TV rfl rfl rfl (Val.assign rfl) ?_
    refine TL.nil ?_
    refine TQ.then_ ?_
    refine TC.ret ?_
    refine TQ.inBR ?_
    refine TQ.thenR ?_
    obtain rfl:=Option.some.inj h
    exact TQ.fin (.inl rfl) rfl Try.results19 (.tmp rfl (.tmp rfl .nil)) rfl (FRel.mk (Ls:=[]) [] 0 (Gd.le.refl _) rfl rfl rfl ⟨rfl,rfl,rfl⟩)
  ·
   refine TC.seq ?_
   refine TC.seq ?_
   refine TC.region ?_
   refine TV rfl rfl rfl (Val.cmp rfl rfl run_eql) ?_
   refine TV rfl rfl rfl (Val.assign rfl) ?_
   refine TL.nil ?_
   refine TQ.then_ ?_
   obtain ⟨j62,hj62,h⟩:=jn_no h
   refine TC.tail (fun a W=>∃ (x61:Bool),j62 x61=some r∧Fr 34 a [(0,VI a0),(1,VI a1),(2,VI a2),(18,.bool x61)]∧Own G (L) W) ?_ ?_
   ·
    rintro a W ⟨x61,h,hF,hO⟩
    rw [hj62] at h
    refine TQ.use ?_ hF hO
    clear hF hO
    refine TQ.then_ ?_
    refine TC.cond_b rfl h (fun hc68 h=>?_) (fun hc68 h=>?_)
    ·
     refine TC.seq ?_
     refine TC.seq ?_
     refine TC.region ?_
     refine TV rfl rfl rfl (Val.move rfl) ?_
     refine TV rfl rfl rfl (Val.cmp rfl rfl run_lss) ?_
     refine TL.nil ?_
     refine TQ.then_ ?_
     refine TC.cond_p rfl h (fun hc70 h=>?_) (fun hc70 h=>?_)
     ·
      refine TC.seq ?_
      refine TC.region ?_
      refine TV rfl rfl rfl (Val.assign rfl) ?_
      refine TV rfl rfl rfl (Val.assign rfl) ?_
      refine TL.nil ?_
      refine TQ.then_ ?_
      refine TC.ret ?_
      refine TQ.thenR ?_
      refine TQ.inBR ?_
      refine TQ.thenR ?_
      obtain rfl:=Option.some.inj h
      exact TQ.fin (.inl rfl) rfl Try.results19 (.tmp rfl (.tmp rfl .nil)) rfl (FRel.mk (Ls:=[]) [] 0 (Gd.le.refl _) rfl rfl rfl ⟨rfl,rfl,rfl⟩)
     ·
      refine TC.skip ?_
      refine TQ.then_ ?_
      refine TC.seq ?_
      refine TC.region ?_
      refine TV rfl rfl rfl (Val.move rfl) ?_
      refine TV rfl rfl rfl (Val.move rfl) ?_
      refine TV rfl rfl rfl (Val.move rfl) ?_
      obtain ⟨y71,hy72,h⟩:=bind_no h
      refine TL.cons (TL.callV (Lin:=[]) (args:=[VI a0,VI a1,VI a2]) rfl rfl rfl hbd37 rfl rfl (word_moved.calls (a0:=a0) (a1:=a1) (a2:=a2) hy72) rfl ?_)
      rintro _ _ _ _ ⟨rfl,rfl,rfl⟩
      refine TV rfl rfl rfl (Val.assign rfl) ?_
      refine TV rfl rfl rfl (Val.assign rfl) ?_
      refine TL.nil ?_
      refine TQ.then_ ?_
      refine TC.ret ?_
      refine TQ.inBR ?_
      refine TQ.thenR ?_
      obtain rfl:=Option.some.inj h
      exact TQ.fin (.inl rfl) rfl Try.results19 (.tmp rfl (.tmp rfl .nil)) rfl (FRel.mk (Ls:=[]) [] 0 (Gd.le.refl _) rfl rfl rfl ⟨rfl,rfl,rfl⟩)
    ·
     refine TC.skip ?_
     refine TQ.inB ?_
     refine TQ.then_ ?_
     refine TC.seq ?_
     refine TC.seq ?_
     refine TC.region ?_
     refine TV rfl rfl rfl (Val.move rfl) ?_
     obtain ⟨y73,hy74,h⟩:=bind_no h
     refine TL.cons (TL.callV (Lin:=[]) (args:=[VI a0]) rfl rfl rfl hbd18 rfl rfl (word_Known.calls (a0:=a0) hy74) rfl ?_)
     rintro _ _ _ _ ⟨rfl,rfl,rfl⟩
     refine TV rfl rfl rfl (Val.not_ rfl) ?_
     refine TL.nil ?_
     refine TQ.then_ ?_
     refine TC.cond_b rfl h (fun hc76 h=>?_) (fun hc76 h=>?_)
     ·
      refine TC.seq ?_
      refine TC.region ?_
      refine TV rfl rfl rfl (Val.assign rfl) ?_
      refine TV rfl rfl rfl (Val.assign rfl) ?_
      refine TL.nil ?_
      refine TQ.then_ ?_
      refine TC.ret ?_
      refine TQ.thenR ?_
      obtain rfl:=Option.some.inj h
      exact TQ.fin (.inl rfl) rfl Try.results19 (.tmp rfl (.tmp rfl .nil)) rfl (FRel.mk (Ls:=[]) [] 0 (Gd.le.refl _) rfl rfl rfl ⟨rfl,rfl,rfl⟩)
     ·
      refine TC.skip ?_
      refine TQ.then_ ?_
      refine TC.seq ?_
      refine TC.region ?_
      refine TV rfl rfl rfl (Val.move rfl) ?_
      refine TV rfl rfl rfl (Val.move rfl) ?_
      refine TV rfl rfl rfl (Val.move rfl) ?_
      obtain ⟨y77,hy78,h⟩:=bind_no h
      refine TL.cons (TL.callV (Lin:=[]) (args:=[VI a0,VI a1,VI a2]) rfl rfl rfl hbd38 rfl rfl (word_plain.calls (a0:=a0) (a1:=a1) (a2:=a2) hy78) rfl ?_)
      rintro _ _ _ _ ⟨rfl,rfl,rfl⟩
      refine TV rfl rfl rfl (Val.assign rfl) ?_
      refine TV rfl rfl rfl (Val.assign rfl) ?_
      refine TL.nil ?_
      refine TQ.then_ ?_
      refine TC.ret ?_
      obtain rfl:=Option.some.inj h
      exact TQ.fin (.inl rfl) rfl Try.results19 (.tmp rfl (.tmp rfl .nil)) rfl (FRel.mk (Ls:=[]) [] 0 (Gd.le.refl _) rfl rfl rfl ⟨rfl,rfl,rfl⟩)
   ·
    refine TC.cond_p rfl h (fun hc79 h=>?_) (fun hc79 h=>?_)
    ·
     refine TC.skip ?_
     exact fun a W hF hO=>⟨decide (a0=9),h,hF.sub ⟨rfl,rfl,rfl,rfl,trivial⟩,hO.selT (Ls:=[]) [] 0 rfl rfl rfl⟩
    ·
     refine TC.region ?_
     refine TV rfl rfl rfl (Val.cmp rfl rfl run_eql) ?_
     refine TV rfl rfl rfl (Val.assign rfl) ?_
     refine TL.nil ?_
     exact fun a W hF hO=>⟨decide (a0=10),h,hF.sub ⟨rfl,rfl,rfl,rfl,trivial⟩,hO.selT (Ls:=[]) [] 0 rfl rfl rfl⟩
 ·
  refine TC.cond_p rfl h (fun hc80 h=>?_) (fun hc80 h=>?_)
  ·
   refine TC.skip ?_
   exact fun a W hF hO=>⟨decide (a0=4),h,hF.sub ⟨rfl,rfl,rfl,rfl,rfl,trivial⟩,hO.selT (Ls:=[]) [] 0 rfl rfl rfl⟩
  ·
   refine TC.region ?_
   refine TV rfl rfl rfl (Val.cmp rfl rfl run_eql) ?_
   refine TV rfl rfl rfl (Val.assign rfl) ?_
   refine TL.nil ?_
   exact fun a W hF hO=>⟨decide (a0=5),h,hF.sub ⟨rfl,rfl,rfl,rfl,rfl,trivial⟩,hO.selT (Ls:=[]) [] 0 rfl rfl rfl⟩
def trace_runner_pay.f (a0_0:(List S45)) (a0_1_0:(List Int)) (a0_1_1:Int) (a0_1_2:Int) (a0_2:(List Int)) (a0_3:Int) (a0_4:Int) (a0_5:(List Int)) (a0_6:Int) (a0_7:Int) (a0_8:Int) (a0_9:Int):Option (Int × Int):=(if a0_3 < 1 then some (12,a0_3) else some (0,IntKind.i64.wrap (a0_3 - 1)))
def trace_runner_pay.post (G:Gd) (b1:Nat) (A2:Option Addr) (c3:Nat) (b6:Nat) (A7:Option Addr) (c8:Nat) (A10:Option Addr) (c11:Nat) (A14:Option Addr) (c15:Nat) (a0_0:(List S45)) (a0_1_0:(List Int)) (a0_1_1:Int) (a0_1_2:Int) (a0_2:(List Int)) (a0_3:Int) (a0_4:Int) (a0_5:(List Int)) (a0_6:Int) (a0_7:Int) (a0_8:Int) (a0_9:Int) (r:(Int × Int)) (v:Value) (G':Gd) (Lr:List Ch):Prop:=G=G'∧v=VI r.1∧Lr=[Blk b1 [.slice A2 a0_0.length c3,VP b6 0,.slice A10 a0_2.length c11,VI r.2,VI a0_4,.slice A14 a0_5.length c15,VI a0_6,VI a0_7,VI a0_8,VI a0_9] 58,Blk b6 [.slice A7 a0_1_0.length c8,VI a0_1_1,VI a0_1_2] 89,Row kI 3 (.slice A7 a0_1_0.length c8) a0_1_0,Row kI 3 (.slice A14 a0_5.length c15) a0_5]
theorem trace_runner_pay.calls {G:Gd} {r:(Int × Int)} {a0_0:(List S45)} {a0_1_0:(List Int)} {a0_1_1:Int} {a0_1_2:Int} {a0_2:(List Int)} {a0_3:Int} {a0_4:Int} {a0_5:(List Int)} {a0_6:Int} {a0_7:Int} {a0_8:Int} {a0_9:Int} {b1:Nat} {A2:Option Addr} {c3:Nat} {b6:Nat} {A7:Option Addr} {c8:Nat} {A10:Option Addr} {c11:Nat} {A14:Option Addr} {c15:Nat} (hr4:Rd G k45 A2 a0_0) (hl5:a0_0.length ≤ c3) (hr12:Rd G kI A10 a0_2) (hl13:a0_2.length ≤ c11) (h:trace_runner_pay.f a0_0 a0_1_0 a0_1_1 a0_1_2 a0_2 a0_3 a0_4 a0_5 a0_6 a0_7 a0_8 a0_9=some r):Fn Try.prog 81 G [Blk b1 [.slice A2 a0_0.length c3,VP b6 0,.slice A10 a0_2.length c11,VI a0_3,VI a0_4,.slice A14 a0_5.length c15,VI a0_6,VI a0_7,VI a0_8,VI a0_9] 58,Blk b6 [.slice A7 a0_1_0.length c8,VI a0_1_1,VI a0_1_2] 89,Row kI 3 (.slice A7 a0_1_0.length c8) a0_1_0,Row kI 3 (.slice A14 a0_5.length c15) a0_5] [VP b1 0] (trace_runner_pay.post G b1 A2 c3 b6 A7 c8 A10 c11 A14 c15 a0_0 a0_1_0 a0_1_1 a0_1_2 a0_2 a0_3 a0_4 a0_5 a0_6 a0_7 a0_8 a0_9 r):=by
 refine Fn.intro (e:=[(0,VP b1 0)]) 15 Try.func81 rfl Try.ntmps81 rfl rfl (Nat.le_of_ble_eq_true rfl) (fun L=>?_)
 unfold trace_runner_pay.f at h
 refine TC.seq ?_
 refine TC.region ?_
 refine TV rfl rfl rfl (Val.assign rfl) ?_
 refine TL.nil ?_
 refine TQ.then_ ?_
 refine TC.seq ?_
 refine TC.seq ?_
 refine TC.region ?_
 refine TV rfl rfl rfl (Val.move rfl) ?_
 refine TV rfl rfl rfl (Val.nilCheck rfl) ?_
 refine TV rfl rfl rfl (Val.fieldAddrB Try.underlying58 rfl fsz3 rfl rfl rfl) ?_
 refine TV rfl rfl rfl (Val.loadB 0 agg3 rfl rfl rfl) ?_
 refine TV rfl rfl rfl (Val.cmp rfl rfl run_lss) ?_
 refine TL.nil ?_
 refine TQ.then_ ?_
 refine TC.cond_p rfl h (fun hc18 h=>?_) (fun hc18 h=>?_)
 ·
  refine TC.seq ?_
  refine TC.region ?_
  refine TV rfl rfl rfl (Val.assign rfl) ?_
  refine TL.nil ?_
  refine TQ.then_ ?_
  refine TC.ret ?_
  refine TQ.thenR ?_
  obtain rfl:=Option.some.inj h
  exact TQ.fin (.inl rfl) rfl Try.results81 (.tmp rfl .nil) rfl (FRel.mk (Ls:=[Blk b1 [.slice A2 a0_0.length c3,VP b6 0,.slice A10 a0_2.length c11,VI a0_3,VI a0_4,.slice A14 a0_5.length c15,VI a0_6,VI a0_7,VI a0_8,VI a0_9] 58,Blk b6 [.slice A7 a0_1_0.length c8,VI a0_1_1,VI a0_1_2] 89,Row kI 3 (.slice A7 a0_1_0.length c8) a0_1_0,Row kI 3 (.slice A14 a0_5.length c15) a0_5]) [0,1,2,3] 4 (Gd.le.refl _) rfl rfl rfl ⟨rfl,rfl,rfl⟩)
 ·
  refine TC.skip ?_
  refine TQ.then_ ?_
  refine TC.seq ?_
  refine TC.region ?_
  refine TV rfl rfl rfl (Val.move rfl) ?_
  refine TV rfl rfl rfl (Val.nilCheck rfl) ?_
  refine TV rfl rfl rfl (Val.fieldAddrB Try.underlying58 rfl fsz3 rfl rfl rfl) ?_
  refine TV rfl rfl rfl (Val.loadB 0 agg3 rfl rfl rfl) ?_
  refine TV rfl rfl rfl (Val.cmp rfl rfl run_sub) ?_
  refine TV rfl rfl rfl (Val.nilCheck rfl) ?_
  refine TV rfl rfl rfl (Val.fieldAddrB Try.underlying58 rfl fsz3 rfl rfl rfl) ?_
  refine TL.cons (TL.store 0 (ds:=[VI (IntKind.i64.wrap (a0_3 - 1))]) (cs':=[.slice A2 a0_0.length c3,VP b6 0,.slice A10 a0_2.length c11,VI (IntKind.i64.wrap (a0_3 - 1)),VI a0_4,.slice A14 a0_5.length c15,VI a0_6,VI a0_7,VI a0_8,VI a0_9]) (L':=(Blk b1 [.slice A2 a0_0.length c3,VP b6 0,.slice A10 a0_2.length c11,VI (IntKind.i64.wrap (a0_3 - 1)),VI a0_4,.slice A14 a0_5.length c15,VI a0_6,VI a0_7,VI a0_8,VI a0_9] 58::Blk b6 [.slice A7 a0_1_0.length c8,VI a0_1_1,VI a0_1_2] 89::Row kI 3 (.slice A7 a0_1_0.length c8) a0_1_0::Row kI 3 (.slice A14 a0_5.length c15) a0_5::L)) rfl fsz3 rfl rfl rfl rfl rfl (Nat.le_of_ble_eq_true rfl) rfl rfl ?_)
  refine TL.nil ?_
  refine TQ.then_ ?_
  refine TC.seq ?_
  refine TC.region ?_
  refine TV rfl rfl rfl (Val.assign rfl) ?_
  refine TL.nil ?_
  refine TQ.then_ ?_
  refine TC.ret ?_
  obtain rfl:=Option.some.inj h
  exact TQ.fin (.inl rfl) rfl Try.results81 (.tmp rfl .nil) rfl (FRel.mk (Ls:=[Blk b1 [.slice A2 a0_0.length c3,VP b6 0,.slice A10 a0_2.length c11,VI (IntKind.i64.wrap (a0_3 - 1)),VI a0_4,.slice A14 a0_5.length c15,VI a0_6,VI a0_7,VI a0_8,VI a0_9] 58,Blk b6 [.slice A7 a0_1_0.length c8,VI a0_1_1,VI a0_1_2] 89,Row kI 3 (.slice A7 a0_1_0.length c8) a0_1_0,Row kI 3 (.slice A14 a0_5.length c15) a0_5]) [0,1,2,3] 4 (Gd.le.refl _) rfl rfl rfl ⟨rfl,rfl,rfl⟩)
def trace_runner_read.f (a0_0:(List S45)) (a0_1_0:(List Int)) (a0_1_1:Int) (a0_1_2:Int) (a0_2:(List Int)) (a0_3:Int) (a0_4:Int) (a0_5:(List Int)) (a0_6:Int) (a0_7:Int) (a0_8:Int) (a0_9:Int):Option (Int × Int × (List Int)):=(if (a0_2.length:Int)=0 then some (0,10,a0_2) else (at? a0_2 0).bind fun y19=>(cut? a0_2 (1:Int) (a0_2.length:Int)).bind fun (y28:(List Int))=>some (y19,0,y28))
def trace_runner_read.post (G:Gd) (b1:Nat) (A2:Option Addr) (c3:Nat) (b6:Nat) (A7:Option Addr) (c8:Nat) (A10:Option Addr) (c11:Nat) (A14:Option Addr) (c15:Nat) (a0_0:(List S45)) (a0_1_0:(List Int)) (a0_1_1:Int) (a0_1_2:Int) (a0_2:(List Int)) (a0_3:Int) (a0_4:Int) (a0_5:(List Int)) (a0_6:Int) (a0_7:Int) (a0_8:Int) (a0_9:Int) (r:(Int × Int × (List Int))) (v:Value) (G':Gd) (Lr:List Ch):Prop:=G=G'∧∃ (A_s4:Option Addr) (c_s4:Nat),v=.tuple #[VI r.1,VI r.2.1]∧Lr=[Blk b1 [.slice A2 a0_0.length c3,VP b6 0,.slice A_s4 r.2.2.length c_s4,VI a0_3,VI a0_4,.slice A14 a0_5.length c15,VI a0_6,VI a0_7,VI a0_8,VI a0_9] 58,Blk b6 [.slice A7 a0_1_0.length c8,VI a0_1_1,VI a0_1_2] 89,Row kI 3 (.slice A7 a0_1_0.length c8) a0_1_0,Row kI 3 (.slice A14 a0_5.length c15) a0_5]∧Rd G' kI A_s4 r.2.2∧r.2.2.length ≤ c_s4
theorem trace_runner_read.calls {G:Gd} {r:(Int × Int × (List Int))} {a0_0:(List S45)} {a0_1_0:(List Int)} {a0_1_1:Int} {a0_1_2:Int} {a0_2:(List Int)} {a0_3:Int} {a0_4:Int} {a0_5:(List Int)} {a0_6:Int} {a0_7:Int} {a0_8:Int} {a0_9:Int} {b1:Nat} {A2:Option Addr} {c3:Nat} {b6:Nat} {A7:Option Addr} {c8:Nat} {A10:Option Addr} {c11:Nat} {A14:Option Addr} {c15:Nat} (hr4:Rd G k45 A2 a0_0) (hl5:a0_0.length ≤ c3) (hr12:Rd G kI A10 a0_2) (hl13:a0_2.length ≤ c11) (h:trace_runner_read.f a0_0 a0_1_0 a0_1_1 a0_1_2 a0_2 a0_3 a0_4 a0_5 a0_6 a0_7 a0_8 a0_9=some r):Fn Try.prog 106 G [Blk b1 [.slice A2 a0_0.length c3,VP b6 0,.slice A10 a0_2.length c11,VI a0_3,VI a0_4,.slice A14 a0_5.length c15,VI a0_6,VI a0_7,VI a0_8,VI a0_9] 58,Blk b6 [.slice A7 a0_1_0.length c8,VI a0_1_1,VI a0_1_2] 89,Row kI 3 (.slice A7 a0_1_0.length c8) a0_1_0,Row kI 3 (.slice A14 a0_5.length c15) a0_5] [VP b1 0] (trace_runner_read.post G b1 A2 c3 b6 A7 c8 A10 c11 A14 c15 a0_0 a0_1_0 a0_1_1 a0_1_2 a0_2 a0_3 a0_4 a0_5 a0_6 a0_7 a0_8 a0_9 r):=by
 refine Fn.intro (e:=[(0,VP b1 0)]) 26 Try.func106 rfl Try.ntmps106 rfl rfl (Nat.le_of_ble_eq_true rfl) (fun L=>?_)
 unfold trace_runner_read.f at h
 refine TC.seq ?_
 refine TC.region ?_
 refine TV rfl rfl rfl (Val.assign rfl) ?_
 refine TV rfl rfl rfl (Val.assign rfl) ?_
 refine TL.nil ?_
 refine TQ.then_ ?_
 refine TC.seq ?_
 refine TC.seq ?_
 refine TC.region ?_
 refine TV rfl rfl rfl (Val.move rfl) ?_
 refine TV rfl rfl rfl (Val.nilCheck rfl) ?_
 refine TV rfl rfl rfl (Val.fieldAddrB Try.underlying58 rfl fsz23 rfl rfl rfl) ?_
 refine TV rfl rfl rfl (Val.loadB 0 agg23 rfl rfl rfl) ?_
 refine TV rfl rfl rfl (Val.len Try.underlying23 rfl) ?_
 refine TV rfl rfl rfl (Val.cmp rfl rfl run_eql) ?_
 refine TL.nil ?_
 refine TQ.then_ ?_
 refine TC.cond_p rfl h (fun hc18 h=>?_) (fun hc18 h=>?_)
 ·
  refine TC.seq ?_
  refine TC.region ?_
  refine TV rfl rfl rfl (Val.assign rfl) ?_
  refine TV rfl rfl rfl (Val.assign rfl) ?_
  refine TL.nil ?_
  refine TQ.then_ ?_
  refine TC.ret ?_
  refine TQ.thenR ?_
  obtain rfl:=Option.some.inj h
  exact TQ.fin (.inl rfl) rfl Try.results106 (.tmp rfl (.tmp rfl .nil)) rfl (FRel.mk (Ls:=[Blk b1 [.slice A2 a0_0.length c3,VP b6 0,.slice A10 a0_2.length c11,VI a0_3,VI a0_4,.slice A14 a0_5.length c15,VI a0_6,VI a0_7,VI a0_8,VI a0_9] 58,Blk b6 [.slice A7 a0_1_0.length c8,VI a0_1_1,VI a0_1_2] 89,Row kI 3 (.slice A7 a0_1_0.length c8) a0_1_0,Row kI 3 (.slice A14 a0_5.length c15) a0_5]) [0,1,2,3] 4 (Gd.le.refl _) rfl rfl rfl ⟨rfl,A10,c11,rfl,rfl,hr12,hl13⟩)
 ·
  refine TC.skip ?_
  refine TQ.then_ ?_
  refine TC.seq ?_
  refine TC.region ?_
  refine TV rfl rfl rfl (Val.move rfl) ?_
  refine TV rfl rfl rfl (Val.nilCheck rfl) ?_
  refine TV rfl rfl rfl (Val.fieldAddrB Try.underlying58 rfl fsz23 rfl rfl rfl) ?_
  refine TV rfl rfl rfl (Val.loadB 0 agg23 rfl rfl rfl) ?_
  obtain ⟨y19,hx20,h⟩:=bind_no h
  obtain ⟨ad21,cs27,hA22,hi23,hj24,hcl25,hK26⟩:=Rd.at hr12 hx20
  obtain rfl:=RdK.int hK26
  refine TV rfl rfl rfl (Val.indexAddr Try.underlying23 fsz3 rfl hA22 rfl hi23 hj24) ?_
  refine TV rfl rfl rfl (Val.loadS agg3 rfl (hcl25 0 _ rfl)) ?_
  refine TV rfl rfl rfl (Val.assign rfl) ?_
  refine TL.nil ?_
  refine TQ.then_ ?_
  refine TC.seq ?_
  refine TC.region ?_
  refine TV rfl rfl rfl (Val.move rfl) ?_
  refine TV rfl rfl rfl (Val.move rfl) ?_
  refine TV rfl rfl rfl (Val.nilCheck rfl) ?_
  refine TV rfl rfl rfl (Val.fieldAddrB Try.underlying58 rfl fsz23 rfl rfl rfl) ?_
  refine TV rfl rfl rfl (Val.loadB 0 agg23 rfl rfl rfl) ?_
  obtain ⟨y28,hy29,h⟩:=bind_no h
  obtain ⟨hr30,hl31⟩:=Rd.cut hr12 hl13 hy29
  refine TV rfl rfl rfl (Val.cut Try.underlying23 fsz3 rfl rfl hl13 rfl rfl hy29) ?_
  refine TV rfl rfl rfl (Val.nilCheck rfl) ?_
  refine TV rfl rfl rfl (Val.fieldAddrB Try.underlying58 rfl fsz23 rfl rfl rfl) ?_
  refine TL.cons (TL.store 0 (ds:=[.slice (cutA A10 c11 (1:Int).toNat 1) y28.length (c11 - (1:Int).toNat)]) (cs':=[.slice A2 a0_0.length c3,VP b6 0,.slice (cutA A10 c11 (1:Int).toNat 1) y28.length (c11 - (1:Int).toNat),VI a0_3,VI a0_4,.slice A14 a0_5.length c15,VI a0_6,VI a0_7,VI a0_8,VI a0_9]) (L':=(Blk b1 [.slice A2 a0_0.length c3,VP b6 0,.slice (cutA A10 c11 (1:Int).toNat 1) y28.length (c11 - (1:Int).toNat),VI a0_3,VI a0_4,.slice A14 a0_5.length c15,VI a0_6,VI a0_7,VI a0_8,VI a0_9] 58::Blk b6 [.slice A7 a0_1_0.length c8,VI a0_1_1,VI a0_1_2] 89::Row kI 3 (.slice A7 a0_1_0.length c8) a0_1_0::Row kI 3 (.slice A14 a0_5.length c15) a0_5::L)) rfl fsz23 rfl rfl rfl rfl rfl (Nat.le_of_ble_eq_true rfl) rfl rfl ?_)
  refine TL.nil ?_
  refine TQ.then_ ?_
  refine TC.seq ?_
  refine TC.region ?_
  refine TV rfl rfl rfl (Val.move rfl) ?_
  refine TV rfl rfl rfl (Val.assign rfl) ?_
  refine TV rfl rfl rfl (Val.assign rfl) ?_
  refine TL.nil ?_
  refine TQ.then_ ?_
  refine TC.ret ?_
  obtain rfl:=Option.some.inj h
  exact TQ.fin (.inl rfl) rfl Try.results106 (.tmp rfl (.tmp rfl .nil)) rfl (FRel.mk (Ls:=[Blk b1 [.slice A2 a0_0.length c3,VP b6 0,.slice (cutA A10 c11 (1:Int).toNat 1) y28.length (c11 - (1:Int).toNat),VI a0_3,VI a0_4,.slice A14 a0_5.length c15,VI a0_6,VI a0_7,VI a0_8,VI a0_9] 58,Blk b6 [.slice A7 a0_1_0.length c8,VI a0_1_1,VI a0_1_2] 89,Row kI 3 (.slice A7 a0_1_0.length c8) a0_1_0,Row kI 3 (.slice A14 a0_5.length c15) a0_5]) [0,1,2,3] 4 (Gd.le.refl _) rfl rfl rfl ⟨rfl,(cutA A10 c11 (1:Int).toNat 1),(c11 - (1:Int).toNat),rfl,rfl,hr30,hl31⟩)
def memory_Memory_there.f (a0_0:(List Int)) (a0_1:Int) (a0_2:Int) (a1:Int):Option Bool:=(if 1 ≤ a1 then (if a1 < a0_1 then some true else (if a0_2 ≤ a1 then some (decide (a1 < (a0_0.length:Int))) else some false)) else (if a0_2 ≤ a1 then some (decide (a1 < (a0_0.length:Int))) else some false))
def memory_Memory_there.post (G:Gd) (b1:Nat) (A2:Option Addr) (c3:Nat) (a0_0:(List Int)) (a0_1:Int) (a0_2:Int) (a1:Int) (r:Bool) (v:Value) (G':Gd) (Lr:List Ch):Prop:=G=G'∧v=.bool r∧Lr=[Blk b1 [.slice A2 a0_0.length c3,VI a0_1,VI a0_2] 89,Row kI 3 (.slice A2 a0_0.length c3) a0_0]
theorem memory_Memory_there.calls {G:Gd} {r:Bool} {a0_0:(List Int)} {a0_1:Int} {a0_2:Int} {a1:Int} {b1:Nat} {A2:Option Addr} {c3:Nat} (h:memory_Memory_there.f a0_0 a0_1 a0_2 a1=some r):Fn Try.prog 126 G [Blk b1 [.slice A2 a0_0.length c3,VI a0_1,VI a0_2] 89,Row kI 3 (.slice A2 a0_0.length c3) a0_0] [VP b1 0,VI a1] (memory_Memory_there.post G b1 A2 c3 a0_0 a0_1 a0_2 a1 r):=by
 refine Fn.intro (e:=[(0,VP b1 0),(1,VI a1)]) 32 Try.func126 rfl Try.ntmps126 rfl rfl (Nat.le_of_ble_eq_true rfl) (fun L=>?_)
 unfold memory_Memory_there.f at h
 refine TC.seq ?_
 refine TC.region ?_
 refine TV rfl rfl rfl (Val.assign rfl) ?_
 refine TL.nil ?_
 refine TQ.then_ ?_
 refine TC.seq ?_
 refine TC.region ?_
 refine TV rfl rfl rfl (Val.move rfl) ?_
 refine TV rfl rfl rfl (Val.cmp rfl rfl run_geq) ?_
 refine TV rfl rfl rfl (Val.move rfl) ?_
 refine TK.split (p:=1 ≤ a1) h (fun hg17 h=>?_) (fun hg17 h=>?_)
 ·
  have hk18:decide (1 ≤ a1)=true:=decide_eq_true hg17
  refine TV (Wt.yes rfl rfl rfl hk18) rfl rfl (Val.move rfl) ?_
  refine TV (Wt.yes rfl rfl rfl hk18) rfl rfl (Val.move rfl) ?_
  refine TV (Wt.yes rfl rfl rfl hk18) rfl rfl (Val.nilCheck rfl) ?_
  refine TV (Wt.yes rfl rfl rfl hk18) rfl rfl (Val.fieldAddrB Try.underlying89 rfl fsz3 rfl rfl rfl) ?_
  refine TV (Wt.yes rfl rfl rfl hk18) rfl rfl (Val.loadB 0 agg3 rfl rfl rfl) ?_
  refine TV (Wt.yes rfl rfl rfl hk18) rfl rfl (Val.cmp rfl rfl run_lss) ?_
  refine TV rfl rfl rfl (Val.pickY rfl hk18 rfl) ?_
  refine TV rfl rfl rfl (Val.move rfl) ?_
  refine TK.split (p:=a1 < a0_1) h (fun hg19 h=>?_) (fun hg19 h=>?_)
  ·
   have hk20:decide (a1 < a0_1)=true:=decide_eq_true hg19
   refine TL.cons (TL.not (Wt.no rfl rfl rfl hk20) rfl ?_)
   refine TL.cons (TL.not (Wt.no rfl rfl rfl hk20) rfl ?_)
   refine TL.cons (TL.not (Wt.no rfl rfl rfl hk20) rfl ?_)
   refine TL.cons (TL.not (Wt.no rfl rfl rfl hk20) rfl ?_)
   refine TL.cons (TL.not (Wt.no rfl rfl rfl hk20) rfl ?_)
   refine TL.cons (TL.not (Wt.no rfl rfl rfl hk20) rfl ?_)
   refine TL.cons (TL.not (Wt.no rfl rfl rfl hk20) rfl ?_)
   refine TL.cons (TL.not rfl rfl ?_)
   refine TL.cons (TL.not rfl rfl ?_)
   refine TL.cons (TL.not rfl rfl ?_)
   refine TL.cons (TL.not rfl rfl ?_)
   refine TL.cons (TL.not rfl rfl ?_)
   refine TL.cons (TL.not rfl rfl ?_)
   refine TL.cons (TL.not rfl rfl ?_)
   refine TL.cons (TL.not (Wt.no rfl rfl rfl hk20) rfl ?_)
   refine TV rfl rfl rfl (Val.pickY rfl hk20 rfl) ?_
   refine TV rfl rfl rfl (Val.assign rfl) ?_
   refine TL.nil ?_
   refine TQ.then_ ?_
   refine TC.ret ?_
   obtain rfl:=Option.some.inj h
   exact TQ.fin (.inl rfl) rfl Try.results126 (.tmp rfl .nil) rfl (FRel.mk (Ls:=[Blk b1 [.slice A2 a0_0.length c3,VI a0_1,VI a0_2] 89,Row kI 3 (.slice A2 a0_0.length c3) a0_0]) [0,1] 2 (Gd.le.refl _) rfl rfl rfl ⟨rfl,rfl,rfl⟩)
  ·
   have hk21:decide (a1 < a0_1)=false:=decide_eq_false hg19
   refine TV (Wt.yes rfl rfl rfl hk21) rfl rfl (Val.move rfl) ?_
   refine TV (Wt.yes rfl rfl rfl hk21) rfl rfl (Val.move rfl) ?_
   refine TV (Wt.yes rfl rfl rfl hk21) rfl rfl (Val.nilCheck rfl) ?_
   refine TV (Wt.yes rfl rfl rfl hk21) rfl rfl (Val.fieldAddrB Try.underlying89 rfl fsz3 rfl rfl rfl) ?_
   refine TV (Wt.yes rfl rfl rfl hk21) rfl rfl (Val.loadB 0 agg3 rfl rfl rfl) ?_
   refine TV (Wt.yes rfl rfl rfl hk21) rfl rfl (Val.cmp rfl rfl run_geq) ?_
   refine TV (Wt.yes rfl rfl rfl hk21) rfl rfl (Val.move rfl) ?_
   refine TK.split (p:=a0_2 ≤ a1) h (fun hg22 h=>?_) (fun hg22 h=>?_)
   ·
    have hk23:decide (a0_2 ≤ a1)=true:=decide_eq_true hg22
    refine TV (Wt.yes rfl rfl rfl hk23) rfl rfl (Val.move rfl) ?_
    refine TV (Wt.yes rfl rfl rfl hk23) rfl rfl (Val.move rfl) ?_
    refine TV (Wt.yes rfl rfl rfl hk23) rfl rfl (Val.nilCheck rfl) ?_
    refine TV (Wt.yes rfl rfl rfl hk23) rfl rfl (Val.fieldAddrB Try.underlying89 rfl fsz23 rfl rfl rfl) ?_
    refine TV (Wt.yes rfl rfl rfl hk23) rfl rfl (Val.loadB 0 agg23 rfl rfl rfl) ?_
    refine TV (Wt.yes rfl rfl rfl hk23) rfl rfl (Val.len Try.underlying23 rfl) ?_
    refine TV (Wt.yes rfl rfl rfl hk23) rfl rfl (Val.cmp rfl rfl run_lss) ?_
    refine TV (Wt.yes rfl rfl rfl hk21) rfl rfl (Val.pickY rfl hk23 rfl) ?_
    refine TV rfl rfl rfl (Val.pickN rfl hk21 rfl) ?_
    refine TV rfl rfl rfl (Val.assign rfl) ?_
    refine TL.nil ?_
    refine TQ.then_ ?_
    refine TC.ret ?_
    obtain rfl:=Option.some.inj h
    exact TQ.fin (.inl rfl) rfl Try.results126 (.tmp rfl .nil) rfl (FRel.mk (Ls:=[Blk b1 [.slice A2 a0_0.length c3,VI a0_1,VI a0_2] 89,Row kI 3 (.slice A2 a0_0.length c3) a0_0]) [0,1] 2 (Gd.le.refl _) rfl rfl rfl ⟨rfl,rfl,rfl⟩)
   ·
    have hk24:decide (a0_2 ≤ a1)=false:=decide_eq_false hg22
    refine TL.cons (TL.not (Wt.no rfl rfl rfl hk24) rfl ?_)
    refine TL.cons (TL.not (Wt.no rfl rfl rfl hk24) rfl ?_)
    refine TL.cons (TL.not (Wt.no rfl rfl rfl hk24) rfl ?_)
    refine TL.cons (TL.not (Wt.no rfl rfl rfl hk24) rfl ?_)
    refine TL.cons (TL.not (Wt.no rfl rfl rfl hk24) rfl ?_)
    refine TL.cons (TL.not (Wt.no rfl rfl rfl hk24) rfl ?_)
    refine TL.cons (TL.not (Wt.no rfl rfl rfl hk24) rfl ?_)
    refine TV (Wt.yes rfl rfl rfl hk21) rfl rfl (Val.pickN rfl hk24 rfl) ?_
    refine TV rfl rfl rfl (Val.pickN rfl hk21 rfl) ?_
    refine TV rfl rfl rfl (Val.assign rfl) ?_
    refine TL.nil ?_
    refine TQ.then_ ?_
    refine TC.ret ?_
    obtain rfl:=Option.some.inj h
    exact TQ.fin (.inl rfl) rfl Try.results126 (.tmp rfl .nil) rfl (FRel.mk (Ls:=[Blk b1 [.slice A2 a0_0.length c3,VI a0_1,VI a0_2] 89,Row kI 3 (.slice A2 a0_0.length c3) a0_0]) [0,1] 2 (Gd.le.refl _) rfl rfl rfl ⟨rfl,rfl,rfl⟩)
 ·
  have hk25:decide (1 ≤ a1)=false:=decide_eq_false hg17
  refine TL.cons (TL.not (Wt.no rfl rfl rfl hk25) rfl ?_)
  refine TL.cons (TL.not (Wt.no rfl rfl rfl hk25) rfl ?_)
  refine TL.cons (TL.not (Wt.no rfl rfl rfl hk25) rfl ?_)
  refine TL.cons (TL.not (Wt.no rfl rfl rfl hk25) rfl ?_)
  refine TL.cons (TL.not (Wt.no rfl rfl rfl hk25) rfl ?_)
  refine TL.cons (TL.not (Wt.no rfl rfl rfl hk25) rfl ?_)
  refine TV rfl rfl rfl (Val.pickN rfl hk25 rfl) ?_
  refine TV rfl rfl rfl (Val.move rfl) ?_
  refine TV (Wt.yes rfl rfl rfl rfl) rfl rfl (Val.move rfl) ?_
  refine TV (Wt.yes rfl rfl rfl rfl) rfl rfl (Val.move rfl) ?_
  refine TV (Wt.yes rfl rfl rfl rfl) rfl rfl (Val.nilCheck rfl) ?_
  refine TV (Wt.yes rfl rfl rfl rfl) rfl rfl (Val.fieldAddrB Try.underlying89 rfl fsz3 rfl rfl rfl) ?_
  refine TV (Wt.yes rfl rfl rfl rfl) rfl rfl (Val.loadB 0 agg3 rfl rfl rfl) ?_
  refine TV (Wt.yes rfl rfl rfl rfl) rfl rfl (Val.cmp rfl rfl run_geq) ?_
  refine TV (Wt.yes rfl rfl rfl rfl) rfl rfl (Val.move rfl) ?_
  refine TK.split (p:=a0_2 ≤ a1) h (fun hg26 h=>?_) (fun hg26 h=>?_)
  ·
   have hk27:decide (a0_2 ≤ a1)=true:=decide_eq_true hg26
   refine TV (Wt.yes rfl rfl rfl hk27) rfl rfl (Val.move rfl) ?_
   refine TV (Wt.yes rfl rfl rfl hk27) rfl rfl (Val.move rfl) ?_
   refine TV (Wt.yes rfl rfl rfl hk27) rfl rfl (Val.nilCheck rfl) ?_
   refine TV (Wt.yes rfl rfl rfl hk27) rfl rfl (Val.fieldAddrB Try.underlying89 rfl fsz23 rfl rfl rfl) ?_
   refine TV (Wt.yes rfl rfl rfl hk27) rfl rfl (Val.loadB 0 agg23 rfl rfl rfl) ?_
   refine TV (Wt.yes rfl rfl rfl hk27) rfl rfl (Val.len Try.underlying23 rfl) ?_
   refine TV (Wt.yes rfl rfl rfl hk27) rfl rfl (Val.cmp rfl rfl run_lss) ?_
   refine TV (Wt.yes rfl rfl rfl rfl) rfl rfl (Val.pickY rfl hk27 rfl) ?_
   refine TV rfl rfl rfl (Val.pickN rfl rfl rfl) ?_
   refine TV rfl rfl rfl (Val.assign rfl) ?_
   refine TL.nil ?_
   refine TQ.then_ ?_
   refine TC.ret ?_
   obtain rfl:=Option.some.inj h
   exact TQ.fin (.inl rfl) rfl Try.results126 (.tmp rfl .nil) rfl (FRel.mk (Ls:=[Blk b1 [.slice A2 a0_0.length c3,VI a0_1,VI a0_2] 89,Row kI 3 (.slice A2 a0_0.length c3) a0_0]) [0,1] 2 (Gd.le.refl _) rfl rfl rfl ⟨rfl,rfl,rfl⟩)
  ·
   have hk28:decide (a0_2 ≤ a1)=false:=decide_eq_false hg26
   refine TL.cons (TL.not (Wt.no rfl rfl rfl hk28) rfl ?_)
   refine TL.cons (TL.not (Wt.no rfl rfl rfl hk28) rfl ?_)
   refine TL.cons (TL.not (Wt.no rfl rfl rfl hk28) rfl ?_)
   refine TL.cons (TL.not (Wt.no rfl rfl rfl hk28) rfl ?_)
   refine TL.cons (TL.not (Wt.no rfl rfl rfl hk28) rfl ?_)
   refine TL.cons (TL.not (Wt.no rfl rfl rfl hk28) rfl ?_)
   refine TL.cons (TL.not (Wt.no rfl rfl rfl hk28) rfl ?_)
   refine TV (Wt.yes rfl rfl rfl rfl) rfl rfl (Val.pickN rfl hk28 rfl) ?_
   refine TV rfl rfl rfl (Val.pickN rfl rfl rfl) ?_
   refine TV rfl rfl rfl (Val.assign rfl) ?_
   refine TL.nil ?_
   refine TQ.then_ ?_
   refine TC.ret ?_
   obtain rfl:=Option.some.inj h
   exact TQ.fin (.inl rfl) rfl Try.results126 (.tmp rfl .nil) rfl (FRel.mk (Ls:=[Blk b1 [.slice A2 a0_0.length c3,VI a0_1,VI a0_2] 89,Row kI 3 (.slice A2 a0_0.length c3) a0_0]) [0,1] 2 (Gd.le.refl _) rfl rfl rfl ⟨rfl,rfl,rfl⟩)
def memory_Memory_Load.f (a0_0:(List Int)) (a0_1:Int) (a0_2:Int) (a1:Int):Option (Int × Int):=(memory_Memory_there.f a0_0 a0_1 a0_2 a1).bind fun (y5:Bool)=>(if (!y5)=true then some (0,7) else (at? a0_0 a1).bind fun y15=>some (y15,0))
def memory_Memory_Load.post (G:Gd) (b1:Nat) (A2:Option Addr) (c3:Nat) (a0_0:(List Int)) (a0_1:Int) (a0_2:Int) (a1:Int) (r:(Int × Int)) (v:Value) (G':Gd) (Lr:List Ch):Prop:=G=G'∧v=.tuple #[VI r.1,VI r.2]∧Lr=[Blk b1 [.slice A2 a0_0.length c3,VI a0_1,VI a0_2] 89,Row kI 3 (.slice A2 a0_0.length c3) a0_0]
theorem memory_Memory_Load.calls {G:Gd} {r:(Int × Int)} {a0_0:(List Int)} {a0_1:Int} {a0_2:Int} {a1:Int} {b1:Nat} {A2:Option Addr} {c3:Nat} (h:memory_Memory_Load.f a0_0 a0_1 a0_2 a1=some r):Fn Try.prog 123 G [Blk b1 [.slice A2 a0_0.length c3,VI a0_1,VI a0_2] 89,Row kI 3 (.slice A2 a0_0.length c3) a0_0] [VP b1 0,VI a1] (memory_Memory_Load.post G b1 A2 c3 a0_0 a0_1 a0_2 a1 r):=by
 refine Fn.intro (e:=[(0,VP b1 0),(1,VI a1)]) 17 Try.func123 rfl Try.ntmps123 rfl rfl (Nat.le_of_ble_eq_true rfl) (fun L=>?_)
 unfold memory_Memory_Load.f at h
 refine TC.seq ?_
 refine TC.region ?_
 refine TV rfl rfl rfl (Val.assign rfl) ?_
 refine TV rfl rfl rfl (Val.assign rfl) ?_
 refine TL.nil ?_
 refine TQ.then_ ?_
 refine TC.seq ?_
 refine TC.seq ?_
 refine TC.region ?_
 refine TV rfl rfl rfl (Val.move rfl) ?_
 refine TV rfl rfl rfl (Val.move rfl) ?_
 obtain ⟨y5,hy6,h⟩:=bind_no h
 refine TL.cons (TL.callV (Lin:=[Blk b1 [.slice A2 a0_0.length c3,VI a0_1,VI a0_2] 89,Row kI 3 (.slice A2 a0_0.length c3) a0_0]) (args:=[VP b1 0,VI a1]) rfl rfl rfl hbd126 rfl rfl (memory_Memory_there.calls (a0_0:=a0_0) (a0_1:=a0_1) (a0_2:=a0_2) (a1:=a1) hy6) rfl ?_)
 rintro _ _ _ _ ⟨rfl,rfl,rfl⟩
 refine TV rfl rfl rfl (Val.not_ rfl) ?_
 refine TL.nil ?_
 refine TQ.then_ ?_
 refine TC.cond_b rfl h (fun hc8 h=>?_) (fun hc8 h=>?_)
 ·
  refine TC.seq ?_
  refine TC.region ?_
  refine TV rfl rfl rfl (Val.assign rfl) ?_
  refine TV rfl rfl rfl (Val.assign rfl) ?_
  refine TL.nil ?_
  refine TQ.then_ ?_
  refine TC.ret ?_
  refine TQ.thenR ?_
  obtain rfl:=Option.some.inj h
  exact TQ.fin (.inl rfl) rfl Try.results123 (.tmp rfl (.tmp rfl .nil)) rfl (FRel.mk (Ls:=[Blk b1 [.slice A2 a0_0.length c3,VI a0_1,VI a0_2] 89,Row kI 3 (.slice A2 a0_0.length c3) a0_0]) [0,1] 2 (Gd.le.refl _) rfl rfl rfl ⟨rfl,rfl,rfl⟩)
 ·
  refine TC.skip ?_
  refine TQ.then_ ?_
  refine TC.seq ?_
  refine TC.region ?_
  refine TV rfl rfl rfl (Val.move rfl) ?_
  refine TV rfl rfl rfl (Val.nilCheck rfl) ?_
  refine TV rfl rfl rfl (Val.fieldAddrB Try.underlying89 rfl fsz23 rfl rfl rfl) ?_
  refine TV rfl rfl rfl (Val.loadB 0 agg23 rfl rfl rfl) ?_
  refine TV rfl rfl rfl (Val.move rfl) ?_
  refine TK.sel (Ls:=[Row kI 3 (.slice A2 a0_0.length c3) a0_0,Blk b1 [.slice A2 a0_0.length c3,VI a0_1,VI a0_2] 89]) [1,0] 2 rfl rfl rfl ?_
  refine TK.share (fun G9 e10 hs11 hb12=>?_)
  have rd13:Rd G9 kI A2 a0_0:=Rd.row hs11
  have le14:a0_0.length ≤ c3:=Row.le hs11
  obtain ⟨y15,hx16,h⟩:=bind_no h
  obtain ⟨ad17,cs23,hA18,hi19,hj20,hcl21,hK22⟩:=Rd.at rd13 hx16
  obtain rfl:=RdK.int hK22
  refine TV rfl rfl rfl (Val.indexAddr Try.underlying23 fsz3 rfl hA18 rfl hi19 hj20) ?_
  refine TV rfl rfl rfl (Val.loadS agg3 rfl (hcl21 0 _ rfl)) ?_
  refine TV rfl rfl rfl (Val.assign rfl) ?_
  refine TV rfl rfl rfl (Val.assign rfl) ?_
  refine TL.nil ?_
  refine TQ.then_ ?_
  refine TC.ret ?_
  refine TQ.back hb12 ?_
  obtain rfl:=Option.some.inj h
  exact TQ.fin (.inl rfl) rfl Try.results123 (.tmp rfl (.tmp rfl .nil)) rfl (FRel.mk (Ls:=[Blk b1 [.slice A2 a0_0.length c3,VI a0_1,VI a0_2] 89,Row kI 3 (.slice A2 a0_0.length c3) a0_0]) [1,0] 2 (Gd.le.refl _) rfl rfl rfl ⟨rfl,rfl,rfl⟩)
def memory_Memory_Store.f (a0_0:(List Int)) (a0_1:Int) (a0_2:Int) (a1:Int) (a2:Int):Option (Int × (List Int)):=(memory_Memory_there.f a0_0 a0_1 a0_2 a1).bind fun (y5:Bool)=>(if (!y5)=true then some (7,a0_0) else (at? a0_0 a1).bind fun y9=>some (0,(a0_0.set a1.toNat a2)))
def memory_Memory_Store.post (G:Gd) (b1:Nat) (A2:Option Addr) (c3:Nat) (a0_0:(List Int)) (a0_1:Int) (a0_2:Int) (a1:Int) (a2:Int) (r:(Int × (List Int))) (v:Value) (G':Gd) (Lr:List Ch):Prop:=G=G'∧∃ (A_s0:Option Addr) (c_s0:Nat),v=VI r.1∧Lr=[Blk b1 [.slice A_s0 r.2.length c_s0,VI a0_1,VI a0_2] 89,Row kI 3 (.slice A_s0 r.2.length c_s0) r.2]
theorem memory_Memory_Store.calls {G:Gd} {r:(Int × (List Int))} {a0_0:(List Int)} {a0_1:Int} {a0_2:Int} {a1:Int} {a2:Int} {b1:Nat} {A2:Option Addr} {c3:Nat} (h:memory_Memory_Store.f a0_0 a0_1 a0_2 a1 a2=some r):Fn Try.prog 124 G [Blk b1 [.slice A2 a0_0.length c3,VI a0_1,VI a0_2] 89,Row kI 3 (.slice A2 a0_0.length c3) a0_0] [VP b1 0,VI a1,VI a2] (memory_Memory_Store.post G b1 A2 c3 a0_0 a0_1 a0_2 a1 a2 r):=by
 refine Fn.intro (e:=[(0,VP b1 0),(1,VI a1),(2,VI a2)]) 18 Try.func124 rfl Try.ntmps124 rfl rfl (Nat.le_of_ble_eq_true rfl) (fun L=>?_)
 unfold memory_Memory_Store.f at h
 refine TC.seq ?_
 refine TC.region ?_
 refine TV rfl rfl rfl (Val.assign rfl) ?_
 refine TL.nil ?_
 refine TQ.then_ ?_
 refine TC.seq ?_
 refine TC.seq ?_
 refine TC.region ?_
 refine TV rfl rfl rfl (Val.move rfl) ?_
 refine TV rfl rfl rfl (Val.move rfl) ?_
 obtain ⟨y5,hy6,h⟩:=bind_no h
 refine TL.cons (TL.callV (Lin:=[Blk b1 [.slice A2 a0_0.length c3,VI a0_1,VI a0_2] 89,Row kI 3 (.slice A2 a0_0.length c3) a0_0]) (args:=[VP b1 0,VI a1]) rfl rfl rfl hbd126 rfl rfl (memory_Memory_there.calls (a0_0:=a0_0) (a0_1:=a0_1) (a0_2:=a0_2) (a1:=a1) hy6) rfl ?_)
 rintro _ _ _ _ ⟨rfl,rfl,rfl⟩
 refine TV rfl rfl rfl (Val.not_ rfl) ?_
 refine TL.nil ?_
 refine TQ.then_ ?_
 refine TC.cond_b rfl h (fun hc8 h=>?_) (fun hc8 h=>?_)
 ·
  refine TC.seq ?_
  refine TC.region ?_
  refine TV rfl rfl rfl (Val.assign rfl) ?_
  refine TL.nil ?_
  refine TQ.then_ ?_
  refine TC.ret ?_
  refine TQ.thenR ?_
  obtain rfl:=Option.some.inj h
  exact TQ.fin (.inl rfl) rfl Try.results124 (.tmp rfl .nil) rfl (FRel.mk (Ls:=[Blk b1 [.slice A2 a0_0.length c3,VI a0_1,VI a0_2] 89,Row kI 3 (.slice A2 a0_0.length c3) a0_0]) [0,1] 2 (Gd.le.refl _) rfl rfl rfl ⟨rfl,A2,c3,rfl,rfl⟩)
 ·
  refine TC.skip ?_
  refine TQ.then_ ?_
  refine TC.seq ?_
  refine TC.region ?_
  refine TV rfl rfl rfl (Val.move rfl) ?_
  refine TV rfl rfl rfl (Val.nilCheck rfl) ?_
  refine TV rfl rfl rfl (Val.fieldAddrB Try.underlying89 rfl fsz23 rfl rfl rfl) ?_
  refine TV rfl rfl rfl (Val.loadB 0 agg23 rfl rfl rfl) ?_
  refine TV rfl rfl rfl (Val.move rfl) ?_
  refine TV rfl rfl rfl (Val.move rfl) ?_
  obtain ⟨y9,hy10,h⟩:=bind_no h
  refine TK.opened 1 rfl hy10 (fun b11 hA12 hi13 hj14=>?_)
  refine TV rfl rfl rfl (Val.indexAddrW Try.underlying23 fsz3 rfl hA12 rfl hi13 hj14) ?_
  refine TK.new (El.of (k:=kI) (xv:=a2) (cs:=[VI a2]) (fun W B=>rfl)) ?_
  refine TK.sel (Ls:=[Row kI 3 (.slice A2 a0_0.length c3) a0_0,El kI a2 [VI a2],Blk b1 [.slice A2 a0_0.length c3,VI a0_1,VI a0_2] 89]) [2,0,1] 3 rfl rfl rfl ?_
  refine TL.cons (TL.storeE kI (xs:=a0_0) (xv:=a2) (ds:=[VI a2]) rfl fsz3 hA12 hy10 rfl rfl rfl rfl (Nat.le_of_ble_eq_true rfl) (wholeM rfl) ?_)
  rw [show (a0_0.length:Nat)=(a0_0.set a1.toNat a2).length from by simp only [List.length_set]]
  refine TL.nil ?_
  refine TQ.then_ ?_
  refine TC.seq ?_
  refine TC.region ?_
  refine TV rfl rfl rfl (Val.assign rfl) ?_
  refine TL.nil ?_
  refine TQ.then_ ?_
  refine TC.ret ?_
  obtain rfl:=Option.some.inj h
  exact TQ.fin (.inl rfl) rfl Try.results124 (.tmp rfl .nil) rfl (FRel.mk (Ls:=[Blk b1 [.slice A2 (a0_0.set a1.toNat a2).length c3,VI a0_1,VI a0_2] 89,Row kI 3 (.slice A2 (a0_0.set a1.toNat a2).length c3) (a0_0.set a1.toNat a2)]) [1,0] 2 (Gd.le.refl _) rfl rfl rfl ⟨rfl,A2,c3,rfl,rfl⟩)
def memory_Memory_Alloc.f (a0_0:(List Int)) (a0_1:Int) (a0_2:Int) (a1:Int):Option (Int × Int × (List Int) × Int):=(if a1 < 0 then some (0,1,a0_0,a0_1) else (if (IntKind.i64.wrap (a0_2 - a0_1)) < a1 then some (0,9,a0_0,a0_1) else (if 0 ≤ a0_1∧a0_1 ≤ (IntKind.i64.wrap (a0_1 + a1))∧(IntKind.i64.wrap (a0_1 + a1)) ≤ (a0_0.length:Int) then (some (clrL a0_0 a0_1 (IntKind.i64.wrap (a0_1 + a1)))).bind fun (y20:List Int)=>some (a0_1,0,y20,IntKind.i64.wrap (a0_1 + a1)) else none)))
def memory_Memory_Alloc.post (G:Gd) (b1:Nat) (A2:Option Addr) (c3:Nat) (a0_0:(List Int)) (a0_1:Int) (a0_2:Int) (a1:Int) (r:(Int × Int × (List Int) × Int)) (v:Value) (G':Gd) (Lr:List Ch):Prop:=G=G'∧∃ (A_s0:Option Addr) (c_s0:Nat),v=.tuple #[VI r.1,VI r.2.1]∧Lr=[Blk b1 [.slice A_s0 r.2.2.1.length c_s0,VI r.2.2.2,VI a0_2] 89,Row kI 3 (.slice A_s0 r.2.2.1.length c_s0) r.2.2.1]
theorem memory_Memory_Alloc.calls {G:Gd} {r:(Int × Int × (List Int) × Int)} {a0_0:(List Int)} {a0_1:Int} {a0_2:Int} {a1:Int} {b1:Nat} {A2:Option Addr} {c3:Nat} (h:memory_Memory_Alloc.f a0_0 a0_1 a0_2 a1=some r):Fn Try.prog 125 G [Blk b1 [.slice A2 a0_0.length c3,VI a0_1,VI a0_2] 89,Row kI 3 (.slice A2 a0_0.length c3) a0_0] [VP b1 0,VI a1] (memory_Memory_Alloc.post G b1 A2 c3 a0_0 a0_1 a0_2 a1 r):=by
 refine Fn.intro (e:=[(0,VP b1 0),(1,VI a1)]) 45 Try.func125 rfl Try.ntmps125 rfl rfl (Nat.le_of_ble_eq_true rfl) (fun L=>?_)
 unfold memory_Memory_Alloc.f at h
 refine TC.seq ?_
 refine TC.region ?_
 refine TV rfl rfl rfl (Val.assign rfl) ?_
 refine TV rfl rfl rfl (Val.assign rfl) ?_
 refine TL.nil ?_
 refine TQ.then_ ?_
 refine TC.seq ?_
 refine TC.block ?_
 refine TC.seq ?_
 refine TC.region ?_
 refine TV rfl rfl rfl (Val.move rfl) ?_
 refine TV rfl rfl rfl (Val.cmp rfl rfl run_lss) ?_
 refine TV rfl rfl rfl (Val.assign rfl) ?_
 refine TL.nil ?_
 refine TQ.then_ ?_
 refine TC.cond_p rfl h (fun hc12 h=>?_) (fun hc12 h=>?_)
 ·
  refine TC.seq ?_
  refine TC.region ?_
  refine TV rfl rfl rfl (Val.assign rfl) ?_
  refine TV rfl rfl rfl (Val.assign rfl) ?_
  refine TL.nil ?_
  refine TQ.then_ ?_
  refine TC.ret ?_
  refine TQ.inBR ?_
  refine TQ.thenR ?_
  obtain rfl:=Option.some.inj h
  exact TQ.fin (.inl rfl) rfl Try.results125 (.tmp rfl (.tmp rfl .nil)) rfl (FRel.mk (Ls:=[Blk b1 [.slice A2 a0_0.length c3,VI a0_1,VI a0_2] 89,Row kI 3 (.slice A2 a0_0.length c3) a0_0]) [0,1] 2 (Gd.le.refl _) rfl rfl rfl ⟨rfl,A2,c3,rfl,rfl⟩)
 ·
  refine TC.seq ?_
  refine TC.regionAny [] [0,1,2,3,4,5,6,7,8,9,10,11] mixed (by kernel_rfl) ?_
  refine TA.take 0 rfl (by kernel_rfl) rfl (PQ.then_ (PQ.inB (PQ.then_ PQ.body))) rfl (Val.move rfl) (fun W hO=>hO) ?_
  refine TA.take 1 rfl (by kernel_rfl) rfl (PQ.then_ (PQ.inB (PQ.then_ PQ.body))) rfl (Val.move rfl) (fun W hO=>hO) ?_
  refine TA.take 2 rfl (by kernel_rfl) rfl (PQ.then_ (PQ.inB (PQ.then_ PQ.body))) rfl (Val.nilCheck rfl) (fun W hO=>hO) ?_
  refine TA.take 3 rfl (by kernel_rfl) rfl (PQ.then_ (PQ.inB (PQ.then_ PQ.body))) rfl (Val.fieldAddrB Try.underlying89 rfl fsz3 rfl rfl rfl) (fun W hO=>hO) ?_
  refine TA.take 4 rfl (by kernel_rfl) rfl (PQ.then_ (PQ.inB (PQ.then_ PQ.body))) rfl (Val.loadB 0 agg3 rfl rfl rfl) (fun W hO=>hO) ?_
  refine TA.take 5 rfl (by kernel_rfl) rfl (PQ.then_ (PQ.inB (PQ.then_ PQ.body))) rfl (Val.move rfl) (fun W hO=>hO) ?_
  refine TA.take 6 rfl (by kernel_rfl) rfl (PQ.then_ (PQ.inB (PQ.then_ PQ.body))) rfl (Val.nilCheck rfl) (fun W hO=>hO) ?_
  refine TA.take 7 rfl (by kernel_rfl) rfl (PQ.then_ (PQ.inB (PQ.then_ PQ.body))) rfl (Val.fieldAddrB Try.underlying89 rfl fsz3 rfl rfl rfl) (fun W hO=>hO) ?_
  refine TA.take 8 rfl (by kernel_rfl) rfl (PQ.then_ (PQ.inB (PQ.then_ PQ.body))) rfl (Val.loadB 0 agg3 rfl rfl rfl) (fun W hO=>hO) ?_
  refine TA.take 9 rfl (by kernel_rfl) rfl (PQ.then_ (PQ.inB (PQ.then_ PQ.body))) rfl (Val.cmp rfl rfl run_sub) (fun W hO=>hO) ?_
  refine TA.take 10 rfl (by kernel_rfl) rfl (PQ.then_ (PQ.inB (PQ.then_ PQ.body))) rfl (Val.cmp rfl rfl run_gtr) (fun W hO=>hO) ?_
  refine TA.take 11 rfl (by kernel_rfl) rfl (PQ.then_ (PQ.inB (PQ.then_ PQ.body))) rfl (Val.assign rfl) (fun W hO=>hO) ?_
  refine TA.done (by kernel_rfl) ?_
  refine TQ.then_ ?_
  refine TC.cond_p rfl h (fun hc14 h=>?_) (fun hc14 h=>?_)
  ·
   refine TC.seq ?_
   refine TC.region ?_
   refine TV rfl rfl rfl (Val.assign rfl) ?_
   refine TV rfl rfl rfl (Val.assign rfl) ?_
   refine TL.nil ?_
   refine TQ.then_ ?_
   refine TC.ret ?_
   refine TQ.inBR ?_
   refine TQ.thenR ?_
   obtain rfl:=Option.some.inj h
   exact TQ.fin (.inl rfl) rfl Try.results125 (.tmp rfl (.tmp rfl .nil)) rfl (FRel.mk (Ls:=[Blk b1 [.slice A2 a0_0.length c3,VI a0_1,VI a0_2] 89,Row kI 3 (.slice A2 a0_0.length c3) a0_0]) [0,1] 2 (Gd.le.refl _) rfl rfl rfl ⟨rfl,A2,c3,rfl,rfl⟩)
  ·
   refine TC.skip ?_
   refine TQ.inB ?_
   refine TQ.then_ ?_
   refine TC.seq ?_
   refine TC.region ?_
   refine TV rfl rfl rfl (Val.move rfl) ?_
   refine TV rfl rfl rfl (Val.nilCheck rfl) ?_
   refine TV rfl rfl rfl (Val.fieldAddrB Try.underlying89 rfl fsz3 rfl rfl rfl) ?_
   refine TV rfl rfl rfl (Val.loadB 0 agg3 rfl rfl rfl) ?_
   refine TV rfl rfl rfl (Val.assign rfl) ?_
   refine TL.nil ?_
   refine TQ.then_ ?_
   refine TC.seq ?_
   refine TC.region ?_
   refine TV rfl rfl rfl (Val.move rfl) ?_
   refine TV rfl rfl rfl (Val.nilCheck rfl) ?_
   refine TV rfl rfl rfl (Val.fieldAddrB Try.underlying89 rfl fsz3 rfl rfl rfl) ?_
   refine TV rfl rfl rfl (Val.loadB 0 agg3 rfl rfl rfl) ?_
   refine TV rfl rfl rfl (Val.move rfl) ?_
   refine TV rfl rfl rfl (Val.cmp rfl rfl run_add) ?_
   refine TV rfl rfl rfl (Val.nilCheck rfl) ?_
   refine TV rfl rfl rfl (Val.fieldAddrB Try.underlying89 rfl fsz3 rfl rfl rfl) ?_
   refine TL.cons (TL.store 0 (ds:=[VI (IntKind.i64.wrap (a0_1 + a1))]) (cs':=[.slice A2 a0_0.length c3,VI (IntKind.i64.wrap (a0_1 + a1)),VI a0_2]) (L':=(Blk b1 [.slice A2 a0_0.length c3,VI (IntKind.i64.wrap (a0_1 + a1)),VI a0_2] 89::Row kI 3 (.slice A2 a0_0.length c3) a0_0::L)) rfl fsz3 rfl rfl rfl rfl rfl (Nat.le_of_ble_eq_true rfl) rfl rfl ?_)
   refine TL.nil ?_
   refine TQ.then_ ?_
   refine TC.seq ?_
   refine TC.regionAny [10] [0,1,2,3,4,5,6,7,8,9] mixed (by kernel_rfl) ?_
   refine TA.take 0 rfl (by kernel_rfl) rfl (PQ.then_ PQ.body) rfl (Val.move rfl) (fun W hO=>hO) ?_
   refine TA.take 1 rfl (by kernel_rfl) rfl (PQ.then_ PQ.body) rfl (Val.nilCheck rfl) (fun W hO=>hO) ?_
   refine TA.take 2 rfl (by kernel_rfl) rfl (PQ.then_ PQ.body) rfl (Val.fieldAddrB Try.underlying89 rfl fsz23 rfl rfl rfl) (fun W hO=>hO) ?_
   refine TA.take 3 rfl (by kernel_rfl) rfl (PQ.then_ PQ.body) rfl (Val.loadB 0 agg23 rfl rfl rfl) (fun W hO=>hO) ?_
   refine TA.take 4 rfl (by kernel_rfl) rfl (PQ.then_ PQ.body) rfl (Val.move rfl) (fun W hO=>hO) ?_
   refine TA.take 5 rfl (by kernel_rfl) rfl (PQ.then_ PQ.body) rfl (Val.move rfl) (fun W hO=>hO) ?_
   refine TA.take 6 rfl (by kernel_rfl) rfl (PQ.then_ PQ.body) rfl (Val.nilCheck rfl) (fun W hO=>hO) ?_
   refine TA.take 7 rfl (by kernel_rfl) rfl (PQ.then_ PQ.body) rfl (Val.fieldAddrB Try.underlying89 rfl fsz3 rfl rfl rfl) (fun W hO=>hO) ?_
   refine TA.take 8 rfl (by kernel_rfl) rfl (PQ.then_ PQ.body) rfl (Val.loadB 0 agg3 rfl rfl rfl) (fun W hO=>hO) ?_
   obtain ⟨hz19,h⟩:=ite_no h
   refine TA.take 9 rfl (by kernel_rfl) rfl (PQ.then_ PQ.body) rfl (Val.cutOwn 1 Try.underlying23 fsz3 rfl rfl rfl hz19.1 hz19.2.1 hz19.2.2 rfl) (fun W hO=>hO) ?_
   refine TK.sel (Ls:=[Row kI 3 (.slice A2 a0_0.length c3) a0_0,Blk b1 [.slice A2 a0_0.length c3,VI (IntKind.i64.wrap (a0_1 + a1)),VI a0_2] 89]) [1,0] 2 rfl rfl rfl ?_
   obtain ⟨y20,hy21,h⟩:=bind_no h
   refine TA.eff 10 rfl (by kernel_rfl) rfl (TL.clearIn (l:=a0_1) (h:=IntKind.i64.wrap (a0_1 + a1)) (xs:=a0_0) rfl Try.underlying23 zs3 rfl hz19.1 hz19.2.1 hz19.2.2 hy21 ?_)
   refine TA.last rfl ?_
   refine TK.rowlen 0 rfl (fun hl22=>?_)
   rw [hl22]
   refine TA.done (by kernel_rfl) ?_
   refine TQ.then_ ?_
   refine TC.seq ?_
   refine TC.region ?_
   refine TV rfl rfl rfl (Val.move rfl) ?_
   refine TV rfl rfl rfl (Val.assign rfl) ?_
   refine TV rfl rfl rfl (Val.assign rfl) ?_
   refine TL.nil ?_
   refine TQ.then_ ?_
   refine TC.ret ?_
   obtain rfl:=Option.some.inj h
   exact TQ.fin (.inl rfl) rfl Try.results125 (.tmp rfl (.tmp rfl .nil)) rfl (FRel.mk (Ls:=[Blk b1 [.slice A2 y20.length c3,VI (IntKind.i64.wrap (a0_1 + a1)),VI a0_2] 89,Row kI 3 (.slice A2 y20.length c3) y20]) [1,0] 2 (Gd.le.refl _) rfl rfl rfl ⟨rfl,A2,c3,rfl,rfl⟩)
def trace_runner_cells.f (a0_0:(List S45)) (a0_1_0:(List Int)) (a0_1_1:Int) (a0_1_2:Int) (a0_2:(List Int)) (a0_3:Int) (a0_4:Int) (a0_5:(List Int)) (a0_6:Int) (a0_7:Int) (a0_8:Int) (a0_9:Int) (a1:S37) (a2:(List Int)):Option (Int × Int × (List Int) × Int × Int × Int × Int):=(if a1.f0=4 then (at? a2 a1.f2).bind fun y455=>(memory_Memory_Load.f a0_1_0 a0_1_1 a0_1_2 (IntKind.i64.wrap (y455 + a1.f4))).bind fun (y464:(Int × Int))=>jn (γ:=(Int × Int × (List Int) × Int × Int × Int × Int)) (fun (x467:Int)=>some (y464.1,y464.2,a0_1_0,a0_1_1,x467,a0_8,a0_9)) (fun (j468:(Int → Option (Int × Int × (List Int) × Int × Int × Int × Int)))=>(if y464.2=0 then j468 (IntKind.i64.wrap (a0_7 + 1)) else j468 a0_7)) else (if a1.f0=5 then (at? a2 a1.f2).bind fun y581=>(at? a2 a1.f3).bind fun y590=>(memory_Memory_Store.f a0_1_0 a0_1_1 a0_1_2 (IntKind.i64.wrap (y581 + a1.f4)) y590).bind fun (y599:(Int × (List Int)))=>jn (γ:=(Int × Int × (List Int) × Int × Int × Int × Int)) (fun (x605:Int)=>some (0,y599.1,y599.2,a0_1_1,a0_7,x605,a0_9)) (fun (j606:(Int → Option (Int × Int × (List Int) × Int × Int × Int × Int)))=>(if y599.1=0 then j606 (IntKind.i64.wrap (a0_8 + 1)) else j606 a0_8)) else (memory_Memory_Alloc.f a0_1_0 a0_1_1 a0_1_2 a1.f4).bind fun (y613:(Int × Int × (List Int) × Int))=>jn (γ:=(Int × Int × (List Int) × Int × Int × Int × Int)) (fun (x619:Int)=>some (y613.1,y613.2.1,y613.2.2.1,y613.2.2.2,a0_7,a0_8,x619)) (fun (j620:(Int → Option (Int × Int × (List Int) × Int × Int × Int × Int)))=>(if y613.2.1=0 then j620 (IntKind.i64.wrap (a0_9 + a1.f4)) else j620 a0_9))))
def trace_runner_cells.post (G:Gd) (b1:Nat) (A2:Option Addr) (c3:Nat) (b6:Nat) (A7:Option Addr) (c8:Nat) (A10:Option Addr) (c11:Nat) (A14:Option Addr) (c15:Nat) (A17:Option Addr) (c18:Nat) (A21:Option Addr) (c22:Nat) (n24:Nat) (a0_0:(List S45)) (a0_1_0:(List Int)) (a0_1_1:Int) (a0_1_2:Int) (a0_2:(List Int)) (a0_3:Int) (a0_4:Int) (a0_5:(List Int)) (a0_6:Int) (a0_7:Int) (a0_8:Int) (a0_9:Int) (a1:S37) (a2:(List Int)) (r:(Int × Int × (List Int) × Int × Int × Int × Int)) (v:Value) (G':Gd) (Lr:List Ch):Prop:=G=G'∧∃ (A_s1:Option Addr) (c_s1:Nat),v=.tuple #[VI r.1,VI r.2.1]∧Lr=[Blk b1 [.slice A2 a0_0.length c3,VP b6 0,.slice A10 a0_2.length c11,VI a0_3,VI a0_4,.slice A14 a0_5.length c15,VI a0_6,VI r.2.2.2.2.1,VI r.2.2.2.2.2.1,VI r.2.2.2.2.2.2] 58,Blk b6 [.slice A_s1 r.2.2.1.length c_s1,VI r.2.2.2.1,VI a0_1_2] 89,Row kI 3 (.slice A_s1 r.2.2.1.length c_s1) r.2.2.1,Row kI 3 (.slice A14 a0_5.length c15) a0_5,Row kI 3 (.slice A21 n24 c22) a2]
theorem trace_runner_cells.calls {G:Gd} {r:(Int × Int × (List Int) × Int × Int × Int × Int)} {a0_0:(List S45)} {a0_1_0:(List Int)} {a0_1_1:Int} {a0_1_2:Int} {a0_2:(List Int)} {a0_3:Int} {a0_4:Int} {a0_5:(List Int)} {a0_6:Int} {a0_7:Int} {a0_8:Int} {a0_9:Int} {a1:S37} {a2:(List Int)} {b1:Nat} {A2:Option Addr} {c3:Nat} {b6:Nat} {A7:Option Addr} {c8:Nat} {A10:Option Addr} {c11:Nat} {A14:Option Addr} {c15:Nat} {A17:Option Addr} {c18:Nat} {A21:Option Addr} {c22:Nat} {n24:Nat} (hr4:Rd G k45 A2 a0_0) (hl5:a0_0.length ≤ c3) (hr12:Rd G kI A10 a0_2) (hl13:a0_2.length ≤ c11) (hr19:Rd G kI A17 a1.f5) (hl20:a1.f5.length ≤ c18) (h:trace_runner_cells.f a0_0 a0_1_0 a0_1_1 a0_1_2 a0_2 a0_3 a0_4 a0_5 a0_6 a0_7 a0_8 a0_9 a1 a2=some r):Fn Try.prog 107 G [Blk b1 [.slice A2 a0_0.length c3,VP b6 0,.slice A10 a0_2.length c11,VI a0_3,VI a0_4,.slice A14 a0_5.length c15,VI a0_6,VI a0_7,VI a0_8,VI a0_9] 58,Blk b6 [.slice A7 a0_1_0.length c8,VI a0_1_1,VI a0_1_2] 89,Row kI 3 (.slice A7 a0_1_0.length c8) a0_1_0,Row kI 3 (.slice A14 a0_5.length c15) a0_5,Row kI 3 (.slice A21 n24 c22) a2] [VP b1 0,.agg #[VI a1.f0,VI a1.f1,VI a1.f2,VI a1.f3,VI a1.f4,.slice A17 a1.f5.length c18],.slice A21 n24 c22] (trace_runner_cells.post G b1 A2 c3 b6 A7 c8 A10 c11 A14 c15 A17 c18 A21 c22 n24 a0_0 a0_1_0 a0_1_1 a0_1_2 a0_2 a0_3 a0_4 a0_5 a0_6 a0_7 a0_8 a0_9 a1 a2 r):=by
 refine Fn.intro (e:=[(0,VP b1 0),(1,.agg #[VI a1.f0,VI a1.f1,VI a1.f2,VI a1.f3,VI a1.f4,.slice A17 a1.f5.length c18]),(2,.slice A21 n24 c22)]) 85 Try.func107 rfl Try.ntmps107 rfl rfl (Nat.le_of_ble_eq_true rfl) (fun L=>?_)
 unfold trace_runner_cells.f at h
 refine TC.seq ?_
 refine TC.region ?_
 refine TL.cons (TL.box (cs:=[VI a1.f0,VI a1.f1,VI a1.f2,VI a1.f3,VI a1.f4,.slice A17 a1.f5.length c18]) rfl rfl rfl rfl (fun b25=>?_))
 refine TV rfl rfl rfl (Val.assign rfl) ?_
 refine TV rfl rfl rfl (Val.assign rfl) ?_
 refine TL.nil ?_
 refine TQ.then_ ?_
 refine TC.seq ?_
 refine TC.region ?_
 refine TV rfl rfl rfl (Val.move rfl) ?_
 refine TV rfl rfl rfl (Val.nilCheck rfl) ?_
 refine TV rfl rfl rfl (Val.fieldAddrB Try.underlying58 rfl fsz28 rfl rfl rfl) ?_
 refine TV rfl rfl rfl (Val.assign rfl) ?_
 refine TL.nil ?_
 refine TQ.then_ ?_
 refine TC.seq ?_
 refine TC.region ?_
 refine TV rfl rfl rfl (Val.move rfl) ?_
 refine TV rfl rfl rfl (Val.nilCheck rfl) ?_
 refine TV rfl rfl rfl (Val.fieldAddrB Try.underlying28 rfl fsz3 rfl rfl rfl) ?_
 refine TV rfl rfl rfl (Val.assign rfl) ?_
 refine TL.nil ?_
 refine TQ.then_ ?_
 refine TC.seq ?_
 refine TC.region ?_
 refine TV rfl rfl rfl (Val.assign rfl) ?_
 refine TL.nil ?_
 refine TQ.then_ ?_
 refine TC.seq ?_
 refine TC.seq ?_
 refine TC.region ?_
 refine TV rfl rfl rfl (Val.fieldAddrB Try.underlying37 rfl fsz3 rfl rfl rfl) ?_
 refine TV rfl rfl rfl (Val.loadB 0 agg3 rfl rfl rfl) ?_
 refine TL.nil ?_
 refine TQ.then_ ?_
 refine TC.block ?_
 refine TC.seq ?_
 refine TC.region ?_
 refine TV rfl rfl rfl (Val.cmp rfl rfl run_eql) ?_
 refine TV rfl rfl rfl (Val.assign rfl) ?_
 refine TL.nil ?_
 refine TQ.then_ ?_
 refine TC.cond_p rfl h (fun hc429 h=>?_) (fun hc429 h=>?_)
 ·
  refine TC.seq ?_
  refine TC.rowlen 5 rfl (fun hl448=>?_)
  refine TC.sel (Ls:=[Row kI 3 (.slice A21 n24 c22) a2,Blk b25 [VI a1.f0,VI a1.f1,VI a1.f2,VI a1.f3,VI a1.f4,.slice A17 a1.f5.length c18] 37,Blk b1 [.slice A2 a0_0.length c3,VP b6 0,.slice A10 a0_2.length c11,VI a0_3,VI a0_4,.slice A14 a0_5.length c15,VI a0_6,VI a0_7,VI a0_8,VI a0_9] 58,Blk b6 [.slice A7 a0_1_0.length c8,VI a0_1_1,VI a0_1_2] 89,Row kI 3 (.slice A7 a0_1_0.length c8) a0_1_0,Row kI 3 (.slice A14 a0_5.length c15) a0_5]) [5,0,1,2,3,4] 6 rfl rfl rfl ?_
  refine TC.share (fun G449 e450 hs451 hb452=>?_)
  have rd453:Rd G449 kI A21 a2:=Rd.row hs451
  have le454:a2.length ≤ c22:=Row.le hs451
  refine TC.regionAnyS (L0:=(Blk b25 [VI a1.f0,VI a1.f1,VI a1.f2,VI a1.f3,VI a1.f4,.slice A17 a1.f5.length c18] 37::Blk b1 [.slice A2 a0_0.length c3,VP b6 0,.slice A10 a0_2.length c11,VI a0_3,VI a0_4,.slice A14 a0_5.length c15,VI a0_6,VI a0_7,VI a0_8,VI a0_9] 58::Row kI 3 (.slice A14 a0_5.length c15) a0_5::L)) [] [0,1,2,3,4,5,6,7,8,9,10,11,13,14,15,16,17] mixed (by kernel_rfl) ?_
  refine TA.take 0 rfl (by kernel_rfl) rfl (PQ.then_ (PQ.inB (PQ.then_ PQ.body))) rfl (Val.move rfl) (fun W hO=>hO.selT (Ls:=[Blk b25 [VI a1.f0,VI a1.f1,VI a1.f2,VI a1.f3,VI a1.f4,.slice A17 a1.f5.length c18] 37,Blk b1 [.slice A2 a0_0.length c3,VP b6 0,.slice A10 a0_2.length c11,VI a0_3,VI a0_4,.slice A14 a0_5.length c15,VI a0_6,VI a0_7,VI a0_8,VI a0_9] 58,Row kI 3 (.slice A14 a0_5.length c15) a0_5]) [0,1,4] 5 rfl rfl rfl) ?_
  refine TA.take 1 rfl (by kernel_rfl) rfl (PQ.then_ (PQ.inB (PQ.then_ PQ.body))) rfl (Val.nilCheck rfl) (fun W hO=>hO.selT (Ls:=[Blk b25 [VI a1.f0,VI a1.f1,VI a1.f2,VI a1.f3,VI a1.f4,.slice A17 a1.f5.length c18] 37,Blk b1 [.slice A2 a0_0.length c3,VP b6 0,.slice A10 a0_2.length c11,VI a0_3,VI a0_4,.slice A14 a0_5.length c15,VI a0_6,VI a0_7,VI a0_8,VI a0_9] 58,Row kI 3 (.slice A14 a0_5.length c15) a0_5]) [0,1,4] 5 rfl rfl rfl) ?_
  refine TA.take 2 rfl (by kernel_rfl) rfl (PQ.then_ (PQ.inB (PQ.then_ PQ.body))) rfl (Val.fieldAddrB Try.underlying58 rfl fsz53 rfl rfl rfl) (fun W hO=>hO.selT (Ls:=[Blk b25 [VI a1.f0,VI a1.f1,VI a1.f2,VI a1.f3,VI a1.f4,.slice A17 a1.f5.length c18] 37,Blk b1 [.slice A2 a0_0.length c3,VP b6 0,.slice A10 a0_2.length c11,VI a0_3,VI a0_4,.slice A14 a0_5.length c15,VI a0_6,VI a0_7,VI a0_8,VI a0_9] 58,Row kI 3 (.slice A14 a0_5.length c15) a0_5]) [0,1,4] 5 rfl rfl rfl) ?_
  refine TA.take 3 rfl (by kernel_rfl) rfl (PQ.then_ (PQ.inB (PQ.then_ PQ.body))) rfl (Val.loadB 1 agg53 rfl rfl rfl) (fun W hO=>hO.selT (Ls:=[Blk b25 [VI a1.f0,VI a1.f1,VI a1.f2,VI a1.f3,VI a1.f4,.slice A17 a1.f5.length c18] 37,Blk b1 [.slice A2 a0_0.length c3,VP b6 0,.slice A10 a0_2.length c11,VI a0_3,VI a0_4,.slice A14 a0_5.length c15,VI a0_6,VI a0_7,VI a0_8,VI a0_9] 58,Row kI 3 (.slice A14 a0_5.length c15) a0_5]) [0,1,4] 5 rfl rfl rfl) ?_
  refine TA.take 4 rfl (by kernel_rfl) rfl (PQ.then_ (PQ.inB (PQ.then_ PQ.body))) rfl (Val.move rfl) (fun W hO=>hO.selT (Ls:=[Blk b25 [VI a1.f0,VI a1.f1,VI a1.f2,VI a1.f3,VI a1.f4,.slice A17 a1.f5.length c18] 37,Blk b1 [.slice A2 a0_0.length c3,VP b6 0,.slice A10 a0_2.length c11,VI a0_3,VI a0_4,.slice A14 a0_5.length c15,VI a0_6,VI a0_7,VI a0_8,VI a0_9] 58,Row kI 3 (.slice A14 a0_5.length c15) a0_5]) [0,1,4] 5 rfl rfl rfl) ?_
  refine TA.take 5 rfl (by kernel_rfl) rfl (PQ.then_ (PQ.inB (PQ.then_ PQ.body))) rfl (Val.fieldAddrB Try.underlying37 rfl fsz3 rfl rfl rfl) (fun W hO=>hO.selT (Ls:=[Blk b25 [VI a1.f0,VI a1.f1,VI a1.f2,VI a1.f3,VI a1.f4,.slice A17 a1.f5.length c18] 37,Blk b1 [.slice A2 a0_0.length c3,VP b6 0,.slice A10 a0_2.length c11,VI a0_3,VI a0_4,.slice A14 a0_5.length c15,VI a0_6,VI a0_7,VI a0_8,VI a0_9] 58,Row kI 3 (.slice A14 a0_5.length c15) a0_5]) [0,1,4] 5 rfl rfl rfl) ?_
  refine TA.take 6 rfl (by kernel_rfl) rfl (PQ.then_ (PQ.inB (PQ.then_ PQ.body))) rfl (Val.loadB 0 agg3 rfl rfl rfl) (fun W hO=>hO.selT (Ls:=[Blk b25 [VI a1.f0,VI a1.f1,VI a1.f2,VI a1.f3,VI a1.f4,.slice A17 a1.f5.length c18] 37,Blk b1 [.slice A2 a0_0.length c3,VP b6 0,.slice A10 a0_2.length c11,VI a0_3,VI a0_4,.slice A14 a0_5.length c15,VI a0_6,VI a0_7,VI a0_8,VI a0_9] 58,Row kI 3 (.slice A14 a0_5.length c15) a0_5]) [0,1,4] 5 rfl rfl rfl) ?_
  obtain ⟨y455,hx456,h⟩:=bind_no h
  obtain ⟨ad457,cs463,hA458,hi459,hj460,hcl461,hK462⟩:=Rd.at rd453 hx456
  obtain rfl:=RdK.int hK462
  refine TA.take 7 rfl (by kernel_rfl) rfl (PQ.then_ (PQ.inB (PQ.then_ PQ.body))) rfl (Val.indexAddr Try.underlying23 fsz3 rfl hA458 rfl hi459 (by omega)) (fun W hO=>hO.selT (Ls:=[Blk b25 [VI a1.f0,VI a1.f1,VI a1.f2,VI a1.f3,VI a1.f4,.slice A17 a1.f5.length c18] 37,Blk b1 [.slice A2 a0_0.length c3,VP b6 0,.slice A10 a0_2.length c11,VI a0_3,VI a0_4,.slice A14 a0_5.length c15,VI a0_6,VI a0_7,VI a0_8,VI a0_9] 58,Row kI 3 (.slice A14 a0_5.length c15) a0_5]) [0,1,4] 5 rfl rfl rfl) ?_
  refine TA.take 8 rfl (by kernel_rfl) rfl (PQ.then_ (PQ.inB (PQ.then_ PQ.body))) rfl (Val.loadS agg3 rfl (hcl461 0 _ rfl)) (fun W hO=>hO.selT (Ls:=[Blk b25 [VI a1.f0,VI a1.f1,VI a1.f2,VI a1.f3,VI a1.f4,.slice A17 a1.f5.length c18] 37,Blk b1 [.slice A2 a0_0.length c3,VP b6 0,.slice A10 a0_2.length c11,VI a0_3,VI a0_4,.slice A14 a0_5.length c15,VI a0_6,VI a0_7,VI a0_8,VI a0_9] 58,Row kI 3 (.slice A14 a0_5.length c15) a0_5]) [0,1,4] 5 rfl rfl rfl) ?_
  refine TA.take 9 rfl (by kernel_rfl) rfl (PQ.then_ (PQ.inB (PQ.then_ PQ.body))) rfl (Val.fieldAddrB Try.underlying37 rfl fsz3 rfl rfl rfl) (fun W hO=>hO.selT (Ls:=[Blk b25 [VI a1.f0,VI a1.f1,VI a1.f2,VI a1.f3,VI a1.f4,.slice A17 a1.f5.length c18] 37,Blk b1 [.slice A2 a0_0.length c3,VP b6 0,.slice A10 a0_2.length c11,VI a0_3,VI a0_4,.slice A14 a0_5.length c15,VI a0_6,VI a0_7,VI a0_8,VI a0_9] 58,Row kI 3 (.slice A14 a0_5.length c15) a0_5]) [0,1,4] 5 rfl rfl rfl) ?_
  refine TA.take 10 rfl (by kernel_rfl) rfl (PQ.then_ (PQ.inB (PQ.then_ PQ.body))) rfl (Val.loadB 0 agg3 rfl rfl rfl) (fun W hO=>hO.selT (Ls:=[Blk b25 [VI a1.f0,VI a1.f1,VI a1.f2,VI a1.f3,VI a1.f4,.slice A17 a1.f5.length c18] 37,Blk b1 [.slice A2 a0_0.length c3,VP b6 0,.slice A10 a0_2.length c11,VI a0_3,VI a0_4,.slice A14 a0_5.length c15,VI a0_6,VI a0_7,VI a0_8,VI a0_9] 58,Row kI 3 (.slice A14 a0_5.length c15) a0_5]) [0,1,4] 5 rfl rfl rfl) ?_
  refine TA.take 11 rfl (by kernel_rfl) rfl (PQ.then_ (PQ.inB (PQ.then_ PQ.body))) rfl (Val.cmp rfl rfl run_add) (fun W hO=>hO.selT (Ls:=[Blk b25 [VI a1.f0,VI a1.f1,VI a1.f2,VI a1.f3,VI a1.f4,.slice A17 a1.f5.length c18] 37,Blk b1 [.slice A2 a0_0.length c3,VP b6 0,.slice A10 a0_2.length c11,VI a0_3,VI a0_4,.slice A14 a0_5.length c15,VI a0_6,VI a0_7,VI a0_8,VI a0_9] 58,Row kI 3 (.slice A14 a0_5.length c15) a0_5]) [0,1,4] 5 rfl rfl rfl) ?_
  refine TK.sel (Ls:=[Blk b6 [.slice A7 a0_1_0.length c8,VI a0_1_1,VI a0_1_2] 89,Row kI 3 (.slice A7 a0_1_0.length c8) a0_1_0,Blk b25 [VI a1.f0,VI a1.f1,VI a1.f2,VI a1.f3,VI a1.f4,.slice A17 a1.f5.length c18] 37,Blk b1 [.slice A2 a0_0.length c3,VP b6 0,.slice A10 a0_2.length c11,VI a0_3,VI a0_4,.slice A14 a0_5.length c15,VI a0_6,VI a0_7,VI a0_8,VI a0_9] 58,Row kI 3 (.slice A14 a0_5.length c15) a0_5]) [2,3,0,1,4] 5 rfl rfl rfl ?_
  obtain ⟨y464,hy465,h⟩:=bind_no h
  refine TA.eff 12 rfl (by kernel_rfl) rfl (TL.callV (Lin:=[Blk b6 [.slice A7 a0_1_0.length c8,VI a0_1_1,VI a0_1_2] 89,Row kI 3 (.slice A7 a0_1_0.length c8) a0_1_0]) (args:=[VP b6 0,VI (IntKind.i64.wrap (y455 + a1.f4))]) rfl rfl rfl hbd123 rfl rfl (memory_Memory_Load.calls (a0_0:=a0_1_0) (a0_1:=a0_1_1) (a0_2:=a0_1_2) (a1:=IntKind.i64.wrap (y455 + a1.f4)) hy465) rfl ?_)
  rintro _ _ _ _ ⟨rfl,rfl,rfl⟩
  refine TA.next (fun W hO=>hO.selT (Ls:=[Blk b25 [VI a1.f0,VI a1.f1,VI a1.f2,VI a1.f3,VI a1.f4,.slice A17 a1.f5.length c18] 37,Blk b1 [.slice A2 a0_0.length c3,VP b6 0,.slice A10 a0_2.length c11,VI a0_3,VI a0_4,.slice A14 a0_5.length c15,VI a0_6,VI a0_7,VI a0_8,VI a0_9] 58,Row kI 3 (.slice A14 a0_5.length c15) a0_5]) [2,3,4] 5 rfl rfl rfl) ?_
  refine TA.take 13 rfl (by kernel_rfl) rfl (PQ.then_ (PQ.inB (PQ.then_ PQ.body))) rfl (Val.move rfl) (fun W hO=>hO.selT (Ls:=[Blk b25 [VI a1.f0,VI a1.f1,VI a1.f2,VI a1.f3,VI a1.f4,.slice A17 a1.f5.length c18] 37,Blk b1 [.slice A2 a0_0.length c3,VP b6 0,.slice A10 a0_2.length c11,VI a0_3,VI a0_4,.slice A14 a0_5.length c15,VI a0_6,VI a0_7,VI a0_8,VI a0_9] 58,Row kI 3 (.slice A14 a0_5.length c15) a0_5]) [2,3,4] 5 rfl rfl rfl) ?_
  refine TA.take 14 rfl (by kernel_rfl) rfl (PQ.then_ (PQ.inB (PQ.then_ PQ.body))) rfl (Val.extract rfl rfl) (fun W hO=>hO.selT (Ls:=[Blk b25 [VI a1.f0,VI a1.f1,VI a1.f2,VI a1.f3,VI a1.f4,.slice A17 a1.f5.length c18] 37,Blk b1 [.slice A2 a0_0.length c3,VP b6 0,.slice A10 a0_2.length c11,VI a0_3,VI a0_4,.slice A14 a0_5.length c15,VI a0_6,VI a0_7,VI a0_8,VI a0_9] 58,Row kI 3 (.slice A14 a0_5.length c15) a0_5]) [2,3,4] 5 rfl rfl rfl) ?_
  refine TA.take 15 rfl (by kernel_rfl) rfl (PQ.then_ (PQ.inB (PQ.then_ PQ.body))) rfl (Val.extract rfl rfl) (fun W hO=>hO.selT (Ls:=[Blk b25 [VI a1.f0,VI a1.f1,VI a1.f2,VI a1.f3,VI a1.f4,.slice A17 a1.f5.length c18] 37,Blk b1 [.slice A2 a0_0.length c3,VP b6 0,.slice A10 a0_2.length c11,VI a0_3,VI a0_4,.slice A14 a0_5.length c15,VI a0_6,VI a0_7,VI a0_8,VI a0_9] 58,Row kI 3 (.slice A14 a0_5.length c15) a0_5]) [2,3,4] 5 rfl rfl rfl) ?_
  refine TA.take 16 rfl (by kernel_rfl) rfl (PQ.then_ (PQ.inB (PQ.then_ PQ.body))) rfl (Val.assign rfl) (fun W hO=>hO.selT (Ls:=[Blk b25 [VI a1.f0,VI a1.f1,VI a1.f2,VI a1.f3,VI a1.f4,.slice A17 a1.f5.length c18] 37,Blk b1 [.slice A2 a0_0.length c3,VP b6 0,.slice A10 a0_2.length c11,VI a0_3,VI a0_4,.slice A14 a0_5.length c15,VI a0_6,VI a0_7,VI a0_8,VI a0_9] 58,Row kI 3 (.slice A14 a0_5.length c15) a0_5]) [2,3,4] 5 rfl rfl rfl) ?_
  refine TA.take 17 rfl (by kernel_rfl) rfl (PQ.then_ (PQ.inB (PQ.then_ PQ.body))) rfl (Val.assign rfl) (fun W hO=>hO.selT (Ls:=[Blk b25 [VI a1.f0,VI a1.f1,VI a1.f2,VI a1.f3,VI a1.f4,.slice A17 a1.f5.length c18] 37,Blk b1 [.slice A2 a0_0.length c3,VP b6 0,.slice A10 a0_2.length c11,VI a0_3,VI a0_4,.slice A14 a0_5.length c15,VI a0_6,VI a0_7,VI a0_8,VI a0_9] 58,Row kI 3 (.slice A14 a0_5.length c15) a0_5]) [2,3,4] 5 rfl rfl rfl) ?_
  refine TA.done (by kernel_rfl) ?_
  refine TQ.then_ ?_
  refine TC.region ?_
  refine TV rfl rfl rfl (Val.move rfl) ?_
  refine TV rfl rfl rfl (Val.nilCheck rfl) ?_
  refine TV rfl rfl rfl (Val.fieldAddrB Try.underlying28 rfl fsz3 rfl rfl rfl) ?_
  refine TV rfl rfl rfl (Val.assign rfl) ?_
  refine TL.nil ?_
  refine TQ.inB ?_
  refine TQ.then_ ?_
  refine TC.seq ?_
  refine TC.seq ?_
  refine TC.region ?_
  refine TV rfl rfl rfl (Val.move rfl) ?_
  refine TV rfl rfl rfl (Val.cmp rfl rfl run_eql) ?_
  refine TL.nil ?_
  refine TQ.then_ ?_
  refine TC.back hb452 ?_
  obtain ⟨j468,hj468,h⟩:=jn_no h
  refine TC.tail (fun a W=>∃ (x467:Int),j468 x467=some r∧Fr 85 a [(6,VI y464.1),(7,VI y464.2)]∧Own G (Blk b1 [.slice A2 a0_0.length c3,VP b6 0,.slice A10 a0_2.length c11,VI a0_3,VI a0_4,.slice A14 a0_5.length c15,VI a0_6,VI x467,VI a0_8,VI a0_9] 58::Blk b6 [.slice A7 a0_1_0.length c8,VI a0_1_1,VI a0_1_2] 89::Row kI 3 (.slice A14 a0_5.length c15) a0_5::Row kI 3 (.slice A7 a0_1_0.length c8) a0_1_0::Row kI 3 (.slice A21 n24 c22) a2::L) W) ?_ ?_
  ·
   rintro a W ⟨x467,h,hF,hO⟩
   rw [hj468] at h
   refine TQ.use ?_ hF hO
   clear hF hO
   refine TQ.then_ ?_
   refine TC.seq ?_
   refine TC.region ?_
   refine TV rfl rfl rfl (Val.move rfl) ?_
   refine TV rfl rfl rfl (Val.move rfl) ?_
   refine TV rfl rfl rfl (Val.assign rfl) ?_
   refine TV rfl rfl rfl (Val.assign rfl) ?_
   refine TL.nil ?_
   refine TQ.then_ ?_
   refine TC.ret ?_
   obtain rfl:=Option.some.inj h
   exact TQ.fin (.inl rfl) rfl Try.results107 (.tmp rfl (.tmp rfl .nil)) rfl (FRel.mk (Ls:=[Blk b1 [.slice A2 a0_0.length c3,VP b6 0,.slice A10 a0_2.length c11,VI a0_3,VI a0_4,.slice A14 a0_5.length c15,VI a0_6,VI x467,VI a0_8,VI a0_9] 58,Blk b6 [.slice A7 a0_1_0.length c8,VI a0_1_1,VI a0_1_2] 89,Row kI 3 (.slice A7 a0_1_0.length c8) a0_1_0,Row kI 3 (.slice A14 a0_5.length c15) a0_5,Row kI 3 (.slice A21 n24 c22) a2]) [0,1,3,2,4] 5 (Gd.le.refl _) rfl rfl rfl ⟨rfl,A7,c8,rfl,rfl⟩)
  ·
   refine TC.cond_p rfl h (fun hc469 h=>?_) (fun hc469 h=>?_)
   ·
    refine TC.region ?_
    refine TV rfl rfl rfl (Val.move rfl) ?_
    refine TV rfl rfl rfl (Val.nilCheck rfl) ?_
    refine TV rfl rfl rfl (Val.loadB 4 agg3 rfl rfl rfl) ?_
    refine TV rfl rfl rfl (Val.move rfl) ?_
    refine TV rfl rfl rfl (Val.cmp rfl rfl run_add) ?_
    refine TV rfl rfl rfl (Val.nilCheck rfl) ?_
    refine TL.cons (TL.store 4 (ds:=[VI (IntKind.i64.wrap (a0_7 + 1))]) (cs':=[.slice A2 a0_0.length c3,VP b6 0,.slice A10 a0_2.length c11,VI a0_3,VI a0_4,.slice A14 a0_5.length c15,VI a0_6,VI (IntKind.i64.wrap (a0_7 + 1)),VI a0_8,VI a0_9]) (L':=(Row kI 3 (.slice A21 n24 c22) a2::Blk b6 [.slice A7 a0_1_0.length c8,VI a0_1_1,VI a0_1_2] 89::Row kI 3 (.slice A7 a0_1_0.length c8) a0_1_0::Blk b25 [VI a1.f0,VI a1.f1,VI a1.f2,VI a1.f3,VI a1.f4,.slice A17 a1.f5.length c18] 37::Blk b1 [.slice A2 a0_0.length c3,VP b6 0,.slice A10 a0_2.length c11,VI a0_3,VI a0_4,.slice A14 a0_5.length c15,VI a0_6,VI (IntKind.i64.wrap (a0_7 + 1)),VI a0_8,VI a0_9] 58::Row kI 3 (.slice A14 a0_5.length c15) a0_5::L)) rfl fsz3 rfl rfl rfl rfl rfl (Nat.le_of_ble_eq_true rfl) rfl rfl ?_)
    refine TL.nil ?_
    exact fun a W hF hO=>⟨IntKind.i64.wrap (a0_7 + 1),h,hF.sub ⟨rfl,rfl,trivial⟩,hO.selT (Ls:=[Blk b1 [.slice A2 a0_0.length c3,VP b6 0,.slice A10 a0_2.length c11,VI a0_3,VI a0_4,.slice A14 a0_5.length c15,VI a0_6,VI (IntKind.i64.wrap (a0_7 + 1)),VI a0_8,VI a0_9] 58,Blk b6 [.slice A7 a0_1_0.length c8,VI a0_1_1,VI a0_1_2] 89,Row kI 3 (.slice A14 a0_5.length c15) a0_5,Row kI 3 (.slice A7 a0_1_0.length c8) a0_1_0,Row kI 3 (.slice A21 n24 c22) a2]) [4,1,5,2,0] 6 rfl rfl rfl⟩
   ·
    refine TC.skip ?_
    exact fun a W hF hO=>⟨a0_7,h,hF.sub ⟨rfl,rfl,trivial⟩,hO.selT (Ls:=[Blk b1 [.slice A2 a0_0.length c3,VP b6 0,.slice A10 a0_2.length c11,VI a0_3,VI a0_4,.slice A14 a0_5.length c15,VI a0_6,VI a0_7,VI a0_8,VI a0_9] 58,Blk b6 [.slice A7 a0_1_0.length c8,VI a0_1_1,VI a0_1_2] 89,Row kI 3 (.slice A14 a0_5.length c15) a0_5,Row kI 3 (.slice A7 a0_1_0.length c8) a0_1_0,Row kI 3 (.slice A21 n24 c22) a2]) [4,1,5,2,0] 6 rfl rfl rfl⟩
 ·
  refine TC.seq ?_
  refine TC.region ?_
  refine TV rfl rfl rfl (Val.cmp rfl rfl run_eql) ?_
  refine TV rfl rfl rfl (Val.assign rfl) ?_
  refine TL.nil ?_
  refine TQ.then_ ?_
  refine TC.cond_p rfl h (fun hc543 h=>?_) (fun hc543 h=>?_)
  ·
   refine TC.seq ?_
   refine TC.rowlen 5 rfl (fun hl574=>?_)
   refine TC.sel (Ls:=[Row kI 3 (.slice A21 n24 c22) a2,Blk b25 [VI a1.f0,VI a1.f1,VI a1.f2,VI a1.f3,VI a1.f4,.slice A17 a1.f5.length c18] 37,Blk b1 [.slice A2 a0_0.length c3,VP b6 0,.slice A10 a0_2.length c11,VI a0_3,VI a0_4,.slice A14 a0_5.length c15,VI a0_6,VI a0_7,VI a0_8,VI a0_9] 58,Blk b6 [.slice A7 a0_1_0.length c8,VI a0_1_1,VI a0_1_2] 89,Row kI 3 (.slice A7 a0_1_0.length c8) a0_1_0,Row kI 3 (.slice A14 a0_5.length c15) a0_5]) [5,0,1,2,3,4] 6 rfl rfl rfl ?_
   refine TC.share (fun G575 e576 hs577 hb578=>?_)
   have rd579:Rd G575 kI A21 a2:=Rd.row hs577
   have le580:a2.length ≤ c22:=Row.le hs577
   refine TC.regionAnyS (L0:=(Blk b25 [VI a1.f0,VI a1.f1,VI a1.f2,VI a1.f3,VI a1.f4,.slice A17 a1.f5.length c18] 37::Blk b1 [.slice A2 a0_0.length c3,VP b6 0,.slice A10 a0_2.length c11,VI a0_3,VI a0_4,.slice A14 a0_5.length c15,VI a0_6,VI a0_7,VI a0_8,VI a0_9] 58::Row kI 3 (.slice A14 a0_5.length c15) a0_5::L)) [] [0,1,2,3,4,5,6,7,8,9,10,11,12,13,14,15,16,18] mixed (by kernel_rfl) ?_
   refine TA.take 0 rfl (by kernel_rfl) rfl (PQ.then_ (PQ.inB (PQ.then_ PQ.body))) rfl (Val.move rfl) (fun W hO=>hO.selT (Ls:=[Blk b25 [VI a1.f0,VI a1.f1,VI a1.f2,VI a1.f3,VI a1.f4,.slice A17 a1.f5.length c18] 37,Blk b1 [.slice A2 a0_0.length c3,VP b6 0,.slice A10 a0_2.length c11,VI a0_3,VI a0_4,.slice A14 a0_5.length c15,VI a0_6,VI a0_7,VI a0_8,VI a0_9] 58,Row kI 3 (.slice A14 a0_5.length c15) a0_5]) [0,1,4] 5 rfl rfl rfl) ?_
   refine TA.take 1 rfl (by kernel_rfl) rfl (PQ.then_ (PQ.inB (PQ.then_ PQ.body))) rfl (Val.nilCheck rfl) (fun W hO=>hO.selT (Ls:=[Blk b25 [VI a1.f0,VI a1.f1,VI a1.f2,VI a1.f3,VI a1.f4,.slice A17 a1.f5.length c18] 37,Blk b1 [.slice A2 a0_0.length c3,VP b6 0,.slice A10 a0_2.length c11,VI a0_3,VI a0_4,.slice A14 a0_5.length c15,VI a0_6,VI a0_7,VI a0_8,VI a0_9] 58,Row kI 3 (.slice A14 a0_5.length c15) a0_5]) [0,1,4] 5 rfl rfl rfl) ?_
   refine TA.take 2 rfl (by kernel_rfl) rfl (PQ.then_ (PQ.inB (PQ.then_ PQ.body))) rfl (Val.fieldAddrB Try.underlying58 rfl fsz53 rfl rfl rfl) (fun W hO=>hO.selT (Ls:=[Blk b25 [VI a1.f0,VI a1.f1,VI a1.f2,VI a1.f3,VI a1.f4,.slice A17 a1.f5.length c18] 37,Blk b1 [.slice A2 a0_0.length c3,VP b6 0,.slice A10 a0_2.length c11,VI a0_3,VI a0_4,.slice A14 a0_5.length c15,VI a0_6,VI a0_7,VI a0_8,VI a0_9] 58,Row kI 3 (.slice A14 a0_5.length c15) a0_5]) [0,1,4] 5 rfl rfl rfl) ?_
   refine TA.take 3 rfl (by kernel_rfl) rfl (PQ.then_ (PQ.inB (PQ.then_ PQ.body))) rfl (Val.loadB 1 agg53 rfl rfl rfl) (fun W hO=>hO.selT (Ls:=[Blk b25 [VI a1.f0,VI a1.f1,VI a1.f2,VI a1.f3,VI a1.f4,.slice A17 a1.f5.length c18] 37,Blk b1 [.slice A2 a0_0.length c3,VP b6 0,.slice A10 a0_2.length c11,VI a0_3,VI a0_4,.slice A14 a0_5.length c15,VI a0_6,VI a0_7,VI a0_8,VI a0_9] 58,Row kI 3 (.slice A14 a0_5.length c15) a0_5]) [0,1,4] 5 rfl rfl rfl) ?_
   refine TA.take 4 rfl (by kernel_rfl) rfl (PQ.then_ (PQ.inB (PQ.then_ PQ.body))) rfl (Val.move rfl) (fun W hO=>hO.selT (Ls:=[Blk b25 [VI a1.f0,VI a1.f1,VI a1.f2,VI a1.f3,VI a1.f4,.slice A17 a1.f5.length c18] 37,Blk b1 [.slice A2 a0_0.length c3,VP b6 0,.slice A10 a0_2.length c11,VI a0_3,VI a0_4,.slice A14 a0_5.length c15,VI a0_6,VI a0_7,VI a0_8,VI a0_9] 58,Row kI 3 (.slice A14 a0_5.length c15) a0_5]) [0,1,4] 5 rfl rfl rfl) ?_
   refine TA.take 5 rfl (by kernel_rfl) rfl (PQ.then_ (PQ.inB (PQ.then_ PQ.body))) rfl (Val.fieldAddrB Try.underlying37 rfl fsz3 rfl rfl rfl) (fun W hO=>hO.selT (Ls:=[Blk b25 [VI a1.f0,VI a1.f1,VI a1.f2,VI a1.f3,VI a1.f4,.slice A17 a1.f5.length c18] 37,Blk b1 [.slice A2 a0_0.length c3,VP b6 0,.slice A10 a0_2.length c11,VI a0_3,VI a0_4,.slice A14 a0_5.length c15,VI a0_6,VI a0_7,VI a0_8,VI a0_9] 58,Row kI 3 (.slice A14 a0_5.length c15) a0_5]) [0,1,4] 5 rfl rfl rfl) ?_
   refine TA.take 6 rfl (by kernel_rfl) rfl (PQ.then_ (PQ.inB (PQ.then_ PQ.body))) rfl (Val.loadB 0 agg3 rfl rfl rfl) (fun W hO=>hO.selT (Ls:=[Blk b25 [VI a1.f0,VI a1.f1,VI a1.f2,VI a1.f3,VI a1.f4,.slice A17 a1.f5.length c18] 37,Blk b1 [.slice A2 a0_0.length c3,VP b6 0,.slice A10 a0_2.length c11,VI a0_3,VI a0_4,.slice A14 a0_5.length c15,VI a0_6,VI a0_7,VI a0_8,VI a0_9] 58,Row kI 3 (.slice A14 a0_5.length c15) a0_5]) [0,1,4] 5 rfl rfl rfl) ?_
   obtain ⟨y581,hx582,h⟩:=bind_no h
   obtain ⟨ad583,cs589,hA584,hi585,hj586,hcl587,hK588⟩:=Rd.at rd579 hx582
   obtain rfl:=RdK.int hK588
   refine TA.take 7 rfl (by kernel_rfl) rfl (PQ.then_ (PQ.inB (PQ.then_ PQ.body))) rfl (Val.indexAddr Try.underlying23 fsz3 rfl hA584 rfl hi585 (by omega)) (fun W hO=>hO.selT (Ls:=[Blk b25 [VI a1.f0,VI a1.f1,VI a1.f2,VI a1.f3,VI a1.f4,.slice A17 a1.f5.length c18] 37,Blk b1 [.slice A2 a0_0.length c3,VP b6 0,.slice A10 a0_2.length c11,VI a0_3,VI a0_4,.slice A14 a0_5.length c15,VI a0_6,VI a0_7,VI a0_8,VI a0_9] 58,Row kI 3 (.slice A14 a0_5.length c15) a0_5]) [0,1,4] 5 rfl rfl rfl) ?_
   refine TA.take 8 rfl (by kernel_rfl) rfl (PQ.then_ (PQ.inB (PQ.then_ PQ.body))) rfl (Val.loadS agg3 rfl (hcl587 0 _ rfl)) (fun W hO=>hO.selT (Ls:=[Blk b25 [VI a1.f0,VI a1.f1,VI a1.f2,VI a1.f3,VI a1.f4,.slice A17 a1.f5.length c18] 37,Blk b1 [.slice A2 a0_0.length c3,VP b6 0,.slice A10 a0_2.length c11,VI a0_3,VI a0_4,.slice A14 a0_5.length c15,VI a0_6,VI a0_7,VI a0_8,VI a0_9] 58,Row kI 3 (.slice A14 a0_5.length c15) a0_5]) [0,1,4] 5 rfl rfl rfl) ?_
   refine TA.take 9 rfl (by kernel_rfl) rfl (PQ.then_ (PQ.inB (PQ.then_ PQ.body))) rfl (Val.fieldAddrB Try.underlying37 rfl fsz3 rfl rfl rfl) (fun W hO=>hO.selT (Ls:=[Blk b25 [VI a1.f0,VI a1.f1,VI a1.f2,VI a1.f3,VI a1.f4,.slice A17 a1.f5.length c18] 37,Blk b1 [.slice A2 a0_0.length c3,VP b6 0,.slice A10 a0_2.length c11,VI a0_3,VI a0_4,.slice A14 a0_5.length c15,VI a0_6,VI a0_7,VI a0_8,VI a0_9] 58,Row kI 3 (.slice A14 a0_5.length c15) a0_5]) [0,1,4] 5 rfl rfl rfl) ?_
   refine TA.take 10 rfl (by kernel_rfl) rfl (PQ.then_ (PQ.inB (PQ.then_ PQ.body))) rfl (Val.loadB 0 agg3 rfl rfl rfl) (fun W hO=>hO.selT (Ls:=[Blk b25 [VI a1.f0,VI a1.f1,VI a1.f2,VI a1.f3,VI a1.f4,.slice A17 a1.f5.length c18] 37,Blk b1 [.slice A2 a0_0.length c3,VP b6 0,.slice A10 a0_2.length c11,VI a0_3,VI a0_4,.slice A14 a0_5.length c15,VI a0_6,VI a0_7,VI a0_8,VI a0_9] 58,Row kI 3 (.slice A14 a0_5.length c15) a0_5]) [0,1,4] 5 rfl rfl rfl) ?_
   refine TA.take 11 rfl (by kernel_rfl) rfl (PQ.then_ (PQ.inB (PQ.then_ PQ.body))) rfl (Val.cmp rfl rfl run_add) (fun W hO=>hO.selT (Ls:=[Blk b25 [VI a1.f0,VI a1.f1,VI a1.f2,VI a1.f3,VI a1.f4,.slice A17 a1.f5.length c18] 37,Blk b1 [.slice A2 a0_0.length c3,VP b6 0,.slice A10 a0_2.length c11,VI a0_3,VI a0_4,.slice A14 a0_5.length c15,VI a0_6,VI a0_7,VI a0_8,VI a0_9] 58,Row kI 3 (.slice A14 a0_5.length c15) a0_5]) [0,1,4] 5 rfl rfl rfl) ?_
   refine TA.take 12 rfl (by kernel_rfl) rfl (PQ.then_ (PQ.inB (PQ.then_ PQ.body))) rfl (Val.move rfl) (fun W hO=>hO.selT (Ls:=[Blk b25 [VI a1.f0,VI a1.f1,VI a1.f2,VI a1.f3,VI a1.f4,.slice A17 a1.f5.length c18] 37,Blk b1 [.slice A2 a0_0.length c3,VP b6 0,.slice A10 a0_2.length c11,VI a0_3,VI a0_4,.slice A14 a0_5.length c15,VI a0_6,VI a0_7,VI a0_8,VI a0_9] 58,Row kI 3 (.slice A14 a0_5.length c15) a0_5]) [0,1,4] 5 rfl rfl rfl) ?_
   refine TA.take 13 rfl (by kernel_rfl) rfl (PQ.then_ (PQ.inB (PQ.then_ PQ.body))) rfl (Val.fieldAddrB Try.underlying37 rfl fsz3 rfl rfl rfl) (fun W hO=>hO.selT (Ls:=[Blk b25 [VI a1.f0,VI a1.f1,VI a1.f2,VI a1.f3,VI a1.f4,.slice A17 a1.f5.length c18] 37,Blk b1 [.slice A2 a0_0.length c3,VP b6 0,.slice A10 a0_2.length c11,VI a0_3,VI a0_4,.slice A14 a0_5.length c15,VI a0_6,VI a0_7,VI a0_8,VI a0_9] 58,Row kI 3 (.slice A14 a0_5.length c15) a0_5]) [0,1,4] 5 rfl rfl rfl) ?_
   refine TA.take 14 rfl (by kernel_rfl) rfl (PQ.then_ (PQ.inB (PQ.then_ PQ.body))) rfl (Val.loadB 0 agg3 rfl rfl rfl) (fun W hO=>hO.selT (Ls:=[Blk b25 [VI a1.f0,VI a1.f1,VI a1.f2,VI a1.f3,VI a1.f4,.slice A17 a1.f5.length c18] 37,Blk b1 [.slice A2 a0_0.length c3,VP b6 0,.slice A10 a0_2.length c11,VI a0_3,VI a0_4,.slice A14 a0_5.length c15,VI a0_6,VI a0_7,VI a0_8,VI a0_9] 58,Row kI 3 (.slice A14 a0_5.length c15) a0_5]) [0,1,4] 5 rfl rfl rfl) ?_
   obtain ⟨y590,hx591,h⟩:=bind_no h
   obtain ⟨ad592,cs598,hA593,hi594,hj595,hcl596,hK597⟩:=Rd.at rd579 hx591
   obtain rfl:=RdK.int hK597
   refine TA.take 15 rfl (by kernel_rfl) rfl (PQ.then_ (PQ.inB (PQ.then_ PQ.body))) rfl (Val.indexAddr Try.underlying23 fsz3 rfl hA593 rfl hi594 (by omega)) (fun W hO=>hO.selT (Ls:=[Blk b25 [VI a1.f0,VI a1.f1,VI a1.f2,VI a1.f3,VI a1.f4,.slice A17 a1.f5.length c18] 37,Blk b1 [.slice A2 a0_0.length c3,VP b6 0,.slice A10 a0_2.length c11,VI a0_3,VI a0_4,.slice A14 a0_5.length c15,VI a0_6,VI a0_7,VI a0_8,VI a0_9] 58,Row kI 3 (.slice A14 a0_5.length c15) a0_5]) [0,1,4] 5 rfl rfl rfl) ?_
   refine TA.take 16 rfl (by kernel_rfl) rfl (PQ.then_ (PQ.inB (PQ.then_ PQ.body))) rfl (Val.loadS agg3 rfl (hcl596 0 _ rfl)) (fun W hO=>hO.selT (Ls:=[Blk b25 [VI a1.f0,VI a1.f1,VI a1.f2,VI a1.f3,VI a1.f4,.slice A17 a1.f5.length c18] 37,Blk b1 [.slice A2 a0_0.length c3,VP b6 0,.slice A10 a0_2.length c11,VI a0_3,VI a0_4,.slice A14 a0_5.length c15,VI a0_6,VI a0_7,VI a0_8,VI a0_9] 58,Row kI 3 (.slice A14 a0_5.length c15) a0_5]) [0,1,4] 5 rfl rfl rfl) ?_
   refine TK.sel (Ls:=[Blk b6 [.slice A7 a0_1_0.length c8,VI a0_1_1,VI a0_1_2] 89,Row kI 3 (.slice A7 a0_1_0.length c8) a0_1_0,Blk b25 [VI a1.f0,VI a1.f1,VI a1.f2,VI a1.f3,VI a1.f4,.slice A17 a1.f5.length c18] 37,Blk b1 [.slice A2 a0_0.length c3,VP b6 0,.slice A10 a0_2.length c11,VI a0_3,VI a0_4,.slice A14 a0_5.length c15,VI a0_6,VI a0_7,VI a0_8,VI a0_9] 58,Row kI 3 (.slice A14 a0_5.length c15) a0_5]) [2,3,0,1,4] 5 rfl rfl rfl ?_
   obtain ⟨y599,hy600,h⟩:=bind_no h
   refine TA.eff 17 rfl (by kernel_rfl) rfl (TL.callV (Lin:=[Blk b6 [.slice A7 a0_1_0.length c8,VI a0_1_1,VI a0_1_2] 89,Row kI 3 (.slice A7 a0_1_0.length c8) a0_1_0]) (args:=[VP b6 0,VI (IntKind.i64.wrap (y581 + a1.f4)),VI y590]) rfl rfl rfl hbd124 rfl rfl (memory_Memory_Store.calls (a0_0:=a0_1_0) (a0_1:=a0_1_1) (a0_2:=a0_1_2) (a1:=IntKind.i64.wrap (y581 + a1.f4)) (a2:=y590) hy600) rfl ?_)
   rintro _ _ _ _ ⟨rfl,A601,c602,rfl,rfl⟩
   refine TA.next (fun W hO=>hO.selT (Ls:=[Blk b25 [VI a1.f0,VI a1.f1,VI a1.f2,VI a1.f3,VI a1.f4,.slice A17 a1.f5.length c18] 37,Blk b1 [.slice A2 a0_0.length c3,VP b6 0,.slice A10 a0_2.length c11,VI a0_3,VI a0_4,.slice A14 a0_5.length c15,VI a0_6,VI a0_7,VI a0_8,VI a0_9] 58,Row kI 3 (.slice A14 a0_5.length c15) a0_5]) [2,3,4] 5 rfl rfl rfl) ?_
   refine TA.take 18 rfl (by kernel_rfl) rfl (PQ.then_ (PQ.inB (PQ.then_ PQ.body))) rfl (Val.assign rfl) (fun W hO=>hO.selT (Ls:=[Blk b25 [VI a1.f0,VI a1.f1,VI a1.f2,VI a1.f3,VI a1.f4,.slice A17 a1.f5.length c18] 37,Blk b1 [.slice A2 a0_0.length c3,VP b6 0,.slice A10 a0_2.length c11,VI a0_3,VI a0_4,.slice A14 a0_5.length c15,VI a0_6,VI a0_7,VI a0_8,VI a0_9] 58,Row kI 3 (.slice A14 a0_5.length c15) a0_5]) [2,3,4] 5 rfl rfl rfl) ?_
   refine TA.done (by kernel_rfl) ?_
   refine TQ.then_ ?_
   refine TC.region ?_
   refine TV rfl rfl rfl (Val.move rfl) ?_
   refine TV rfl rfl rfl (Val.nilCheck rfl) ?_
   refine TV rfl rfl rfl (Val.fieldAddrB Try.underlying28 rfl fsz3 rfl rfl rfl) ?_
   refine TV rfl rfl rfl (Val.assign rfl) ?_
   refine TL.nil ?_
   refine TQ.inB ?_
   refine TQ.then_ ?_
   refine TC.seq ?_
   refine TC.seq ?_
   refine TC.region ?_
   refine TV rfl rfl rfl (Val.move rfl) ?_
   refine TV rfl rfl rfl (Val.cmp rfl rfl run_eql) ?_
   refine TL.nil ?_
   refine TQ.then_ ?_
   refine TC.back hb578 ?_
   obtain ⟨j606,hj606,h⟩:=jn_no h
   refine TC.tail (fun a W=>∃ (x605:Int),j606 x605=some r∧Fr 85 a [(6,VI 0),(7,VI y599.1)]∧Own G (Blk b1 [.slice A2 a0_0.length c3,VP b6 0,.slice A10 a0_2.length c11,VI a0_3,VI a0_4,.slice A14 a0_5.length c15,VI a0_6,VI a0_7,VI x605,VI a0_9] 58::Blk b6 [.slice A601 y599.2.length c602,VI a0_1_1,VI a0_1_2] 89::Row kI 3 (.slice A14 a0_5.length c15) a0_5::Row kI 3 (.slice A601 y599.2.length c602) y599.2::Row kI 3 (.slice A21 n24 c22) a2::L) W) ?_ ?_
   ·
    rintro a W ⟨x605,h,hF,hO⟩
    rw [hj606] at h
    refine TQ.use ?_ hF hO
    clear hF hO
    refine TQ.then_ ?_
    refine TC.seq ?_
    refine TC.region ?_
    refine TV rfl rfl rfl (Val.move rfl) ?_
    refine TV rfl rfl rfl (Val.move rfl) ?_
    refine TV rfl rfl rfl (Val.assign rfl) ?_
    refine TV rfl rfl rfl (Val.assign rfl) ?_
    refine TL.nil ?_
    refine TQ.then_ ?_
    refine TC.ret ?_
    obtain rfl:=Option.some.inj h
    exact TQ.fin (.inl rfl) rfl Try.results107 (.tmp rfl (.tmp rfl .nil)) rfl (FRel.mk (Ls:=[Blk b1 [.slice A2 a0_0.length c3,VP b6 0,.slice A10 a0_2.length c11,VI a0_3,VI a0_4,.slice A14 a0_5.length c15,VI a0_6,VI a0_7,VI x605,VI a0_9] 58,Blk b6 [.slice A601 y599.2.length c602,VI a0_1_1,VI a0_1_2] 89,Row kI 3 (.slice A601 y599.2.length c602) y599.2,Row kI 3 (.slice A14 a0_5.length c15) a0_5,Row kI 3 (.slice A21 n24 c22) a2]) [0,1,3,2,4] 5 (Gd.le.refl _) rfl rfl rfl ⟨rfl,A601,c602,rfl,rfl⟩)
   ·
    refine TC.cond_p rfl h (fun hc607 h=>?_) (fun hc607 h=>?_)
    ·
     refine TC.region ?_
     refine TV rfl rfl rfl (Val.move rfl) ?_
     refine TV rfl rfl rfl (Val.nilCheck rfl) ?_
     refine TV rfl rfl rfl (Val.loadB 4 agg3 rfl rfl rfl) ?_
     refine TV rfl rfl rfl (Val.move rfl) ?_
     refine TV rfl rfl rfl (Val.cmp rfl rfl run_add) ?_
     refine TV rfl rfl rfl (Val.nilCheck rfl) ?_
     refine TL.cons (TL.store 4 (ds:=[VI (IntKind.i64.wrap (a0_8 + 1))]) (cs':=[.slice A2 a0_0.length c3,VP b6 0,.slice A10 a0_2.length c11,VI a0_3,VI a0_4,.slice A14 a0_5.length c15,VI a0_6,VI a0_7,VI (IntKind.i64.wrap (a0_8 + 1)),VI a0_9]) (L':=(Row kI 3 (.slice A21 n24 c22) a2::Blk b6 [.slice A601 y599.2.length c602,VI a0_1_1,VI a0_1_2] 89::Row kI 3 (.slice A601 y599.2.length c602) y599.2::Blk b25 [VI a1.f0,VI a1.f1,VI a1.f2,VI a1.f3,VI a1.f4,.slice A17 a1.f5.length c18] 37::Blk b1 [.slice A2 a0_0.length c3,VP b6 0,.slice A10 a0_2.length c11,VI a0_3,VI a0_4,.slice A14 a0_5.length c15,VI a0_6,VI a0_7,VI (IntKind.i64.wrap (a0_8 + 1)),VI a0_9] 58::Row kI 3 (.slice A14 a0_5.length c15) a0_5::L)) rfl fsz3 rfl rfl rfl rfl rfl (Nat.le_of_ble_eq_true rfl) rfl rfl ?_)
     refine TL.nil ?_
     exact fun a W hF hO=>⟨IntKind.i64.wrap (a0_8 + 1),h,hF.sub ⟨rfl,rfl,trivial⟩,hO.selT (Ls:=[Blk b1 [.slice A2 a0_0.length c3,VP b6 0,.slice A10 a0_2.length c11,VI a0_3,VI a0_4,.slice A14 a0_5.length c15,VI a0_6,VI a0_7,VI (IntKind.i64.wrap (a0_8 + 1)),VI a0_9] 58,Blk b6 [.slice A601 y599.2.length c602,VI a0_1_1,VI a0_1_2] 89,Row kI 3 (.slice A14 a0_5.length c15) a0_5,Row kI 3 (.slice A601 y599.2.length c602) y599.2,Row kI 3 (.slice A21 n24 c22) a2]) [4,1,5,2,0] 6 rfl rfl rfl⟩
    ·
     refine TC.skip ?_
     exact fun a W hF hO=>⟨a0_8,h,hF.sub ⟨rfl,rfl,trivial⟩,hO.selT (Ls:=[Blk b1 [.slice A2 a0_0.length c3,VP b6 0,.slice A10 a0_2.length c11,VI a0_3,VI a0_4,.slice A14 a0_5.length c15,VI a0_6,VI a0_7,VI a0_8,VI a0_9] 58,Blk b6 [.slice A601 y599.2.length c602,VI a0_1_1,VI a0_1_2] 89,Row kI 3 (.slice A14 a0_5.length c15) a0_5,Row kI 3 (.slice A601 y599.2.length c602) y599.2,Row kI 3 (.slice A21 n24 c22) a2]) [4,1,5,2,0] 6 rfl rfl rfl⟩
  ·
   refine TC.seq ?_
   refine TC.regionAnyS (L0:=(Blk b25 [VI a1.f0,VI a1.f1,VI a1.f2,VI a1.f3,VI a1.f4,.slice A17 a1.f5.length c18] 37::Blk b1 [.slice A2 a0_0.length c3,VP b6 0,.slice A10 a0_2.length c11,VI a0_3,VI a0_4,.slice A14 a0_5.length c15,VI a0_6,VI a0_7,VI a0_8,VI a0_9] 58::Row kI 3 (.slice A14 a0_5.length c15) a0_5::Row kI 3 (.slice A21 n24 c22) a2::L)) [] [0,1,2,3,4,5,7,8,9,10,11] mixed (by kernel_rfl) ?_
   refine TA.take 0 rfl (by kernel_rfl) rfl (PQ.then_ (PQ.inB (PQ.then_ PQ.body))) rfl (Val.move rfl) (fun W hO=>hO.selT (Ls:=[Blk b25 [VI a1.f0,VI a1.f1,VI a1.f2,VI a1.f3,VI a1.f4,.slice A17 a1.f5.length c18] 37,Blk b1 [.slice A2 a0_0.length c3,VP b6 0,.slice A10 a0_2.length c11,VI a0_3,VI a0_4,.slice A14 a0_5.length c15,VI a0_6,VI a0_7,VI a0_8,VI a0_9] 58,Row kI 3 (.slice A14 a0_5.length c15) a0_5,Row kI 3 (.slice A21 n24 c22) a2]) [0,1,4,5] 6 rfl rfl rfl) ?_
   refine TA.take 1 rfl (by kernel_rfl) rfl (PQ.then_ (PQ.inB (PQ.then_ PQ.body))) rfl (Val.nilCheck rfl) (fun W hO=>hO.selT (Ls:=[Blk b25 [VI a1.f0,VI a1.f1,VI a1.f2,VI a1.f3,VI a1.f4,.slice A17 a1.f5.length c18] 37,Blk b1 [.slice A2 a0_0.length c3,VP b6 0,.slice A10 a0_2.length c11,VI a0_3,VI a0_4,.slice A14 a0_5.length c15,VI a0_6,VI a0_7,VI a0_8,VI a0_9] 58,Row kI 3 (.slice A14 a0_5.length c15) a0_5,Row kI 3 (.slice A21 n24 c22) a2]) [0,1,4,5] 6 rfl rfl rfl) ?_
   refine TA.take 2 rfl (by kernel_rfl) rfl (PQ.then_ (PQ.inB (PQ.then_ PQ.body))) rfl (Val.fieldAddrB Try.underlying58 rfl fsz53 rfl rfl rfl) (fun W hO=>hO.selT (Ls:=[Blk b25 [VI a1.f0,VI a1.f1,VI a1.f2,VI a1.f3,VI a1.f4,.slice A17 a1.f5.length c18] 37,Blk b1 [.slice A2 a0_0.length c3,VP b6 0,.slice A10 a0_2.length c11,VI a0_3,VI a0_4,.slice A14 a0_5.length c15,VI a0_6,VI a0_7,VI a0_8,VI a0_9] 58,Row kI 3 (.slice A14 a0_5.length c15) a0_5,Row kI 3 (.slice A21 n24 c22) a2]) [0,1,4,5] 6 rfl rfl rfl) ?_
   refine TA.take 3 rfl (by kernel_rfl) rfl (PQ.then_ (PQ.inB (PQ.then_ PQ.body))) rfl (Val.loadB 1 agg53 rfl rfl rfl) (fun W hO=>hO.selT (Ls:=[Blk b25 [VI a1.f0,VI a1.f1,VI a1.f2,VI a1.f3,VI a1.f4,.slice A17 a1.f5.length c18] 37,Blk b1 [.slice A2 a0_0.length c3,VP b6 0,.slice A10 a0_2.length c11,VI a0_3,VI a0_4,.slice A14 a0_5.length c15,VI a0_6,VI a0_7,VI a0_8,VI a0_9] 58,Row kI 3 (.slice A14 a0_5.length c15) a0_5,Row kI 3 (.slice A21 n24 c22) a2]) [0,1,4,5] 6 rfl rfl rfl) ?_
   refine TA.take 4 rfl (by kernel_rfl) rfl (PQ.then_ (PQ.inB (PQ.then_ PQ.body))) rfl (Val.fieldAddrB Try.underlying37 rfl fsz3 rfl rfl rfl) (fun W hO=>hO.selT (Ls:=[Blk b25 [VI a1.f0,VI a1.f1,VI a1.f2,VI a1.f3,VI a1.f4,.slice A17 a1.f5.length c18] 37,Blk b1 [.slice A2 a0_0.length c3,VP b6 0,.slice A10 a0_2.length c11,VI a0_3,VI a0_4,.slice A14 a0_5.length c15,VI a0_6,VI a0_7,VI a0_8,VI a0_9] 58,Row kI 3 (.slice A14 a0_5.length c15) a0_5,Row kI 3 (.slice A21 n24 c22) a2]) [0,1,4,5] 6 rfl rfl rfl) ?_
   refine TA.take 5 rfl (by kernel_rfl) rfl (PQ.then_ (PQ.inB (PQ.then_ PQ.body))) rfl (Val.loadB 0 agg3 rfl rfl rfl) (fun W hO=>hO.selT (Ls:=[Blk b25 [VI a1.f0,VI a1.f1,VI a1.f2,VI a1.f3,VI a1.f4,.slice A17 a1.f5.length c18] 37,Blk b1 [.slice A2 a0_0.length c3,VP b6 0,.slice A10 a0_2.length c11,VI a0_3,VI a0_4,.slice A14 a0_5.length c15,VI a0_6,VI a0_7,VI a0_8,VI a0_9] 58,Row kI 3 (.slice A14 a0_5.length c15) a0_5,Row kI 3 (.slice A21 n24 c22) a2]) [0,1,4,5] 6 rfl rfl rfl) ?_
   refine TK.sel (Ls:=[Blk b6 [.slice A7 a0_1_0.length c8,VI a0_1_1,VI a0_1_2] 89,Row kI 3 (.slice A7 a0_1_0.length c8) a0_1_0,Blk b25 [VI a1.f0,VI a1.f1,VI a1.f2,VI a1.f3,VI a1.f4,.slice A17 a1.f5.length c18] 37,Blk b1 [.slice A2 a0_0.length c3,VP b6 0,.slice A10 a0_2.length c11,VI a0_3,VI a0_4,.slice A14 a0_5.length c15,VI a0_6,VI a0_7,VI a0_8,VI a0_9] 58,Row kI 3 (.slice A14 a0_5.length c15) a0_5,Row kI 3 (.slice A21 n24 c22) a2]) [2,3,0,1,4,5] 6 rfl rfl rfl ?_
   obtain ⟨y613,hy614,h⟩:=bind_no h
   refine TA.eff 6 rfl (by kernel_rfl) rfl (TL.callV (Lin:=[Blk b6 [.slice A7 a0_1_0.length c8,VI a0_1_1,VI a0_1_2] 89,Row kI 3 (.slice A7 a0_1_0.length c8) a0_1_0]) (args:=[VP b6 0,VI a1.f4]) rfl rfl rfl hbd125 rfl rfl (memory_Memory_Alloc.calls (a0_0:=a0_1_0) (a0_1:=a0_1_1) (a0_2:=a0_1_2) (a1:=a1.f4) hy614) rfl ?_)
   rintro _ _ _ _ ⟨rfl,A615,c616,rfl,rfl⟩
   refine TA.next (fun W hO=>hO.selT (Ls:=[Blk b25 [VI a1.f0,VI a1.f1,VI a1.f2,VI a1.f3,VI a1.f4,.slice A17 a1.f5.length c18] 37,Blk b1 [.slice A2 a0_0.length c3,VP b6 0,.slice A10 a0_2.length c11,VI a0_3,VI a0_4,.slice A14 a0_5.length c15,VI a0_6,VI a0_7,VI a0_8,VI a0_9] 58,Row kI 3 (.slice A14 a0_5.length c15) a0_5,Row kI 3 (.slice A21 n24 c22) a2]) [2,3,4,5] 6 rfl rfl rfl) ?_
   refine TA.take 7 rfl (by kernel_rfl) rfl (PQ.then_ (PQ.inB (PQ.then_ PQ.body))) rfl (Val.move rfl) (fun W hO=>hO.selT (Ls:=[Blk b25 [VI a1.f0,VI a1.f1,VI a1.f2,VI a1.f3,VI a1.f4,.slice A17 a1.f5.length c18] 37,Blk b1 [.slice A2 a0_0.length c3,VP b6 0,.slice A10 a0_2.length c11,VI a0_3,VI a0_4,.slice A14 a0_5.length c15,VI a0_6,VI a0_7,VI a0_8,VI a0_9] 58,Row kI 3 (.slice A14 a0_5.length c15) a0_5,Row kI 3 (.slice A21 n24 c22) a2]) [2,3,4,5] 6 rfl rfl rfl) ?_
   refine TA.take 8 rfl (by kernel_rfl) rfl (PQ.then_ (PQ.inB (PQ.then_ PQ.body))) rfl (Val.extract rfl rfl) (fun W hO=>hO.selT (Ls:=[Blk b25 [VI a1.f0,VI a1.f1,VI a1.f2,VI a1.f3,VI a1.f4,.slice A17 a1.f5.length c18] 37,Blk b1 [.slice A2 a0_0.length c3,VP b6 0,.slice A10 a0_2.length c11,VI a0_3,VI a0_4,.slice A14 a0_5.length c15,VI a0_6,VI a0_7,VI a0_8,VI a0_9] 58,Row kI 3 (.slice A14 a0_5.length c15) a0_5,Row kI 3 (.slice A21 n24 c22) a2]) [2,3,4,5] 6 rfl rfl rfl) ?_
   refine TA.take 9 rfl (by kernel_rfl) rfl (PQ.then_ (PQ.inB (PQ.then_ PQ.body))) rfl (Val.extract rfl rfl) (fun W hO=>hO.selT (Ls:=[Blk b25 [VI a1.f0,VI a1.f1,VI a1.f2,VI a1.f3,VI a1.f4,.slice A17 a1.f5.length c18] 37,Blk b1 [.slice A2 a0_0.length c3,VP b6 0,.slice A10 a0_2.length c11,VI a0_3,VI a0_4,.slice A14 a0_5.length c15,VI a0_6,VI a0_7,VI a0_8,VI a0_9] 58,Row kI 3 (.slice A14 a0_5.length c15) a0_5,Row kI 3 (.slice A21 n24 c22) a2]) [2,3,4,5] 6 rfl rfl rfl) ?_
   refine TA.take 10 rfl (by kernel_rfl) rfl (PQ.then_ (PQ.inB (PQ.then_ PQ.body))) rfl (Val.assign rfl) (fun W hO=>hO.selT (Ls:=[Blk b25 [VI a1.f0,VI a1.f1,VI a1.f2,VI a1.f3,VI a1.f4,.slice A17 a1.f5.length c18] 37,Blk b1 [.slice A2 a0_0.length c3,VP b6 0,.slice A10 a0_2.length c11,VI a0_3,VI a0_4,.slice A14 a0_5.length c15,VI a0_6,VI a0_7,VI a0_8,VI a0_9] 58,Row kI 3 (.slice A14 a0_5.length c15) a0_5,Row kI 3 (.slice A21 n24 c22) a2]) [2,3,4,5] 6 rfl rfl rfl) ?_
   refine TA.take 11 rfl (by kernel_rfl) rfl (PQ.then_ (PQ.inB (PQ.then_ PQ.body))) rfl (Val.assign rfl) (fun W hO=>hO.selT (Ls:=[Blk b25 [VI a1.f0,VI a1.f1,VI a1.f2,VI a1.f3,VI a1.f4,.slice A17 a1.f5.length c18] 37,Blk b1 [.slice A2 a0_0.length c3,VP b6 0,.slice A10 a0_2.length c11,VI a0_3,VI a0_4,.slice A14 a0_5.length c15,VI a0_6,VI a0_7,VI a0_8,VI a0_9] 58,Row kI 3 (.slice A14 a0_5.length c15) a0_5,Row kI 3 (.slice A21 n24 c22) a2]) [2,3,4,5] 6 rfl rfl rfl) ?_
   refine TA.done (by kernel_rfl) ?_
   refine TQ.then_ ?_
   refine TC.region ?_
   refine TV rfl rfl rfl (Val.fieldAddrB Try.underlying37 rfl fsz3 rfl rfl rfl) ?_
   refine TV rfl rfl rfl (Val.loadB 2 agg3 rfl rfl rfl) ?_
   refine TV rfl rfl rfl (Val.assign rfl) ?_
   refine TL.nil ?_
   refine TQ.inB ?_
   refine TQ.then_ ?_
   refine TC.seq ?_
   refine TC.seq ?_
   refine TC.region ?_
   refine TV rfl rfl rfl (Val.move rfl) ?_
   refine TV rfl rfl rfl (Val.cmp rfl rfl run_eql) ?_
   refine TL.nil ?_
   refine TQ.then_ ?_
   obtain ⟨j620,hj620,h⟩:=jn_no h
   refine TC.tail (fun a W=>∃ (x619:Int),j620 x619=some r∧Fr 85 a [(6,VI y613.1),(7,VI y613.2.1)]∧Own G (Blk b1 [.slice A2 a0_0.length c3,VP b6 0,.slice A10 a0_2.length c11,VI a0_3,VI a0_4,.slice A14 a0_5.length c15,VI a0_6,VI a0_7,VI a0_8,VI x619] 58::Blk b6 [.slice A615 y613.2.2.1.length c616,VI y613.2.2.2,VI a0_1_2] 89::Row kI 3 (.slice A14 a0_5.length c15) a0_5::Row kI 3 (.slice A615 y613.2.2.1.length c616) y613.2.2.1::Row kI 3 (.slice A21 n24 c22) a2::L) W) ?_ ?_
   ·
    rintro a W ⟨x619,h,hF,hO⟩
    rw [hj620] at h
    refine TQ.use ?_ hF hO
    clear hF hO
    refine TQ.then_ ?_
    refine TC.seq ?_
    refine TC.region ?_
    refine TV rfl rfl rfl (Val.move rfl) ?_
    refine TV rfl rfl rfl (Val.move rfl) ?_
    refine TV rfl rfl rfl (Val.assign rfl) ?_
    refine TV rfl rfl rfl (Val.assign rfl) ?_
    refine TL.nil ?_
    refine TQ.then_ ?_
    refine TC.ret ?_
    obtain rfl:=Option.some.inj h
    exact TQ.fin (.inl rfl) rfl Try.results107 (.tmp rfl (.tmp rfl .nil)) rfl (FRel.mk (Ls:=[Blk b1 [.slice A2 a0_0.length c3,VP b6 0,.slice A10 a0_2.length c11,VI a0_3,VI a0_4,.slice A14 a0_5.length c15,VI a0_6,VI a0_7,VI a0_8,VI x619] 58,Blk b6 [.slice A615 y613.2.2.1.length c616,VI y613.2.2.2,VI a0_1_2] 89,Row kI 3 (.slice A615 y613.2.2.1.length c616) y613.2.2.1,Row kI 3 (.slice A14 a0_5.length c15) a0_5,Row kI 3 (.slice A21 n24 c22) a2]) [0,1,3,2,4] 5 (Gd.le.refl _) rfl rfl rfl ⟨rfl,A615,c616,rfl,rfl⟩)
   ·
    refine TC.cond_p rfl h (fun hc621 h=>?_) (fun hc621 h=>?_)
    ·
     refine TC.region ?_
     refine TV rfl rfl rfl (Val.move rfl) ?_
     refine TV rfl rfl rfl (Val.nilCheck rfl) ?_
     refine TV rfl rfl rfl (Val.loadB 3 agg3 rfl rfl rfl) ?_
     refine TV rfl rfl rfl (Val.move rfl) ?_
     refine TV rfl rfl rfl (Val.cmp rfl rfl run_add) ?_
     refine TV rfl rfl rfl (Val.nilCheck rfl) ?_
     refine TL.cons (TL.store 3 (ds:=[VI (IntKind.i64.wrap (a0_9 + a1.f4))]) (cs':=[.slice A2 a0_0.length c3,VP b6 0,.slice A10 a0_2.length c11,VI a0_3,VI a0_4,.slice A14 a0_5.length c15,VI a0_6,VI a0_7,VI a0_8,VI (IntKind.i64.wrap (a0_9 + a1.f4))]) (L':=(Blk b6 [.slice A615 y613.2.2.1.length c616,VI y613.2.2.2,VI a0_1_2] 89::Row kI 3 (.slice A615 y613.2.2.1.length c616) y613.2.2.1::Blk b25 [VI a1.f0,VI a1.f1,VI a1.f2,VI a1.f3,VI a1.f4,.slice A17 a1.f5.length c18] 37::Blk b1 [.slice A2 a0_0.length c3,VP b6 0,.slice A10 a0_2.length c11,VI a0_3,VI a0_4,.slice A14 a0_5.length c15,VI a0_6,VI a0_7,VI a0_8,VI (IntKind.i64.wrap (a0_9 + a1.f4))] 58::Row kI 3 (.slice A14 a0_5.length c15) a0_5::Row kI 3 (.slice A21 n24 c22) a2::L)) rfl fsz3 rfl rfl rfl rfl rfl (Nat.le_of_ble_eq_true rfl) rfl rfl ?_)
     refine TL.nil ?_
     exact fun a W hF hO=>⟨IntKind.i64.wrap (a0_9 + a1.f4),h,hF.sub ⟨rfl,rfl,trivial⟩,hO.selT (Ls:=[Blk b1 [.slice A2 a0_0.length c3,VP b6 0,.slice A10 a0_2.length c11,VI a0_3,VI a0_4,.slice A14 a0_5.length c15,VI a0_6,VI a0_7,VI a0_8,VI (IntKind.i64.wrap (a0_9 + a1.f4))] 58,Blk b6 [.slice A615 y613.2.2.1.length c616,VI y613.2.2.2,VI a0_1_2] 89,Row kI 3 (.slice A14 a0_5.length c15) a0_5,Row kI 3 (.slice A615 y613.2.2.1.length c616) y613.2.2.1,Row kI 3 (.slice A21 n24 c22) a2]) [3,0,4,1,5] 6 rfl rfl rfl⟩
    ·
     refine TC.skip ?_
     exact fun a W hF hO=>⟨a0_9,h,hF.sub ⟨rfl,rfl,trivial⟩,hO.selT (Ls:=[Blk b1 [.slice A2 a0_0.length c3,VP b6 0,.slice A10 a0_2.length c11,VI a0_3,VI a0_4,.slice A14 a0_5.length c15,VI a0_6,VI a0_7,VI a0_8,VI a0_9] 58,Blk b6 [.slice A615 y613.2.2.1.length c616,VI y613.2.2.2,VI a0_1_2] 89,Row kI 3 (.slice A14 a0_5.length c15) a0_5,Row kI 3 (.slice A615 y613.2.2.1.length c616) y613.2.2.1,Row kI 3 (.slice A21 n24 c22) a2]) [3,0,4,1,5] 6 rfl rfl rfl⟩
end Go.Proofs.Ytfmocegnpmomnaa.Sy
