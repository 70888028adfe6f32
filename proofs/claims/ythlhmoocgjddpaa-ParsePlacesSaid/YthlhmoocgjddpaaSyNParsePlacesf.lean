/- Texts of this work, joined: SyF7, PaS, SyF5, PaP. -/
import Derived.Test.YthlhmoocgjddpaaSyNParsePlacese
set_option linter.unusedVariables false
set_option linter.unusedSimpArgs false
set_option maxRecDepth 100000
set_option maxHeartbeats 4000000
namespace Go.Proofs.Ythlhmoocgjddpaa.Sy
open Go Go.RowKit Go.Proofs.YthlhmoocgjddpaaW.PrintWords 
def swagelaw10_small.f:Option Bool:=(token_Lex.f (⟨#[102,117,110,99,32,102,40,97,32,105,110,116,41,32,123,32,112,114,105,110,116,32,49,32,43,32,50,32,42,32,97,59,32,125]⟩:ByteArray)).bind fun (y1:((List S41) × Int × Int))=>(parse_Parse.f y1.1).bind fun (y12:(S24 × Int × Int))=>(parse_Parse.f ([(⟨1,(⟨#[102,117,110,99]⟩:ByteArray),0⟩:S41),(⟨1,(⟨#[105,102]⟩:ByteArray),0⟩:S41)]:List S41)).bind fun (y26:(S24 × Int × Int))=>(if y1.2.2=0 then (if y12.2.2=0 then (if y12.2.1=(y1.1.length:Int) then (parse_Text.f y12.1).bind fun (y87:ByteArray)=>(if (y87.data.toList == (⟨#[102,117,110,99,32,102,32,40,32,97,32,105,110,116,32,41,32,123,32,112,114,105,110,116,32,40,32,49,32,43,32,40,32,50,32,42,32,97,32,41,32,41,32,59,32,125,10]⟩:ByteArray).data.toList)=true then (parse_Size.f y12.1).bind fun (y91:Int)=>(if y91=12 then (if y26.2.1=1 then (if y26.2.2=2 then (parse_Word.f (⟨#[114,101,97,100]⟩:ByteArray)).bind fun (y99:Bool)=>(if y99=true then (parse_Word.f (⟨#[102]⟩:ByteArray)).bind fun (y103:Bool)=>(if (!y103)=true then (parse_Same.f y12.1 y12.1).bind fun (y107:Bool)=>some y107 else some false) else some false) else some false) else some false) else some false) else some false) else some false) else some false) else some false)
def swagelaw10_small.post (G:Gd)  (r:Bool) (v:Value) (G':Gd) (Lr:List Ch):Prop:=G=G'∧v=.bool r∧Lr=[]
theorem swagelaw10_small.calls {G:Gd} {r:Bool} (h:swagelaw10_small.f=some r):Fn Try.prog 7 G [] [] (swagelaw10_small.post G  r):=by
 refine Fn.intro (e:=[]) 71 Try.func7 rfl Try.ntmps7 rfl rfl (Nat.le_of_ble_eq_true rfl) (fun L=>?_)
 unfold swagelaw10_small.f at h
 refine TC.seq ?_
 refine TC.region ?_
 refine TV rfl rfl rfl (Val.assign rfl) ?_
 refine TL.nil ?_
 refine TQ.then_ ?_
 refine TC.seq ?_
 refine TC.region ?_
 obtain ⟨y1,hy2,h⟩:=bind_no h
 refine TL.cons (TL.callV (Lin:=[]) (args:=[.string (⟨#[102,117,110,99,32,102,40,97,32,105,110,116,41,32,123,32,112,114,105,110,116,32,49,32,43,32,50,32,42,32,97,59,32,125]⟩:ByteArray)]) rfl rfl rfl hbd17 rfl rfl (token_Lex.calls (a0:=(⟨#[102,117,110,99,32,102,40,97,32,105,110,116,41,32,123,32,112,114,105,110,116,32,49,32,43,32,50,32,42,32,97,59,32,125]⟩:ByteArray)) hy2) rfl ?_)
 rintro _ _ _ _ ⟨rfl,A3,c4,rfl,rfl⟩
 refine TV rfl rfl rfl (Val.move rfl) ?_
 refine TV rfl rfl rfl (Val.extract rfl rfl) ?_
 refine TV rfl rfl rfl (Val.extract rfl rfl) ?_
 refine TV rfl rfl rfl (Val.extract rfl rfl) ?_
 refine TV rfl rfl rfl (Val.assign rfl) ?_
 refine TV rfl rfl rfl (Val.assign rfl) ?_
 refine TV rfl rfl rfl (Val.assign rfl) ?_
 refine TL.nil ?_
 refine TQ.then_ ?_
 refine TC.seq ?_
 refine TC.region ?_
 refine TV rfl rfl rfl (Val.move rfl) ?_
 refine TK.share (fun G6 e7 hs8 hb9=>?_)
 have rd10:Rd G6 k41 A3 y1.1:=Rd.row hs8
 have le11:y1.1.length ≤ c4:=Row.le hs8
 obtain ⟨y12,hy13,h⟩:=bind_no h
 refine TL.cons (TL.callV (Lin:=[]) (args:=[.slice A3 y1.1.length c4]) rfl rfl rfl hbd18 rfl rfl (parse_Parse.calls (a0:=y1.1) rd10 le11 hy13) rfl ?_)
 rintro _ _ _ _ ⟨rfl,A14,c15,rfl,rfl⟩
 refine TV rfl rfl rfl (Val.move rfl) ?_
 refine TV rfl rfl rfl (Val.extract rfl rfl) ?_
 refine TV rfl rfl rfl (Val.extract rfl rfl) ?_
 refine TV rfl rfl rfl (Val.extract rfl rfl) ?_
 refine TL.cons (TL.alloc (cs:=[VI 0,.string (⟨#[]⟩:ByteArray),VI 0,.slice none 0 0]) rfl rfl zr24 rfl (fun b17=>?_))
 refine TL.cons (TL.store 0 (ds:=[VI y12.1.f0,.string y12.1.f1,VI y12.1.f2,.slice A14 y12.1.f3.length c15]) (cs':=[VI y12.1.f0,.string y12.1.f1,VI y12.1.f2,.slice A14 y12.1.f3.length c15]) (L':=(Blk b17 [VI y12.1.f0,.string y12.1.f1,VI y12.1.f2,.slice A14 y12.1.f3.length c15] 24::Row k24 24 (.slice A14 y12.1.f3.length c15) y12.1.f3::L)) rfl fsz24 rfl rfl rfl rfl rfl (Nat.le_of_ble_eq_true rfl) rfl rfl ?_)
 refine TV rfl rfl rfl (Val.assign rfl) ?_
 refine TV rfl rfl rfl (Val.assign rfl) ?_
 refine TL.nil ?_
 refine TQ.then_ ?_
 refine TC.seq ?_
 refine TC.region ?_
 refine TV rfl rfl rfl (Val.build (cs:=[VI 1,.string (⟨#[102,117,110,99]⟩:ByteArray),VI 0]) (is:=[0,1]) (xs:=[.const (VI 1),.const (.string (⟨#[102,117,110,99]⟩:ByteArray))]) Try.underlying41 zr41 bld41 rfl rfl rfl rfl) ?_
 refine TV rfl rfl rfl (Val.build (cs:=[VI 1,.string (⟨#[105,102]⟩:ByteArray),VI 0]) (is:=[0,1]) (xs:=[.const (VI 1),.const (.string (⟨#[105,102]⟩:ByteArray))]) Try.underlying41 zr41 bld41 rfl rfl rfl rfl) ?_
 refine TL.cons (TL.buildSlice (xs:=[.tmp 22,.tmp 23]) (vs:=[.agg #[VI 1,.string (⟨#[102,117,110,99]⟩:ByteArray),VI 0],.agg #[VI 1,.string (⟨#[105,102]⟩:ByteArray),VI 0]]) (cs:=[VI 1,.string (⟨#[102,117,110,99]⟩:ByteArray),VI 0,VI 1,.string (⟨#[105,102]⟩:ByteArray),VI 0]) rfl rfl Try.underlying32 zs41 rfl rfl rfl rfl rfl rfl rfl rfl (fun b18=>?_))
 refine TK.new (Els.nil k41) ?_
 refine TK.new (El.of (k:=k41) (xv:=(⟨1,(⟨#[102,117,110,99]⟩:ByteArray),0⟩:S41)) (cs:=[VI 1,.string (⟨#[102,117,110,99]⟩:ByteArray),VI 0]) (fun W B=>k41_mkM W B _ _)) ?_
 refine TK.sel (Ls:=[Els k41 [] [],El k41 (⟨1,(⟨#[102,117,110,99]⟩:ByteArray),0⟩:S41) [VI 1,.string (⟨#[102,117,110,99]⟩:ByteArray),VI 0],Blk b18 [VI 1,.string (⟨#[102,117,110,99]⟩:ByteArray),VI 0,VI 1,.string (⟨#[105,102]⟩:ByteArray),VI 0] 41,Blk b17 [VI y12.1.f0,.string y12.1.f1,VI y12.1.f2,.slice A14 y12.1.f3.length c15] 24,Row k24 24 (.slice A14 y12.1.f3.length c15) y12.1.f3]) [1,0,2,3,4] 5 rfl rfl rfl ?_
 refine TK.two (ch:=Els k41 [(⟨1,(⟨#[102,117,110,99]⟩:ByteArray),0⟩:S41)] [VI 1,.string (⟨#[102,117,110,99]⟩:ByteArray),VI 0]) (Els.snoc k41) ?_
 refine TK.new (El.of (k:=k41) (xv:=(⟨1,(⟨#[105,102]⟩:ByteArray),0⟩:S41)) (cs:=[VI 1,.string (⟨#[105,102]⟩:ByteArray),VI 0]) (fun W B=>k41_mkM W B _ _)) ?_
 refine TK.sel (Ls:=[Els k41 [(⟨1,(⟨#[102,117,110,99]⟩:ByteArray),0⟩:S41)] [VI 1,.string (⟨#[102,117,110,99]⟩:ByteArray),VI 0],El k41 (⟨1,(⟨#[105,102]⟩:ByteArray),0⟩:S41) [VI 1,.string (⟨#[105,102]⟩:ByteArray),VI 0],Blk b18 [VI 1,.string (⟨#[102,117,110,99]⟩:ByteArray),VI 0,VI 1,.string (⟨#[105,102]⟩:ByteArray),VI 0] 41,Blk b17 [VI y12.1.f0,.string y12.1.f1,VI y12.1.f2,.slice A14 y12.1.f3.length c15] 24,Row k24 24 (.slice A14 y12.1.f3.length c15) y12.1.f3]) [1,0,2,3,4] 5 rfl rfl rfl ?_
 refine TK.two (ch:=Els k41 [(⟨1,(⟨#[102,117,110,99]⟩:ByteArray),0⟩:S41),(⟨1,(⟨#[105,102]⟩:ByteArray),0⟩:S41)] [VI 1,.string (⟨#[102,117,110,99]⟩:ByteArray),VI 0,VI 1,.string (⟨#[105,102]⟩:ByteArray),VI 0]) (Els.snoc k41) ?_
 refine TK.sel (Ls:=[Blk b18 [VI 1,.string (⟨#[102,117,110,99]⟩:ByteArray),VI 0,VI 1,.string (⟨#[105,102]⟩:ByteArray),VI 0] 41,Els k41 [(⟨1,(⟨#[102,117,110,99]⟩:ByteArray),0⟩:S41),(⟨1,(⟨#[105,102]⟩:ByteArray),0⟩:S41)] [VI 1,.string (⟨#[102,117,110,99]⟩:ByteArray),VI 0,VI 1,.string (⟨#[105,102]⟩:ByteArray),VI 0],Blk b17 [VI y12.1.f0,.string y12.1.f1,VI y12.1.f2,.slice A14 y12.1.f3.length c15] 24,Row k24 24 (.slice A14 y12.1.f3.length c15) y12.1.f3]) [1,0,2,3] 4 rfl rfl rfl ?_
 refine TK.two (ch:=Row k41 41 (.slice (some ⟨b18,0,none⟩) 2 2) ([(⟨1,(⟨#[102,117,110,99]⟩:ByteArray),0⟩:S41),(⟨1,(⟨#[105,102]⟩:ByteArray),0⟩:S41)]:List S41)) (Row.lit k41 rfl rfl) ?_
 refine TK.share (fun G20 e21 hs22 hb23=>?_)
 have rd24:Rd G20 k41 (some ⟨b18,0,none⟩) ([(⟨1,(⟨#[102,117,110,99]⟩:ByteArray),0⟩:S41),(⟨1,(⟨#[105,102]⟩:ByteArray),0⟩:S41)]:List S41):=Rd.row hs22
 have le25:([(⟨1,(⟨#[102,117,110,99]⟩:ByteArray),0⟩:S41),(⟨1,(⟨#[105,102]⟩:ByteArray),0⟩:S41)]:List S41).length ≤ 2:=Row.le hs22
 obtain ⟨y26,hy27,h⟩:=bind_no h
 refine TL.cons (TL.callV (Lin:=[]) (args:=[.slice (some ⟨b18,0,none⟩) 2 2]) rfl rfl rfl hbd18 rfl rfl (parse_Parse.calls (a0:=([(⟨1,(⟨#[102,117,110,99]⟩:ByteArray),0⟩:S41),(⟨1,(⟨#[105,102]⟩:ByteArray),0⟩:S41)]:List S41)) rd24 le25 hy27) rfl ?_)
 rintro _ _ _ _ ⟨rfl,A28,c29,rfl,rfl⟩
 refine TV rfl rfl rfl (Val.move rfl) ?_
 refine TV rfl rfl rfl (Val.extract rfl rfl) ?_
 refine TV rfl rfl rfl (Val.extract rfl rfl) ?_
 refine TV rfl rfl rfl (Val.extract rfl rfl) ?_
 refine TL.cons (TL.alloc (cs:=[VI 0,.string (⟨#[]⟩:ByteArray),VI 0,.slice none 0 0]) rfl rfl zr24 rfl (fun b31=>?_))
 refine TL.cons (TL.store 0 (ds:=[VI y26.1.f0,.string y26.1.f1,VI y26.1.f2,.slice A28 y26.1.f3.length c29]) (cs':=[VI y26.1.f0,.string y26.1.f1,VI y26.1.f2,.slice A28 y26.1.f3.length c29]) (L':=(Blk b31 [VI y26.1.f0,.string y26.1.f1,VI y26.1.f2,.slice A28 y26.1.f3.length c29] 24::Row k24 24 (.slice A28 y26.1.f3.length c29) y26.1.f3::Blk b17 [VI y12.1.f0,.string y12.1.f1,VI y12.1.f2,.slice A14 y12.1.f3.length c15] 24::Row k24 24 (.slice A14 y12.1.f3.length c15) y12.1.f3::L)) rfl fsz24 rfl rfl rfl rfl rfl (Nat.le_of_ble_eq_true rfl) rfl rfl ?_)
 refine TV rfl rfl rfl (Val.assign rfl) ?_
 refine TV rfl rfl rfl (Val.assign rfl) ?_
 refine TL.nil ?_
 refine TQ.then_ ?_
 refine TC.seq ?_
 refine TC.back hb23 ?_
 refine TC.back hb9 ?_
 refine TC.region ?_
 refine TV rfl rfl rfl (Val.move rfl) ?_
 refine TV rfl rfl rfl (Val.cmp rfl rfl run_eql) ?_
 refine TV rfl rfl rfl (Val.move rfl) ?_
 refine TK.split (p:=y1.2.2=0) h (fun hg75 h=>?_) (fun hg75 h=>?_)
 ·
  have hk76:decide (y1.2.2=0)=true:=decide_eq_true hg75
  refine TV (Wt.yes rfl rfl rfl hk76) rfl rfl (Val.move rfl) ?_
  refine TV (Wt.yes rfl rfl rfl hk76) rfl rfl (Val.cmp rfl rfl run_eql) ?_
  refine TV rfl rfl rfl (Val.pickY rfl hk76 rfl) ?_
  refine TV rfl rfl rfl (Val.move rfl) ?_
  refine TK.split (p:=y12.2.2=0) h (fun hg77 h=>?_) (fun hg77 h=>?_)
  ·
   have hk78:decide (y12.2.2=0)=true:=decide_eq_true hg77
   refine TV (Wt.yes rfl rfl rfl hk78) rfl rfl (Val.move rfl) ?_
   refine TV (Wt.yes rfl rfl rfl hk78) rfl rfl (Val.move rfl) ?_
   refine TV (Wt.yes rfl rfl rfl hk78) rfl rfl (Val.len Try.underlying32 rfl) ?_
   refine TV (Wt.yes rfl rfl rfl hk78) rfl rfl (Val.cmp rfl rfl run_eql) ?_
   refine TV rfl rfl rfl (Val.pickY rfl hk78 rfl) ?_
   refine TV rfl rfl rfl (Val.move rfl) ?_
   refine TK.split (p:=y12.2.1=(y1.1.length:Int)) h (fun hg79 h=>?_) (fun hg79 h=>?_)
   ·
    have hk80:decide (y12.2.1=(y1.1.length:Int))=true:=decide_eq_true hg79
    refine TV (Wt.yes rfl rfl rfl hk80) rfl rfl (Val.loadsB 4 (cs:=[VI y12.1.f0,.string y12.1.f1,VI y12.1.f2,.slice A14 y12.1.f3.length c15]) agg24 fsz24 rfl rfl rfl rfl) ?_
    refine TK.sel (Ls:=[Row k24 24 (.slice A14 y12.1.f3.length c15) y12.1.f3,Row k41 41 (.slice A3 y1.1.length c4) y1.1,Row k41 41 (.slice (some ⟨b18,0,none⟩) 2 2) ([(⟨1,(⟨#[102,117,110,99]⟩:ByteArray),0⟩:S41),(⟨1,(⟨#[105,102]⟩:ByteArray),0⟩:S41)]:List S41),Blk b31 [VI y26.1.f0,.string y26.1.f1,VI y26.1.f2,.slice A28 y26.1.f3.length c29] 24,Row k24 24 (.slice A28 y26.1.f3.length c29) y26.1.f3,Blk b17 [VI y12.1.f0,.string y12.1.f1,VI y12.1.f2,.slice A14 y12.1.f3.length c15] 24]) [5,0,1,2,3,4] 6 rfl rfl rfl ?_
    refine TK.share (fun G81 e82 hs83 hb84=>?_)
    have rd85:Rd G81 k24 A14 y12.1.f3:=Rd.row hs83
    have le86:y12.1.f3.length ≤ c15:=Row.le hs83
    obtain ⟨y87,hy88,h⟩:=bind_no h
    refine TL.cons (TL.callV (Lin:=[]) (args:=[.agg #[VI y12.1.f0,.string y12.1.f1,VI y12.1.f2,.slice A14 y12.1.f3.length c15]]) (Wt.yes rfl rfl rfl hk80) rfl rfl hbd9 rfl rfl (parse_Text.calls (a0:=y12.1) rd85 le86 hy88) rfl ?_)
    rintro _ _ _ _ ⟨rfl,rfl,rfl⟩
    refine TV (Wt.yes rfl rfl rfl hk80) rfl rfl (Val.eqT rfl rfl) ?_
    refine TV rfl rfl rfl (Val.pickY rfl hk80 rfl) ?_
    refine TV rfl rfl rfl (Val.move rfl) ?_
    refine TK.split (p:=(y87.data.toList == (⟨#[102,117,110,99,32,102,32,40,32,97,32,105,110,116,32,41,32,123,32,112,114,105,110,116,32,40,32,49,32,43,32,40,32,50,32,42,32,97,32,41,32,41,32,59,32,125,10]⟩:ByteArray).data.toList)=true) h (fun hg89 h=>?_) (fun hg89 h=>?_)
    ·
     have hk90:(y87.data.toList == (⟨#[102,117,110,99,32,102,32,40,32,97,32,105,110,116,32,41,32,123,32,112,114,105,110,116,32,40,32,49,32,43,32,40,32,50,32,42,32,97,32,41,32,41,32,59,32,125,10]⟩:ByteArray).data.toList)=true:=hg89
     refine TV (Wt.yes rfl rfl rfl hk90) rfl rfl (Val.loadsB 4 (cs:=[VI y12.1.f0,.string y12.1.f1,VI y12.1.f2,.slice A14 y12.1.f3.length c15]) agg24 fsz24 rfl rfl rfl rfl) ?_
     obtain ⟨y91,hy92,h⟩:=bind_no h
     refine TL.cons (TL.callV (Lin:=[]) (args:=[.agg #[VI y12.1.f0,.string y12.1.f1,VI y12.1.f2,.slice A14 y12.1.f3.length c15]]) (Wt.yes rfl rfl rfl hk90) rfl rfl hbd11 rfl rfl (parse_Size.calls (a0:=y12.1) rd85 le86 hy92) rfl ?_)
     rintro _ _ _ _ ⟨rfl,rfl,rfl⟩
     refine TV (Wt.yes rfl rfl rfl hk90) rfl rfl (Val.cmp rfl rfl run_eql) ?_
     refine TV rfl rfl rfl (Val.pickY rfl hk90 rfl) ?_
     refine TV rfl rfl rfl (Val.move rfl) ?_
     refine TK.split (p:=y91=12) h (fun hg93 h=>?_) (fun hg93 h=>?_)
     ·
      have hk94:decide (y91=12)=true:=decide_eq_true hg93
      refine TV (Wt.yes rfl rfl rfl hk94) rfl rfl (Val.move rfl) ?_
      refine TV (Wt.yes rfl rfl rfl hk94) rfl rfl (Val.cmp rfl rfl run_eql) ?_
      refine TV rfl rfl rfl (Val.pickY rfl hk94 rfl) ?_
      refine TV rfl rfl rfl (Val.move rfl) ?_
      refine TK.split (p:=y26.2.1=1) h (fun hg95 h=>?_) (fun hg95 h=>?_)
      ·
       have hk96:decide (y26.2.1=1)=true:=decide_eq_true hg95
       refine TV (Wt.yes rfl rfl rfl hk96) rfl rfl (Val.move rfl) ?_
       refine TV (Wt.yes rfl rfl rfl hk96) rfl rfl (Val.cmp rfl rfl run_eql) ?_
       refine TV rfl rfl rfl (Val.pickY rfl hk96 rfl) ?_
       refine TV rfl rfl rfl (Val.move rfl) ?_
       refine TK.split (p:=y26.2.2=2) h (fun hg97 h=>?_) (fun hg97 h=>?_)
       ·
        have hk98:decide (y26.2.2=2)=true:=decide_eq_true hg97
        obtain ⟨y99,hy100,h⟩:=bind_no h
        refine TL.cons (TL.callV (Lin:=[]) (args:=[.string (⟨#[114,101,97,100]⟩:ByteArray)]) (Wt.yes rfl rfl rfl hk98) rfl rfl hbd15 rfl rfl (parse_Word.calls (a0:=(⟨#[114,101,97,100]⟩:ByteArray)) hy100) rfl ?_)
        rintro _ _ _ _ ⟨rfl,rfl,rfl⟩
        refine TV rfl rfl rfl (Val.pickY rfl hk98 rfl) ?_
        refine TV rfl rfl rfl (Val.move rfl) ?_
        refine TK.split (p:=y99=true) h (fun hg101 h=>?_) (fun hg101 h=>?_)
        ·
         have hk102:y99=true:=hg101
         obtain ⟨y103,hy104,h⟩:=bind_no h
         refine TL.cons (TL.callV (Lin:=[]) (args:=[.string (⟨#[102]⟩:ByteArray)]) (Wt.yes rfl rfl rfl hk102) rfl rfl hbd15 rfl rfl (parse_Word.calls (a0:=(⟨#[102]⟩:ByteArray)) hy104) rfl ?_)
         rintro _ _ _ _ ⟨rfl,rfl,rfl⟩
         refine TV (Wt.yes rfl rfl rfl hk102) rfl rfl (Val.not_ rfl) ?_
         refine TV rfl rfl rfl (Val.pickY rfl hk102 rfl) ?_
         refine TV rfl rfl rfl (Val.move rfl) ?_
         refine TK.split (p:=(!y103)=true) h (fun hg105 h=>?_) (fun hg105 h=>?_)
         ·
          have hk106:(!y103)=true:=hg105
          refine TV (Wt.yes rfl rfl rfl hk106) rfl rfl (Val.loadsB 4 (cs:=[VI y12.1.f0,.string y12.1.f1,VI y12.1.f2,.slice A14 y12.1.f3.length c15]) agg24 fsz24 rfl rfl rfl rfl) ?_
          refine TV (Wt.yes rfl rfl rfl hk106) rfl rfl (Val.loadsB 4 (cs:=[VI y12.1.f0,.string y12.1.f1,VI y12.1.f2,.slice A14 y12.1.f3.length c15]) agg24 fsz24 rfl rfl rfl rfl) ?_
          obtain ⟨y107,hy108,h⟩:=bind_no h
          refine TL.cons (TL.callV (Lin:=[]) (args:=[.agg #[VI y12.1.f0,.string y12.1.f1,VI y12.1.f2,.slice A14 y12.1.f3.length c15],.agg #[VI y12.1.f0,.string y12.1.f1,VI y12.1.f2,.slice A14 y12.1.f3.length c15]]) (Wt.yes rfl rfl rfl hk106) rfl rfl hbd13 rfl rfl (parse_Same.calls (a0:=y12.1) (a1:=y12.1) rd85 le86 rd85 le86 hy108) rfl ?_)
          rintro _ _ _ _ ⟨rfl,rfl,rfl⟩
          refine TV rfl rfl rfl (Val.pickY rfl hk106 rfl) ?_
          refine TV rfl rfl rfl (Val.assign rfl) ?_
          refine TL.nil ?_
          refine TQ.then_ ?_
          refine TC.ret ?_
          refine TQ.back hb84 ?_
          obtain rfl:=Option.some.inj h
          exact TQ.fin (.inl rfl) rfl Try.results7 (.tmp rfl .nil) rfl (FRel.mk (Ls:=[]) [] 6 (Gd.le.refl _) rfl rfl rfl ⟨rfl,rfl,rfl⟩)
         ·
          have hk109:(!y103)=false:=(by simpa using hg105)
          refine TL.cons (TL.not (Wt.no rfl rfl rfl hk109) rfl ?_)
          refine TL.cons (TL.not (Wt.no rfl rfl rfl hk109) rfl ?_)
          refine TL.cons (TL.not (Wt.no rfl rfl rfl hk109) rfl ?_)
          refine TV rfl rfl rfl (Val.pickN rfl hk109 rfl) ?_
          refine TV rfl rfl rfl (Val.assign rfl) ?_
          refine TL.nil ?_
          refine TQ.then_ ?_
          refine TC.ret ?_
          refine TQ.back hb84 ?_
          obtain rfl:=Option.some.inj h
          exact TQ.fin (.inl rfl) rfl Try.results7 (.tmp rfl .nil) rfl (FRel.mk (Ls:=[]) [] 6 (Gd.le.refl _) rfl rfl rfl ⟨rfl,rfl,rfl⟩)
        ·
         have hk110:y99=false:=(by simpa using hg101)
         refine TL.cons (TL.not (Wt.no rfl rfl rfl hk110) rfl ?_)
         refine TL.cons (TL.not (Wt.no rfl rfl rfl hk110) rfl ?_)
         refine TV rfl rfl rfl (Val.pickN rfl hk110 rfl) ?_
         refine TV rfl rfl rfl (Val.move rfl) ?_
         refine TL.cons (TL.not (Wt.no rfl rfl rfl rfl) rfl ?_)
         refine TL.cons (TL.not (Wt.no rfl rfl rfl rfl) rfl ?_)
         refine TL.cons (TL.not (Wt.no rfl rfl rfl rfl) rfl ?_)
         refine TV rfl rfl rfl (Val.pickN rfl rfl rfl) ?_
         refine TV rfl rfl rfl (Val.assign rfl) ?_
         refine TL.nil ?_
         refine TQ.then_ ?_
         refine TC.ret ?_
         refine TQ.back hb84 ?_
         obtain rfl:=Option.some.inj h
         exact TQ.fin (.inl rfl) rfl Try.results7 (.tmp rfl .nil) rfl (FRel.mk (Ls:=[]) [] 6 (Gd.le.refl _) rfl rfl rfl ⟨rfl,rfl,rfl⟩)
       ·
        have hk111:decide (y26.2.2=2)=false:=decide_eq_false hg97
        refine TL.cons (TL.not (Wt.no rfl rfl rfl hk111) rfl ?_)
        refine TV rfl rfl rfl (Val.pickN rfl hk111 rfl) ?_
        refine TV rfl rfl rfl (Val.move rfl) ?_
        refine TL.cons (TL.not (Wt.no rfl rfl rfl rfl) rfl ?_)
        refine TL.cons (TL.not (Wt.no rfl rfl rfl rfl) rfl ?_)
        refine TV rfl rfl rfl (Val.pickN rfl rfl rfl) ?_
        refine TV rfl rfl rfl (Val.move rfl) ?_
        refine TL.cons (TL.not (Wt.no rfl rfl rfl rfl) rfl ?_)
        refine TL.cons (TL.not (Wt.no rfl rfl rfl rfl) rfl ?_)
        refine TL.cons (TL.not (Wt.no rfl rfl rfl rfl) rfl ?_)
        refine TV rfl rfl rfl (Val.pickN rfl rfl rfl) ?_
        refine TV rfl rfl rfl (Val.assign rfl) ?_
        refine TL.nil ?_
        refine TQ.then_ ?_
        refine TC.ret ?_
        refine TQ.back hb84 ?_
        obtain rfl:=Option.some.inj h
        exact TQ.fin (.inl rfl) rfl Try.results7 (.tmp rfl .nil) rfl (FRel.mk (Ls:=[]) [] 6 (Gd.le.refl _) rfl rfl rfl ⟨rfl,rfl,rfl⟩)
      ·
       have hk112:decide (y26.2.1=1)=false:=decide_eq_false hg95
       refine TL.cons (TL.not (Wt.no rfl rfl rfl hk112) rfl ?_)
       refine TL.cons (TL.not (Wt.no rfl rfl rfl hk112) rfl ?_)
       refine TV rfl rfl rfl (Val.pickN rfl hk112 rfl) ?_
       refine TV rfl rfl rfl (Val.move rfl) ?_
       refine TL.cons (TL.not (Wt.no rfl rfl rfl rfl) rfl ?_)
       refine TV rfl rfl rfl (Val.pickN rfl rfl rfl) ?_
       refine TV rfl rfl rfl (Val.move rfl) ?_
       refine TL.cons (TL.not (Wt.no rfl rfl rfl rfl) rfl ?_)
       refine TL.cons (TL.not (Wt.no rfl rfl rfl rfl) rfl ?_)
       refine TV rfl rfl rfl (Val.pickN rfl rfl rfl) ?_
       refine TV rfl rfl rfl (Val.move rfl) ?_
       refine TL.cons (TL.not (Wt.no rfl rfl rfl rfl) rfl ?_)
       refine TL.cons (TL.not (Wt.no rfl rfl rfl rfl) rfl ?_)
       refine TL.cons (TL.not (Wt.no rfl rfl rfl rfl) rfl ?_)
       refine TV rfl rfl rfl (Val.pickN rfl rfl rfl) ?_
       refine TV rfl rfl rfl (Val.assign rfl) ?_
       refine TL.nil ?_
       refine TQ.then_ ?_
       refine TC.ret ?_
       refine TQ.back hb84 ?_
       obtain rfl:=Option.some.inj h
       exact TQ.fin (.inl rfl) rfl Try.results7 (.tmp rfl .nil) rfl (FRel.mk (Ls:=[]) [] 6 (Gd.le.refl _) rfl rfl rfl ⟨rfl,rfl,rfl⟩)
     ·
      have hk113:decide (y91=12)=false:=decide_eq_false hg93
      refine TL.cons (TL.not (Wt.no rfl rfl rfl hk113) rfl ?_)
      refine TL.cons (TL.not (Wt.no rfl rfl rfl hk113) rfl ?_)
      refine TV rfl rfl rfl (Val.pickN rfl hk113 rfl) ?_
      refine TV rfl rfl rfl (Val.move rfl) ?_
      refine TL.cons (TL.not (Wt.no rfl rfl rfl rfl) rfl ?_)
      refine TL.cons (TL.not (Wt.no rfl rfl rfl rfl) rfl ?_)
      refine TV rfl rfl rfl (Val.pickN rfl rfl rfl) ?_
      refine TV rfl rfl rfl (Val.move rfl) ?_
      refine TL.cons (TL.not (Wt.no rfl rfl rfl rfl) rfl ?_)
      refine TV rfl rfl rfl (Val.pickN rfl rfl rfl) ?_
      refine TV rfl rfl rfl (Val.move rfl) ?_
      refine TL.cons (TL.not (Wt.no rfl rfl rfl rfl) rfl ?_)
      refine TL.cons (TL.not (Wt.no rfl rfl rfl rfl) rfl ?_)
      refine TV rfl rfl rfl (Val.pickN rfl rfl rfl) ?_
      refine TV rfl rfl rfl (Val.move rfl) ?_
      refine TL.cons (TL.not (Wt.no rfl rfl rfl rfl) rfl ?_)
      refine TL.cons (TL.not (Wt.no rfl rfl rfl rfl) rfl ?_)
      refine TL.cons (TL.not (Wt.no rfl rfl rfl rfl) rfl ?_)
      refine TV rfl rfl rfl (Val.pickN rfl rfl rfl) ?_
      refine TV rfl rfl rfl (Val.assign rfl) ?_
      refine TL.nil ?_
      refine TQ.then_ ?_
      refine TC.ret ?_
      refine TQ.back hb84 ?_
      obtain rfl:=Option.some.inj h
      exact TQ.fin (.inl rfl) rfl Try.results7 (.tmp rfl .nil) rfl (FRel.mk (Ls:=[]) [] 6 (Gd.le.refl _) rfl rfl rfl ⟨rfl,rfl,rfl⟩)
    ·
     have hk114:(y87.data.toList == (⟨#[102,117,110,99,32,102,32,40,32,97,32,105,110,116,32,41,32,123,32,112,114,105,110,116,32,40,32,49,32,43,32,40,32,50,32,42,32,97,32,41,32,41,32,59,32,125,10]⟩:ByteArray).data.toList)=false:=(by simpa using hg89)
     refine TL.cons (TL.not (Wt.no rfl rfl rfl hk114) rfl ?_)
     refine TL.cons (TL.not (Wt.no rfl rfl rfl hk114) rfl ?_)
     refine TL.cons (TL.not (Wt.no rfl rfl rfl hk114) rfl ?_)
     refine TV rfl rfl rfl (Val.pickN rfl hk114 rfl) ?_
     refine TV rfl rfl rfl (Val.move rfl) ?_
     refine TL.cons (TL.not (Wt.no rfl rfl rfl rfl) rfl ?_)
     refine TL.cons (TL.not (Wt.no rfl rfl rfl rfl) rfl ?_)
     refine TV rfl rfl rfl (Val.pickN rfl rfl rfl) ?_
     refine TV rfl rfl rfl (Val.move rfl) ?_
     refine TL.cons (TL.not (Wt.no rfl rfl rfl rfl) rfl ?_)
     refine TL.cons (TL.not (Wt.no rfl rfl rfl rfl) rfl ?_)
     refine TV rfl rfl rfl (Val.pickN rfl rfl rfl) ?_
     refine TV rfl rfl rfl (Val.move rfl) ?_
     refine TL.cons (TL.not (Wt.no rfl rfl rfl rfl) rfl ?_)
     refine TV rfl rfl rfl (Val.pickN rfl rfl rfl) ?_
     refine TV rfl rfl rfl (Val.move rfl) ?_
     refine TL.cons (TL.not (Wt.no rfl rfl rfl rfl) rfl ?_)
     refine TL.cons (TL.not (Wt.no rfl rfl rfl rfl) rfl ?_)
     refine TV rfl rfl rfl (Val.pickN rfl rfl rfl) ?_
     refine TV rfl rfl rfl (Val.move rfl) ?_
     refine TL.cons (TL.not (Wt.no rfl rfl rfl rfl) rfl ?_)
     refine TL.cons (TL.not (Wt.no rfl rfl rfl rfl) rfl ?_)
     refine TL.cons (TL.not (Wt.no rfl rfl rfl rfl) rfl ?_)
     refine TV rfl rfl rfl (Val.pickN rfl rfl rfl) ?_
     refine TV rfl rfl rfl (Val.assign rfl) ?_
     refine TL.nil ?_
     refine TQ.then_ ?_
     refine TC.ret ?_
     refine TQ.back hb84 ?_
     obtain rfl:=Option.some.inj h
     exact TQ.fin (.inl rfl) rfl Try.results7 (.tmp rfl .nil) rfl (FRel.mk (Ls:=[]) [] 6 (Gd.le.refl _) rfl rfl rfl ⟨rfl,rfl,rfl⟩)
   ·
    have hk115:decide (y12.2.1=(y1.1.length:Int))=false:=decide_eq_false hg79
    refine TL.cons (TL.not (Wt.no rfl rfl rfl hk115) rfl ?_)
    refine TL.cons (TL.not (Wt.no rfl rfl rfl hk115) rfl ?_)
    refine TL.cons (TL.not (Wt.no rfl rfl rfl hk115) rfl ?_)
    refine TV rfl rfl rfl (Val.pickN rfl hk115 rfl) ?_
    refine TV rfl rfl rfl (Val.move rfl) ?_
    refine TL.cons (TL.not (Wt.no rfl rfl rfl rfl) rfl ?_)
    refine TL.cons (TL.not (Wt.no rfl rfl rfl rfl) rfl ?_)
    refine TL.cons (TL.not (Wt.no rfl rfl rfl rfl) rfl ?_)
    refine TV rfl rfl rfl (Val.pickN rfl rfl rfl) ?_
    refine TV rfl rfl rfl (Val.move rfl) ?_
    refine TL.cons (TL.not (Wt.no rfl rfl rfl rfl) rfl ?_)
    refine TL.cons (TL.not (Wt.no rfl rfl rfl rfl) rfl ?_)
    refine TV rfl rfl rfl (Val.pickN rfl rfl rfl) ?_
    refine TV rfl rfl rfl (Val.move rfl) ?_
    refine TL.cons (TL.not (Wt.no rfl rfl rfl rfl) rfl ?_)
    refine TL.cons (TL.not (Wt.no rfl rfl rfl rfl) rfl ?_)
    refine TV rfl rfl rfl (Val.pickN rfl rfl rfl) ?_
    refine TV rfl rfl rfl (Val.move rfl) ?_
    refine TL.cons (TL.not (Wt.no rfl rfl rfl rfl) rfl ?_)
    refine TV rfl rfl rfl (Val.pickN rfl rfl rfl) ?_
    refine TV rfl rfl rfl (Val.move rfl) ?_
    refine TL.cons (TL.not (Wt.no rfl rfl rfl rfl) rfl ?_)
    refine TL.cons (TL.not (Wt.no rfl rfl rfl rfl) rfl ?_)
    refine TV rfl rfl rfl (Val.pickN rfl rfl rfl) ?_
    refine TV rfl rfl rfl (Val.move rfl) ?_
    refine TL.cons (TL.not (Wt.no rfl rfl rfl rfl) rfl ?_)
    refine TL.cons (TL.not (Wt.no rfl rfl rfl rfl) rfl ?_)
    refine TL.cons (TL.not (Wt.no rfl rfl rfl rfl) rfl ?_)
    refine TV rfl rfl rfl (Val.pickN rfl rfl rfl) ?_
    refine TV rfl rfl rfl (Val.assign rfl) ?_
    refine TL.nil ?_
    refine TQ.then_ ?_
    refine TC.ret ?_
    obtain rfl:=Option.some.inj h
    exact TQ.fin (.inl rfl) rfl Try.results7 (.tmp rfl .nil) rfl (FRel.mk (Ls:=[]) [] 6 (Gd.le.refl _) rfl rfl rfl ⟨rfl,rfl,rfl⟩)
  ·
   have hk116:decide (y12.2.2=0)=false:=decide_eq_false hg77
   refine TL.cons (TL.not (Wt.no rfl rfl rfl hk116) rfl ?_)
   refine TL.cons (TL.not (Wt.no rfl rfl rfl hk116) rfl ?_)
   refine TL.cons (TL.not (Wt.no rfl rfl rfl hk116) rfl ?_)
   refine TL.cons (TL.not (Wt.no rfl rfl rfl hk116) rfl ?_)
   refine TV rfl rfl rfl (Val.pickN rfl hk116 rfl) ?_
   refine TV rfl rfl rfl (Val.move rfl) ?_
   refine TL.cons (TL.not (Wt.no rfl rfl rfl rfl) rfl ?_)
   refine TL.cons (TL.not (Wt.no rfl rfl rfl rfl) rfl ?_)
   refine TL.cons (TL.not (Wt.no rfl rfl rfl rfl) rfl ?_)
   refine TV rfl rfl rfl (Val.pickN rfl rfl rfl) ?_
   refine TV rfl rfl rfl (Val.move rfl) ?_
   refine TL.cons (TL.not (Wt.no rfl rfl rfl rfl) rfl ?_)
   refine TL.cons (TL.not (Wt.no rfl rfl rfl rfl) rfl ?_)
   refine TL.cons (TL.not (Wt.no rfl rfl rfl rfl) rfl ?_)
   refine TV rfl rfl rfl (Val.pickN rfl rfl rfl) ?_
   refine TV rfl rfl rfl (Val.move rfl) ?_
   refine TL.cons (TL.not (Wt.no rfl rfl rfl rfl) rfl ?_)
   refine TL.cons (TL.not (Wt.no rfl rfl rfl rfl) rfl ?_)
   refine TV rfl rfl rfl (Val.pickN rfl rfl rfl) ?_
   refine TV rfl rfl rfl (Val.move rfl) ?_
   refine TL.cons (TL.not (Wt.no rfl rfl rfl rfl) rfl ?_)
   refine TL.cons (TL.not (Wt.no rfl rfl rfl rfl) rfl ?_)
   refine TV rfl rfl rfl (Val.pickN rfl rfl rfl) ?_
   refine TV rfl rfl rfl (Val.move rfl) ?_
   refine TL.cons (TL.not (Wt.no rfl rfl rfl rfl) rfl ?_)
   refine TV rfl rfl rfl (Val.pickN rfl rfl rfl) ?_
   refine TV rfl rfl rfl (Val.move rfl) ?_
   refine TL.cons (TL.not (Wt.no rfl rfl rfl rfl) rfl ?_)
   refine TL.cons (TL.not (Wt.no rfl rfl rfl rfl) rfl ?_)
   refine TV rfl rfl rfl (Val.pickN rfl rfl rfl) ?_
   refine TV rfl rfl rfl (Val.move rfl) ?_
   refine TL.cons (TL.not (Wt.no rfl rfl rfl rfl) rfl ?_)
   refine TL.cons (TL.not (Wt.no rfl rfl rfl rfl) rfl ?_)
   refine TL.cons (TL.not (Wt.no rfl rfl rfl rfl) rfl ?_)
   refine TV rfl rfl rfl (Val.pickN rfl rfl rfl) ?_
   refine TV rfl rfl rfl (Val.assign rfl) ?_
   refine TL.nil ?_
   refine TQ.then_ ?_
   refine TC.ret ?_
   obtain rfl:=Option.some.inj h
   exact TQ.fin (.inl rfl) rfl Try.results7 (.tmp rfl .nil) rfl (FRel.mk (Ls:=[]) [] 6 (Gd.le.refl _) rfl rfl rfl ⟨rfl,rfl,rfl⟩)
 ·
  have hk117:decide (y1.2.2=0)=false:=decide_eq_false hg75
  refine TL.cons (TL.not (Wt.no rfl rfl rfl hk117) rfl ?_)
  refine TL.cons (TL.not (Wt.no rfl rfl rfl hk117) rfl ?_)
  refine TV rfl rfl rfl (Val.pickN rfl hk117 rfl) ?_
  refine TV rfl rfl rfl (Val.move rfl) ?_
  refine TL.cons (TL.not (Wt.no rfl rfl rfl rfl) rfl ?_)
  refine TL.cons (TL.not (Wt.no rfl rfl rfl rfl) rfl ?_)
  refine TL.cons (TL.not (Wt.no rfl rfl rfl rfl) rfl ?_)
  refine TL.cons (TL.not (Wt.no rfl rfl rfl rfl) rfl ?_)
  refine TV rfl rfl rfl (Val.pickN rfl rfl rfl) ?_
  refine TV rfl rfl rfl (Val.move rfl) ?_
  refine TL.cons (TL.not (Wt.no rfl rfl rfl rfl) rfl ?_)
  refine TL.cons (TL.not (Wt.no rfl rfl rfl rfl) rfl ?_)
  refine TL.cons (TL.not (Wt.no rfl rfl rfl rfl) rfl ?_)
  refine TV rfl rfl rfl (Val.pickN rfl rfl rfl) ?_
  refine TV rfl rfl rfl (Val.move rfl) ?_
  refine TL.cons (TL.not (Wt.no rfl rfl rfl rfl) rfl ?_)
  refine TL.cons (TL.not (Wt.no rfl rfl rfl rfl) rfl ?_)
  refine TL.cons (TL.not (Wt.no rfl rfl rfl rfl) rfl ?_)
  refine TV rfl rfl rfl (Val.pickN rfl rfl rfl) ?_
  refine TV rfl rfl rfl (Val.move rfl) ?_
  refine TL.cons (TL.not (Wt.no rfl rfl rfl rfl) rfl ?_)
  refine TL.cons (TL.not (Wt.no rfl rfl rfl rfl) rfl ?_)
  refine TV rfl rfl rfl (Val.pickN rfl rfl rfl) ?_
  refine TV rfl rfl rfl (Val.move rfl) ?_
  refine TL.cons (TL.not (Wt.no rfl rfl rfl rfl) rfl ?_)
  refine TL.cons (TL.not (Wt.no rfl rfl rfl rfl) rfl ?_)
  refine TV rfl rfl rfl (Val.pickN rfl rfl rfl) ?_
  refine TV rfl rfl rfl (Val.move rfl) ?_
  refine TL.cons (TL.not (Wt.no rfl rfl rfl rfl) rfl ?_)
  refine TV rfl rfl rfl (Val.pickN rfl rfl rfl) ?_
  refine TV rfl rfl rfl (Val.move rfl) ?_
  refine TL.cons (TL.not (Wt.no rfl rfl rfl rfl) rfl ?_)
  refine TL.cons (TL.not (Wt.no rfl rfl rfl rfl) rfl ?_)
  refine TV rfl rfl rfl (Val.pickN rfl rfl rfl) ?_
  refine TV rfl rfl rfl (Val.move rfl) ?_
  refine TL.cons (TL.not (Wt.no rfl rfl rfl rfl) rfl ?_)
  refine TL.cons (TL.not (Wt.no rfl rfl rfl rfl) rfl ?_)
  refine TL.cons (TL.not (Wt.no rfl rfl rfl rfl) rfl ?_)
  refine TV rfl rfl rfl (Val.pickN rfl rfl rfl) ?_
  refine TV rfl rfl rfl (Val.assign rfl) ?_
  refine TL.nil ?_
  refine TQ.then_ ?_
  refine TC.ret ?_
  obtain rfl:=Option.some.inj h
  exact TQ.fin (.inl rfl) rfl Try.results7 (.tmp rfl .nil) rfl (FRel.mk (Ls:=[]) [] 6 (Gd.le.refl _) rfl rfl rfl ⟨rfl,rfl,rfl⟩)
end Go.Proofs.Ythlhmoocgjddpaa.Sy
set_option linter.unusedVariables false
namespace Go.Proofs.Ythlhmoocgjddpaa.Sy
open Go Go.RowKit Go.Proofs.YthlhmoocgjddpaaW.PrintWords
theorem small10 : swagelaw10_small.f = some true := by decide +kernel
end Go.Proofs.Ythlhmoocgjddpaa.Sy
set_option linter.unusedVariables false
set_option linter.unusedSimpArgs false
set_option maxRecDepth 100000
set_option maxHeartbeats 4000000
namespace Go.Proofs.Ythlhmoocgjddpaa.Sy
open Go Go.RowKit Go.Proofs.YthlhmoocgjddpaaW.PrintWords 
def swagelaw10_ParsePlaces.f (a0:ByteArray) (a1:ByteArray):Option Bool:=(swagelaw10_small.f).bind fun (y1:Bool)=>jn (γ:=Bool) (fun (x6:Bool)=>(if x6=true then some y1 else (token_Lex.f a0).bind fun (y10:((List S41) × Int × Int))=>(token_Lex.f a1).bind fun (y15:((List S41) × Int × Int))=>jn (γ:=Bool) (fun (x23:Bool)=>(if x23=true then some y1 else (parse_Parse.f y10.1).bind fun (y33:(S24 × Int × Int))=>(parse_Parse.f y15.1).bind fun (y45:(S24 × Int × Int))=>(if ([]:List S41).length + y10.1.length ≤ 4398046511104 then (if (([]:List S41) ++ y10.1).length + y15.1.length ≤ 4398046511104 then (parse_Parse.f ((([]:List S41) ++ y10.1) ++ y15.1)).bind fun (y65:(S24 × Int × Int))=>(if (!decide (y33.2.2=0))=true then (if y1=true then (if 0 ≤ y33.2.1 then (if y33.2.1 ≤ (y10.1.length:Int) then (if y33.2.1=(y10.1.length:Int) then some true else (if y65.2.2=y33.2.2 then some (decide (y65.2.1=y33.2.1)) else some false)) else some false) else some false) else some false) else (if (!decide (y45.2.2=0))=true then (if y1=true then (if y65.2.2=y45.2.2 then some (decide (y65.2.1=(IntKind.i64.wrap ((y10.1.length:Int) + y45.2.1)))) else some false) else some false) else (if y1=true then (if y65.2.2=0 then (if y33.2.1=(y10.1.length:Int) then (parse_Size.f y65.1).bind fun (y282:Int)=>(parse_Size.f y33.1).bind fun (y284:Int)=>(parse_Size.f y45.1).bind fun (y286:Int)=>some (decide (y282=(IntKind.i64.wrap ((IntKind.i64.wrap (y284 + y286)) - 1)))) else some false) else some false) else some false))) else none) else none))) (fun (j24:(Bool → Option Bool))=>(if (!decide (y10.2.2=0))=true then j24 true else j24 (!decide (y15.2.2=0)))))) (fun (j7:(Bool → Option Bool))=>(if 1024 < (a0.size:Int) then j7 true else j7 (decide (1024 < (a1.size:Int)))))
def swagelaw10_ParsePlaces.post (G:Gd)  (r:Bool) (v:Value) (G':Gd) (Lr:List Ch):Prop:=G=G'∧v=.bool r∧Lr=[]
theorem swagelaw10_ParsePlaces.calls {G:Gd} {r:Bool} {a0:ByteArray} {a1:ByteArray} (h:swagelaw10_ParsePlaces.f a0 a1=some r):Fn Try.prog 5 G [] [.string a0,.string a1] (swagelaw10_ParsePlaces.post G  r):=by
 refine Fn.intro (e:=[(0,.string a0),(1,.string a1)]) 139 Try.func5 rfl Try.ntmps5 rfl rfl (Nat.le_of_ble_eq_true rfl) (fun L=>?_)
 unfold swagelaw10_ParsePlaces.f at h
 refine TC.seq ?_
 refine TC.region ?_
 refine TV rfl rfl rfl (Val.assign rfl) ?_
 refine TL.nil ?_
 refine TQ.then_ ?_
 refine TC.seq ?_
 refine TC.region ?_
 obtain ⟨y1,hy2,h⟩:=bind_no h
 refine TL.cons (TL.callV (Lin:=[]) (args:=[]) rfl rfl rfl hbd7 rfl rfl (swagelaw10_small.calls hy2) rfl ?_)
 rintro _ _ _ _ ⟨rfl,rfl,rfl⟩
 refine TV rfl rfl rfl (Val.assign rfl) ?_
 refine TL.nil ?_
 refine TQ.then_ ?_
 refine TC.seq ?_
 refine TC.seq ?_
 obtain ⟨j7,hj7,h⟩:=jn_no h
 refine TC.tail (fun a W=>∃ (x6:Bool),j7 x6=some r∧Fr 139 a [(0,.string a0),(1,.string a1),(5,.bool y1),(29,.bool x6)]∧Own G (L) W) ?_ ?_
 ·
  rintro a W ⟨x6,h,hF,hO⟩
  rw [hj7] at h
  refine TQ.use ?_ hF hO
  clear hF hO
  refine TQ.then_ ?_
  refine TC.cond_b rfl h (fun hc9 h=>?_) (fun hc9 h=>?_)
  ·
   refine TC.seq ?_
   refine TC.region ?_
   refine TV rfl rfl rfl (Val.move rfl) ?_
   refine TV rfl rfl rfl (Val.assign rfl) ?_
   refine TL.nil ?_
   refine TQ.then_ ?_
   refine TC.ret ?_
   refine TQ.thenR ?_
   obtain rfl:=Option.some.inj h
   exact TQ.fin (.inl rfl) rfl Try.results5 (.tmp rfl .nil) rfl (FRel.mk (Ls:=[]) [] 0 (Gd.le.refl _) rfl rfl rfl ⟨rfl,rfl,rfl⟩)
  ·
   refine TC.skip ?_
   refine TQ.then_ ?_
   refine TC.seq ?_
   refine TC.region ?_
   refine TV rfl rfl rfl (Val.move rfl) ?_
   obtain ⟨y10,hy11,h⟩:=bind_no h
   refine TL.cons (TL.callV (Lin:=[]) (args:=[.string a0]) rfl rfl rfl hbd17 rfl rfl (token_Lex.calls (a0:=a0) hy11) rfl ?_)
   rintro _ _ _ _ ⟨rfl,A12,c13,rfl,rfl⟩
   refine TV rfl rfl rfl (Val.move rfl) ?_
   refine TV rfl rfl rfl (Val.extract rfl rfl) ?_
   refine TV rfl rfl rfl (Val.extract rfl rfl) ?_
   refine TV rfl rfl rfl (Val.extract rfl rfl) ?_
   refine TV rfl rfl rfl (Val.assign rfl) ?_
   refine TV rfl rfl rfl (Val.assign rfl) ?_
   refine TV rfl rfl rfl (Val.assign rfl) ?_
   refine TL.nil ?_
   refine TQ.then_ ?_
   refine TC.seq ?_
   refine TC.region ?_
   refine TV rfl rfl rfl (Val.move rfl) ?_
   obtain ⟨y15,hy16,h⟩:=bind_no h
   refine TL.cons (TL.callV (Lin:=[]) (args:=[.string a1]) rfl rfl rfl hbd17 rfl rfl (token_Lex.calls (a0:=a1) hy16) rfl ?_)
   rintro _ _ _ _ ⟨rfl,A17,c18,rfl,rfl⟩
   refine TV rfl rfl rfl (Val.move rfl) ?_
   refine TV rfl rfl rfl (Val.extract rfl rfl) ?_
   refine TV rfl rfl rfl (Val.extract rfl rfl) ?_
   refine TV rfl rfl rfl (Val.extract rfl rfl) ?_
   refine TV rfl rfl rfl (Val.assign rfl) ?_
   refine TV rfl rfl rfl (Val.assign rfl) ?_
   refine TV rfl rfl rfl (Val.assign rfl) ?_
   refine TL.nil ?_
   refine TQ.then_ ?_
   refine TC.seq ?_
   refine TC.seq ?_
   obtain ⟨j24,hj24,h⟩:=jn_no h
   refine TC.tail (fun a W=>∃ (x23:Bool),j24 x23=some r∧Fr 139 a [(5,.bool y1),(6,.slice A12 y10.1.length c13),(9,.slice A17 y15.1.length c18),(48,.bool x23)]∧Own G (Row k41 41 (.slice A12 y10.1.length c13) y10.1::Row k41 41 (.slice A17 y15.1.length c18) y15.1::L) W) ?_ ?_
   ·
    rintro a W ⟨x23,h,hF,hO⟩
    rw [hj24] at h
    refine TQ.use ?_ hF hO
    clear hF hO
    refine TQ.then_ ?_
    refine TC.cond_b rfl h (fun hc26 h=>?_) (fun hc26 h=>?_)
    ·
     refine TC.seq ?_
     refine TC.region ?_
     refine TV rfl rfl rfl (Val.move rfl) ?_
     refine TV rfl rfl rfl (Val.assign rfl) ?_
     refine TL.nil ?_
     refine TQ.then_ ?_
     refine TC.ret ?_
     refine TQ.thenR ?_
     obtain rfl:=Option.some.inj h
     exact TQ.fin (.inl rfl) rfl Try.results5 (.tmp rfl .nil) rfl (FRel.mk (Ls:=[]) [] 2 (Gd.le.refl _) rfl rfl rfl ⟨rfl,rfl,rfl⟩)
    ·
     refine TC.skip ?_
     refine TQ.then_ ?_
     refine TC.seq ?_
     refine TC.region ?_
     refine TV rfl rfl rfl (Val.move rfl) ?_
     refine TK.share (fun G27 e28 hs29 hb30=>?_)
     have rd31:Rd G27 k41 A12 y10.1:=Rd.row hs29
     have le32:y10.1.length ≤ c13:=Row.le hs29
     obtain ⟨y33,hy34,h⟩:=bind_no h
     refine TL.cons (TL.callV (Lin:=[]) (args:=[.slice A12 y10.1.length c13]) rfl rfl rfl hbd18 rfl rfl (parse_Parse.calls (a0:=y10.1) rd31 le32 hy34) rfl ?_)
     rintro _ _ _ _ ⟨rfl,A35,c36,rfl,rfl⟩
     refine TV rfl rfl rfl (Val.move rfl) ?_
     refine TV rfl rfl rfl (Val.extract rfl rfl) ?_
     refine TV rfl rfl rfl (Val.extract rfl rfl) ?_
     refine TV rfl rfl rfl (Val.extract rfl rfl) ?_
     refine TL.cons (TL.alloc (cs:=[VI 0,.string (⟨#[]⟩:ByteArray),VI 0,.slice none 0 0]) rfl rfl zr24 rfl (fun b38=>?_))
     refine TL.cons (TL.store 0 (ds:=[VI y33.1.f0,.string y33.1.f1,VI y33.1.f2,.slice A35 y33.1.f3.length c36]) (cs':=[VI y33.1.f0,.string y33.1.f1,VI y33.1.f2,.slice A35 y33.1.f3.length c36]) (L':=(Blk b38 [VI y33.1.f0,.string y33.1.f1,VI y33.1.f2,.slice A35 y33.1.f3.length c36] 24::Row k24 24 (.slice A35 y33.1.f3.length c36) y33.1.f3::Row k41 41 (.slice A17 y15.1.length c18) y15.1::L)) rfl fsz24 rfl rfl rfl rfl rfl (Nat.le_of_ble_eq_true rfl) rfl rfl ?_)
     refine TV rfl rfl rfl (Val.assign rfl) ?_
     refine TV rfl rfl rfl (Val.assign rfl) ?_
     refine TL.nil ?_
     refine TQ.then_ ?_
     refine TC.seq ?_
     refine TC.region ?_
     refine TV rfl rfl rfl (Val.move rfl) ?_
     refine TK.sel (Ls:=[Row k41 41 (.slice A17 y15.1.length c18) y15.1,Blk b38 [VI y33.1.f0,.string y33.1.f1,VI y33.1.f2,.slice A35 y33.1.f3.length c36] 24,Row k24 24 (.slice A35 y33.1.f3.length c36) y33.1.f3]) [2,0,1] 3 rfl rfl rfl ?_
     refine TK.share (fun G39 e40 hs41 hb42=>?_)
     have rd43:Rd G39 k41 A17 y15.1:=Rd.row hs41
     have le44:y15.1.length ≤ c18:=Row.le hs41
     obtain ⟨y45,hy46,h⟩:=bind_no h
     refine TL.cons (TL.callV (Lin:=[]) (args:=[.slice A17 y15.1.length c18]) rfl rfl rfl hbd18 rfl rfl (parse_Parse.calls (a0:=y15.1) rd43 le44 hy46) rfl ?_)
     rintro _ _ _ _ ⟨rfl,A47,c48,rfl,rfl⟩
     refine TV rfl rfl rfl (Val.move rfl) ?_
     refine TV rfl rfl rfl (Val.extract rfl rfl) ?_
     refine TV rfl rfl rfl (Val.extract rfl rfl) ?_
     refine TV rfl rfl rfl (Val.extract rfl rfl) ?_
     refine TL.cons (TL.alloc (cs:=[VI 0,.string (⟨#[]⟩:ByteArray),VI 0,.slice none 0 0]) rfl rfl zr24 rfl (fun b50=>?_))
     refine TL.cons (TL.store 0 (ds:=[VI y45.1.f0,.string y45.1.f1,VI y45.1.f2,.slice A47 y45.1.f3.length c48]) (cs':=[VI y45.1.f0,.string y45.1.f1,VI y45.1.f2,.slice A47 y45.1.f3.length c48]) (L':=(Blk b50 [VI y45.1.f0,.string y45.1.f1,VI y45.1.f2,.slice A47 y45.1.f3.length c48] 24::Row k24 24 (.slice A47 y45.1.f3.length c48) y45.1.f3::Blk b38 [VI y33.1.f0,.string y33.1.f1,VI y33.1.f2,.slice A35 y33.1.f3.length c36] 24::Row k24 24 (.slice A35 y33.1.f3.length c36) y33.1.f3::L)) rfl fsz24 rfl rfl rfl rfl rfl (Nat.le_of_ble_eq_true rfl) rfl rfl ?_)
     refine TV rfl rfl rfl (Val.assign rfl) ?_
     refine TV rfl rfl rfl (Val.assign rfl) ?_
     refine TL.nil ?_
     refine TQ.then_ ?_
     refine TC.seq ?_
     refine TC.region ?_
     refine TL.cons (TL.buildSlice0 k41 rfl rfl Try.underlying32 zs41 (fun b51=>?_))
     refine TV rfl rfl rfl (Val.move rfl) ?_
     obtain ⟨ha53,h⟩:=ite_no h
     refine TL.cons (TL.appendR (xs:=([]:List S41)) (ys:=y10.1) k41 k41 rfl rfl Try.underlying32 inf41 rfl (Nat.le_of_ble_eq_true rfl) (Nat.le_of_ble_eq_true rfl) rfl rfl (by omega) (rd31.up e40) rfl (fun W B x cs _ h=>by rw [k41_open h]; exact k41_mkM W B _ x) (fun A54 c55=>?_))
     refine TV rfl rfl rfl (Val.move rfl) ?_
     obtain ⟨ha56,h⟩:=ite_no h
     refine TL.cons (TL.appendR (xs:=(([]:List S41) ++ y10.1)) (ys:=y15.1) k41 k41 rfl rfl Try.underlying32 inf41 rfl (Nat.le_of_ble_eq_true rfl) (Nat.le_of_ble_eq_true rfl) rfl rfl (by omega) rd43 rfl (fun W B x cs _ h=>by rw [k41_open h]; exact k41_mkM W B _ x) (fun A57 c58=>?_))
     refine TK.share (fun G59 e60 hs61 hb62=>?_)
     have rd63:Rd G59 k41 A57 ((([]:List S41) ++ y10.1) ++ y15.1):=Rd.row hs61
     have le64:((([]:List S41) ++ y10.1) ++ y15.1).length ≤ c58:=Row.le hs61
     obtain ⟨y65,hy66,h⟩:=bind_no h
     refine TL.cons (TL.callV (Lin:=[]) (args:=[.slice A57 ((([]:List S41) ++ y10.1) ++ y15.1).length c58]) rfl rfl rfl hbd18 rfl rfl (parse_Parse.calls (a0:=((([]:List S41) ++ y10.1) ++ y15.1)) rd63 le64 hy66) rfl ?_)
     rintro _ _ _ _ ⟨rfl,A67,c68,rfl,rfl⟩
     refine TV rfl rfl rfl (Val.move rfl) ?_
     refine TV rfl rfl rfl (Val.extract rfl rfl) ?_
     refine TV rfl rfl rfl (Val.extract rfl rfl) ?_
     refine TV rfl rfl rfl (Val.extract rfl rfl) ?_
     refine TL.cons (TL.alloc (cs:=[VI 0,.string (⟨#[]⟩:ByteArray),VI 0,.slice none 0 0]) rfl rfl zr24 rfl (fun b70=>?_))
     refine TL.cons (TL.store 0 (ds:=[VI y65.1.f0,.string y65.1.f1,VI y65.1.f2,.slice A67 y65.1.f3.length c68]) (cs':=[VI y65.1.f0,.string y65.1.f1,VI y65.1.f2,.slice A67 y65.1.f3.length c68]) (L':=(Blk b70 [VI y65.1.f0,.string y65.1.f1,VI y65.1.f2,.slice A67 y65.1.f3.length c68] 24::Row k24 24 (.slice A67 y65.1.f3.length c68) y65.1.f3::Blk b50 [VI y45.1.f0,.string y45.1.f1,VI y45.1.f2,.slice A47 y45.1.f3.length c48] 24::Row k24 24 (.slice A47 y45.1.f3.length c48) y45.1.f3::Blk b38 [VI y33.1.f0,.string y33.1.f1,VI y33.1.f2,.slice A35 y33.1.f3.length c36] 24::Row k24 24 (.slice A35 y33.1.f3.length c36) y33.1.f3::L)) rfl fsz24 rfl rfl rfl rfl rfl (Nat.le_of_ble_eq_true rfl) rfl rfl ?_)
     refine TV rfl rfl rfl (Val.assign rfl) ?_
     refine TV rfl rfl rfl (Val.assign rfl) ?_
     refine TL.nil ?_
     refine TQ.then_ ?_
     refine TC.seq ?_
     refine TC.seq ?_
     refine TC.region ?_
     refine TV rfl rfl rfl (Val.move rfl) ?_
     refine TV rfl rfl rfl (Val.cmp rfl rfl run_neq) ?_
     refine TL.nil ?_
     refine TQ.then_ ?_
     refine TC.back hb62 ?_
     refine TC.back hb42 ?_
     refine TC.back hb30 ?_
     refine TC.cond_b rfl h (fun hc102 h=>?_) (fun hc102 h=>?_)
     ·
      refine TC.seq ?_
      refine TC.region ?_
      refine TV rfl rfl rfl (Val.move rfl) ?_
      refine TV rfl rfl rfl (Val.move rfl) ?_
      refine TK.split (p:=y1=true) h (fun hg118 h=>?_) (fun hg118 h=>?_)
      ·
       have hk119:y1=true:=hg118
       refine TV (Wt.yes rfl rfl rfl hk119) rfl rfl (Val.move rfl) ?_
       refine TV (Wt.yes rfl rfl rfl hk119) rfl rfl (Val.cmp rfl rfl run_geq) ?_
       refine TV rfl rfl rfl (Val.pickY rfl hk119 rfl) ?_
       refine TV rfl rfl rfl (Val.move rfl) ?_
       refine TK.split (p:=0 ≤ y33.2.1) h (fun hg120 h=>?_) (fun hg120 h=>?_)
       ·
        have hk121:decide (0 ≤ y33.2.1)=true:=decide_eq_true hg120
        refine TV (Wt.yes rfl rfl rfl hk121) rfl rfl (Val.move rfl) ?_
        refine TV (Wt.yes rfl rfl rfl hk121) rfl rfl (Val.move rfl) ?_
        refine TV (Wt.yes rfl rfl rfl hk121) rfl rfl (Val.len Try.underlying32 rfl) ?_
        refine TV (Wt.yes rfl rfl rfl hk121) rfl rfl (Val.cmp rfl rfl run_leq) ?_
        refine TV rfl rfl rfl (Val.pickY rfl hk121 rfl) ?_
        refine TV rfl rfl rfl (Val.move rfl) ?_
        refine TK.split (p:=y33.2.1 ≤ (y10.1.length:Int)) h (fun hg122 h=>?_) (fun hg122 h=>?_)
        ·
         have hk123:decide (y33.2.1 ≤ (y10.1.length:Int))=true:=decide_eq_true hg122
         refine TV (Wt.yes rfl rfl rfl hk123) rfl rfl (Val.move rfl) ?_
         refine TV (Wt.yes rfl rfl rfl hk123) rfl rfl (Val.move rfl) ?_
         refine TV (Wt.yes rfl rfl rfl hk123) rfl rfl (Val.len Try.underlying32 rfl) ?_
         refine TV (Wt.yes rfl rfl rfl hk123) rfl rfl (Val.cmp rfl rfl run_eql) ?_
         refine TV (Wt.yes rfl rfl rfl hk123) rfl rfl (Val.move rfl) ?_
         refine TK.split (p:=y33.2.1=(y10.1.length:Int)) h (fun hg124 h=>?_) (fun hg124 h=>?_)
         ·
          have hk125:decide (y33.2.1=(y10.1.length:Int))=true:=decide_eq_true hg124
          refine TL.cons (TL.not (Wt.no rfl rfl rfl hk125) rfl ?_)
          refine TL.cons (TL.not (Wt.no rfl rfl rfl hk125) rfl ?_)
          refine TL.cons (TL.not (Wt.no rfl rfl rfl hk125) rfl ?_)
          refine TL.cons (TL.not (Wt.no rfl rfl rfl hk125) rfl ?_)
          refine TL.cons (TL.not rfl rfl ?_)
          refine TL.cons (TL.not rfl rfl ?_)
          refine TL.cons (TL.not rfl rfl ?_)
          refine TL.cons (TL.not (Wt.no rfl rfl rfl hk125) rfl ?_)
          refine TV (Wt.yes rfl rfl rfl hk123) rfl rfl (Val.pickY rfl hk125 rfl) ?_
          refine TV rfl rfl rfl (Val.pickY rfl hk123 rfl) ?_
          refine TV rfl rfl rfl (Val.assign rfl) ?_
          refine TL.nil ?_
          refine TQ.then_ ?_
          refine TC.ret ?_
          refine TQ.thenR ?_
          obtain rfl:=Option.some.inj h
          exact TQ.fin (.inl rfl) rfl Try.results5 (.tmp rfl .nil) rfl (FRel.mk (Ls:=[]) [] 9 (Gd.le.refl _) rfl rfl rfl ⟨rfl,rfl,rfl⟩)
         ·
          have hk126:decide (y33.2.1=(y10.1.length:Int))=false:=decide_eq_false hg124
          refine TV (Wt.yes rfl rfl rfl hk126) rfl rfl (Val.move rfl) ?_
          refine TV (Wt.yes rfl rfl rfl hk126) rfl rfl (Val.move rfl) ?_
          refine TV (Wt.yes rfl rfl rfl hk126) rfl rfl (Val.cmp rfl rfl run_eql) ?_
          refine TV (Wt.yes rfl rfl rfl hk126) rfl rfl (Val.move rfl) ?_
          refine TK.split (p:=y65.2.2=y33.2.2) h (fun hg127 h=>?_) (fun hg127 h=>?_)
          ·
           have hk128:decide (y65.2.2=y33.2.2)=true:=decide_eq_true hg127
           refine TV (Wt.yes rfl rfl rfl hk128) rfl rfl (Val.move rfl) ?_
           refine TV (Wt.yes rfl rfl rfl hk128) rfl rfl (Val.move rfl) ?_
           refine TV (Wt.yes rfl rfl rfl hk128) rfl rfl (Val.cmp rfl rfl run_eql) ?_
           refine TV (Wt.yes rfl rfl rfl hk126) rfl rfl (Val.pickY rfl hk128 rfl) ?_
           refine TV (Wt.yes rfl rfl rfl hk123) rfl rfl (Val.pickN rfl hk126 rfl) ?_
           refine TV rfl rfl rfl (Val.pickY rfl hk123 rfl) ?_
           refine TV rfl rfl rfl (Val.assign rfl) ?_
           refine TL.nil ?_
           refine TQ.then_ ?_
           refine TC.ret ?_
           refine TQ.thenR ?_
           obtain rfl:=Option.some.inj h
           exact TQ.fin (.inl rfl) rfl Try.results5 (.tmp rfl .nil) rfl (FRel.mk (Ls:=[]) [] 9 (Gd.le.refl _) rfl rfl rfl ⟨rfl,rfl,rfl⟩)
          ·
           have hk129:decide (y65.2.2=y33.2.2)=false:=decide_eq_false hg127
           refine TL.cons (TL.not (Wt.no rfl rfl rfl hk129) rfl ?_)
           refine TL.cons (TL.not (Wt.no rfl rfl rfl hk129) rfl ?_)
           refine TL.cons (TL.not (Wt.no rfl rfl rfl hk129) rfl ?_)
           refine TV (Wt.yes rfl rfl rfl hk126) rfl rfl (Val.pickN rfl hk129 rfl) ?_
           refine TV (Wt.yes rfl rfl rfl hk123) rfl rfl (Val.pickN rfl hk126 rfl) ?_
           refine TV rfl rfl rfl (Val.pickY rfl hk123 rfl) ?_
           refine TV rfl rfl rfl (Val.assign rfl) ?_
           refine TL.nil ?_
           refine TQ.then_ ?_
           refine TC.ret ?_
           refine TQ.thenR ?_
           obtain rfl:=Option.some.inj h
           exact TQ.fin (.inl rfl) rfl Try.results5 (.tmp rfl .nil) rfl (FRel.mk (Ls:=[]) [] 9 (Gd.le.refl _) rfl rfl rfl ⟨rfl,rfl,rfl⟩)
        ·
         have hk130:decide (y33.2.1 ≤ (y10.1.length:Int))=false:=decide_eq_false hg122
         refine TL.cons (TL.not (Wt.no rfl rfl rfl hk130) rfl ?_)
         refine TL.cons (TL.not (Wt.no rfl rfl rfl hk130) rfl ?_)
         refine TL.cons (TL.not (Wt.no rfl rfl rfl hk130) rfl ?_)
         refine TL.cons (TL.not (Wt.no rfl rfl rfl hk130) rfl ?_)
         refine TL.cons (TL.not (Wt.no rfl rfl rfl hk130) rfl ?_)
         refine TL.cons (TL.not rfl rfl ?_)
         refine TL.cons (TL.not rfl rfl ?_)
         refine TL.cons (TL.not rfl rfl ?_)
         refine TL.cons (TL.not rfl rfl ?_)
         refine TL.cons (TL.not rfl rfl ?_)
         refine TL.cons (TL.not rfl rfl ?_)
         refine TL.cons (TL.not rfl rfl ?_)
         refine TL.cons (TL.not rfl rfl ?_)
         refine TL.cons (TL.not (Wt.no rfl rfl rfl hk130) rfl ?_)
         refine TV rfl rfl rfl (Val.pickN rfl hk130 rfl) ?_
         refine TV rfl rfl rfl (Val.assign rfl) ?_
         refine TL.nil ?_
         refine TQ.then_ ?_
         refine TC.ret ?_
         refine TQ.thenR ?_
         obtain rfl:=Option.some.inj h
         exact TQ.fin (.inl rfl) rfl Try.results5 (.tmp rfl .nil) rfl (FRel.mk (Ls:=[]) [] 9 (Gd.le.refl _) rfl rfl rfl ⟨rfl,rfl,rfl⟩)
       ·
        have hk131:decide (0 ≤ y33.2.1)=false:=decide_eq_false hg120
        refine TL.cons (TL.not (Wt.no rfl rfl rfl hk131) rfl ?_)
        refine TL.cons (TL.not (Wt.no rfl rfl rfl hk131) rfl ?_)
        refine TL.cons (TL.not (Wt.no rfl rfl rfl hk131) rfl ?_)
        refine TL.cons (TL.not (Wt.no rfl rfl rfl hk131) rfl ?_)
        refine TV rfl rfl rfl (Val.pickN rfl hk131 rfl) ?_
        refine TV rfl rfl rfl (Val.move rfl) ?_
        refine TL.cons (TL.not (Wt.no rfl rfl rfl rfl) rfl ?_)
        refine TL.cons (TL.not (Wt.no rfl rfl rfl rfl) rfl ?_)
        refine TL.cons (TL.not (Wt.no rfl rfl rfl rfl) rfl ?_)
        refine TL.cons (TL.not (Wt.no rfl rfl rfl rfl) rfl ?_)
        refine TL.cons (TL.not (Wt.no rfl rfl rfl rfl) rfl ?_)
        refine TL.cons (TL.not rfl rfl ?_)
        refine TL.cons (TL.not rfl rfl ?_)
        refine TL.cons (TL.not rfl rfl ?_)
        refine TL.cons (TL.not rfl rfl ?_)
        refine TL.cons (TL.not rfl rfl ?_)
        refine TL.cons (TL.not rfl rfl ?_)
        refine TL.cons (TL.not rfl rfl ?_)
        refine TL.cons (TL.not rfl rfl ?_)
        refine TL.cons (TL.not (Wt.no rfl rfl rfl rfl) rfl ?_)
        refine TV rfl rfl rfl (Val.pickN rfl rfl rfl) ?_
        refine TV rfl rfl rfl (Val.assign rfl) ?_
        refine TL.nil ?_
        refine TQ.then_ ?_
        refine TC.ret ?_
        refine TQ.thenR ?_
        obtain rfl:=Option.some.inj h
        exact TQ.fin (.inl rfl) rfl Try.results5 (.tmp rfl .nil) rfl (FRel.mk (Ls:=[]) [] 9 (Gd.le.refl _) rfl rfl rfl ⟨rfl,rfl,rfl⟩)
      ·
       have hk132:y1=false:=(by simpa using hg118)
       refine TL.cons (TL.not (Wt.no rfl rfl rfl hk132) rfl ?_)
       refine TL.cons (TL.not (Wt.no rfl rfl rfl hk132) rfl ?_)
       refine TV rfl rfl rfl (Val.pickN rfl hk132 rfl) ?_
       refine TV rfl rfl rfl (Val.move rfl) ?_
       refine TL.cons (TL.not (Wt.no rfl rfl rfl rfl) rfl ?_)
       refine TL.cons (TL.not (Wt.no rfl rfl rfl rfl) rfl ?_)
       refine TL.cons (TL.not (Wt.no rfl rfl rfl rfl) rfl ?_)
       refine TL.cons (TL.not (Wt.no rfl rfl rfl rfl) rfl ?_)
       refine TV rfl rfl rfl (Val.pickN rfl rfl rfl) ?_
       refine TV rfl rfl rfl (Val.move rfl) ?_
       refine TL.cons (TL.not (Wt.no rfl rfl rfl rfl) rfl ?_)
       refine TL.cons (TL.not (Wt.no rfl rfl rfl rfl) rfl ?_)
       refine TL.cons (TL.not (Wt.no rfl rfl rfl rfl) rfl ?_)
       refine TL.cons (TL.not (Wt.no rfl rfl rfl rfl) rfl ?_)
       refine TL.cons (TL.not (Wt.no rfl rfl rfl rfl) rfl ?_)
       refine TL.cons (TL.not rfl rfl ?_)
       refine TL.cons (TL.not rfl rfl ?_)
       refine TL.cons (TL.not rfl rfl ?_)
       refine TL.cons (TL.not rfl rfl ?_)
       refine TL.cons (TL.not rfl rfl ?_)
       refine TL.cons (TL.not rfl rfl ?_)
       refine TL.cons (TL.not rfl rfl ?_)
       refine TL.cons (TL.not rfl rfl ?_)
       refine TL.cons (TL.not (Wt.no rfl rfl rfl rfl) rfl ?_)
       refine TV rfl rfl rfl (Val.pickN rfl rfl rfl) ?_
       refine TV rfl rfl rfl (Val.assign rfl) ?_
       refine TL.nil ?_
       refine TQ.then_ ?_
       refine TC.ret ?_
       refine TQ.thenR ?_
       obtain rfl:=Option.some.inj h
       exact TQ.fin (.inl rfl) rfl Try.results5 (.tmp rfl .nil) rfl (FRel.mk (Ls:=[]) [] 9 (Gd.le.refl _) rfl rfl rfl ⟨rfl,rfl,rfl⟩)
     ·
      refine TC.skip ?_
      refine TQ.then_ ?_
      refine TC.seq ?_
      refine TC.seq ?_
      refine TC.region ?_
      refine TV rfl rfl rfl (Val.move rfl) ?_
      refine TV rfl rfl rfl (Val.cmp rfl rfl run_neq) ?_
      refine TL.nil ?_
      refine TQ.then_ ?_
      refine TC.cond_b rfl h (fun hc146 h=>?_) (fun hc146 h=>?_)
      ·
       refine TC.seq ?_
       refine TC.region ?_
       refine TV rfl rfl rfl (Val.move rfl) ?_
       refine TV rfl rfl rfl (Val.move rfl) ?_
       refine TK.split (p:=y1=true) h (fun hg153 h=>?_) (fun hg153 h=>?_)
       ·
        have hk154:y1=true:=hg153
        refine TV (Wt.yes rfl rfl rfl hk154) rfl rfl (Val.move rfl) ?_
        refine TV (Wt.yes rfl rfl rfl hk154) rfl rfl (Val.move rfl) ?_
        refine TV (Wt.yes rfl rfl rfl hk154) rfl rfl (Val.cmp rfl rfl run_eql) ?_
        refine TV rfl rfl rfl (Val.pickY rfl hk154 rfl) ?_
        refine TV rfl rfl rfl (Val.move rfl) ?_
        refine TK.split (p:=y65.2.2=y45.2.2) h (fun hg155 h=>?_) (fun hg155 h=>?_)
        ·
         have hk156:decide (y65.2.2=y45.2.2)=true:=decide_eq_true hg155
         refine TV (Wt.yes rfl rfl rfl hk156) rfl rfl (Val.move rfl) ?_
         refine TV (Wt.yes rfl rfl rfl hk156) rfl rfl (Val.move rfl) ?_
         refine TV (Wt.yes rfl rfl rfl hk156) rfl rfl (Val.len Try.underlying32 rfl) ?_
         refine TV (Wt.yes rfl rfl rfl hk156) rfl rfl (Val.move rfl) ?_
         refine TV (Wt.yes rfl rfl rfl hk156) rfl rfl (Val.cmp rfl rfl run_add) ?_
         refine TV (Wt.yes rfl rfl rfl hk156) rfl rfl (Val.cmp rfl rfl run_eql) ?_
         refine TV rfl rfl rfl (Val.pickY rfl hk156 rfl) ?_
         refine TV rfl rfl rfl (Val.assign rfl) ?_
         refine TL.nil ?_
         refine TQ.then_ ?_
         refine TC.ret ?_
         refine TQ.thenR ?_
         obtain rfl:=Option.some.inj h
         exact TQ.fin (.inl rfl) rfl Try.results5 (.tmp rfl .nil) rfl (FRel.mk (Ls:=[]) [] 9 (Gd.le.refl _) rfl rfl rfl ⟨rfl,rfl,rfl⟩)
        ·
         have hk157:decide (y65.2.2=y45.2.2)=false:=decide_eq_false hg155
         refine TL.cons (TL.not (Wt.no rfl rfl rfl hk157) rfl ?_)
         refine TL.cons (TL.not (Wt.no rfl rfl rfl hk157) rfl ?_)
         refine TL.cons (TL.not (Wt.no rfl rfl rfl hk157) rfl ?_)
         refine TL.cons (TL.not (Wt.no rfl rfl rfl hk157) rfl ?_)
         refine TL.cons (TL.not (Wt.no rfl rfl rfl hk157) rfl ?_)
         refine TL.cons (TL.not (Wt.no rfl rfl rfl hk157) rfl ?_)
         refine TV rfl rfl rfl (Val.pickN rfl hk157 rfl) ?_
         refine TV rfl rfl rfl (Val.assign rfl) ?_
         refine TL.nil ?_
         refine TQ.then_ ?_
         refine TC.ret ?_
         refine TQ.thenR ?_
         obtain rfl:=Option.some.inj h
         exact TQ.fin (.inl rfl) rfl Try.results5 (.tmp rfl .nil) rfl (FRel.mk (Ls:=[]) [] 9 (Gd.le.refl _) rfl rfl rfl ⟨rfl,rfl,rfl⟩)
       ·
        have hk158:y1=false:=(by simpa using hg153)
        refine TL.cons (TL.not (Wt.no rfl rfl rfl hk158) rfl ?_)
        refine TL.cons (TL.not (Wt.no rfl rfl rfl hk158) rfl ?_)
        refine TL.cons (TL.not (Wt.no rfl rfl rfl hk158) rfl ?_)
        refine TV rfl rfl rfl (Val.pickN rfl hk158 rfl) ?_
        refine TV rfl rfl rfl (Val.move rfl) ?_
        refine TL.cons (TL.not (Wt.no rfl rfl rfl rfl) rfl ?_)
        refine TL.cons (TL.not (Wt.no rfl rfl rfl rfl) rfl ?_)
        refine TL.cons (TL.not (Wt.no rfl rfl rfl rfl) rfl ?_)
        refine TL.cons (TL.not (Wt.no rfl rfl rfl rfl) rfl ?_)
        refine TL.cons (TL.not (Wt.no rfl rfl rfl rfl) rfl ?_)
        refine TL.cons (TL.not (Wt.no rfl rfl rfl rfl) rfl ?_)
        refine TV rfl rfl rfl (Val.pickN rfl rfl rfl) ?_
        refine TV rfl rfl rfl (Val.assign rfl) ?_
        refine TL.nil ?_
        refine TQ.then_ ?_
        refine TC.ret ?_
        refine TQ.thenR ?_
        obtain rfl:=Option.some.inj h
        exact TQ.fin (.inl rfl) rfl Try.results5 (.tmp rfl .nil) rfl (FRel.mk (Ls:=[]) [] 9 (Gd.le.refl _) rfl rfl rfl ⟨rfl,rfl,rfl⟩)
      ·
       refine TC.skip ?_
       refine TQ.then_ ?_
       refine TC.seq ?_
       refine TC.sel (Ls:=[Row k24 24 (.slice A67 y65.1.f3.length c68) y65.1.f3,Row k41 41 (.slice A12 y10.1.length c13) y10.1,Row k41 41 (.slice A17 y15.1.length c18) y15.1,Row k41 41 (.slice A57 ((([]:List S41) ++ y10.1) ++ y15.1).length c58) ((([]:List S41) ++ y10.1) ++ y15.1),Blk b70 [VI y65.1.f0,.string y65.1.f1,VI y65.1.f2,.slice A67 y65.1.f3.length c68] 24,Blk b50 [VI y45.1.f0,.string y45.1.f1,VI y45.1.f2,.slice A47 y45.1.f3.length c48] 24,Row k24 24 (.slice A47 y45.1.f3.length c48) y45.1.f3,Blk b38 [VI y33.1.f0,.string y33.1.f1,VI y33.1.f2,.slice A35 y33.1.f3.length c36] 24,Row k24 24 (.slice A35 y33.1.f3.length c36) y33.1.f3]) [4,0,1,2,3,5,6,7,8] 9 rfl rfl rfl ?_
       refine TC.share (fun G258 e259 hs260 hb261=>?_)
       have rd262:Rd G258 k24 A67 y65.1.f3:=Rd.row hs260
       have le263:y65.1.f3.length ≤ c68:=Row.le hs260
       refine TC.sel (Ls:=[Row k24 24 (.slice A35 y33.1.f3.length c36) y33.1.f3,Row k41 41 (.slice A12 y10.1.length c13) y10.1,Row k41 41 (.slice A17 y15.1.length c18) y15.1,Row k41 41 (.slice A57 ((([]:List S41) ++ y10.1) ++ y15.1).length c58) ((([]:List S41) ++ y10.1) ++ y15.1),Blk b70 [VI y65.1.f0,.string y65.1.f1,VI y65.1.f2,.slice A67 y65.1.f3.length c68] 24,Blk b50 [VI y45.1.f0,.string y45.1.f1,VI y45.1.f2,.slice A47 y45.1.f3.length c48] 24,Row k24 24 (.slice A47 y45.1.f3.length c48) y45.1.f3,Blk b38 [VI y33.1.f0,.string y33.1.f1,VI y33.1.f2,.slice A35 y33.1.f3.length c36] 24]) [7,0,1,2,3,4,5,6] 8 rfl rfl rfl ?_
       refine TC.share (fun G264 e265 hs266 hb267=>?_)
       have rd268:Rd G264 k24 A35 y33.1.f3:=Rd.row hs266
       have le269:y33.1.f3.length ≤ c36:=Row.le hs266
       refine TC.sel (Ls:=[Row k24 24 (.slice A47 y45.1.f3.length c48) y45.1.f3,Row k41 41 (.slice A12 y10.1.length c13) y10.1,Row k41 41 (.slice A17 y15.1.length c18) y15.1,Row k41 41 (.slice A57 ((([]:List S41) ++ y10.1) ++ y15.1).length c58) ((([]:List S41) ++ y10.1) ++ y15.1),Blk b70 [VI y65.1.f0,.string y65.1.f1,VI y65.1.f2,.slice A67 y65.1.f3.length c68] 24,Blk b50 [VI y45.1.f0,.string y45.1.f1,VI y45.1.f2,.slice A47 y45.1.f3.length c48] 24,Blk b38 [VI y33.1.f0,.string y33.1.f1,VI y33.1.f2,.slice A35 y33.1.f3.length c36] 24]) [5,0,1,2,3,4,6] 7 rfl rfl rfl ?_
       refine TC.share (fun G270 e271 hs272 hb273=>?_)
       have rd274:Rd G270 k24 A47 y45.1.f3:=Rd.row hs272
       have le275:y45.1.f3.length ≤ c48:=Row.le hs272
       refine TC.regionAny [] [0,1,2,3,4,5,6,7,8,9,10,11,12,13,14,15,16,17,18,19,20,21,22] mixed (by kernel_rfl) ?_
       refine TA.take 0 rfl (by kernel_rfl) rfl (PQ.then_ PQ.body) rfl (Val.move rfl) (fun W hO=>hO) ?_
       refine TA.take 1 rfl (by kernel_rfl) rfl (PQ.then_ PQ.body) rfl (Val.move rfl) (fun W hO=>hO) ?_
       refine TK.split (p:=y1=true) h (fun hg276 h=>?_) (fun hg276 h=>?_)
       ·
        have hk277:y1=true:=hg276
        refine TA.take 2 rfl (by kernel_rfl) rfl (PQ.then_ PQ.body) (Wt.yes rfl rfl rfl hk277) (Val.move rfl) (fun W hO=>hO) ?_
        refine TA.take 3 rfl (by kernel_rfl) rfl (PQ.then_ PQ.body) (Wt.yes rfl rfl rfl hk277) (Val.cmp rfl rfl run_eql) (fun W hO=>hO) ?_
        refine TA.take 4 rfl (by kernel_rfl) rfl (PQ.then_ PQ.body) rfl (Val.pickY rfl hk277 rfl) (fun W hO=>hO) ?_
        refine TA.take 5 rfl (by kernel_rfl) rfl (PQ.then_ PQ.body) rfl (Val.move rfl) (fun W hO=>hO) ?_
        refine TK.split (p:=y65.2.2=0) h (fun hg278 h=>?_) (fun hg278 h=>?_)
        ·
         have hk279:decide (y65.2.2=0)=true:=decide_eq_true hg278
         refine TA.take 6 rfl (by kernel_rfl) rfl (PQ.then_ PQ.body) (Wt.yes rfl rfl rfl hk279) (Val.move rfl) (fun W hO=>hO) ?_
         refine TA.take 7 rfl (by kernel_rfl) rfl (PQ.then_ PQ.body) (Wt.yes rfl rfl rfl hk279) (Val.move rfl) (fun W hO=>hO) ?_
         refine TA.take 8 rfl (by kernel_rfl) rfl (PQ.then_ PQ.body) (Wt.yes rfl rfl rfl hk279) (Val.len Try.underlying32 rfl) (fun W hO=>hO) ?_
         refine TA.take 9 rfl (by kernel_rfl) rfl (PQ.then_ PQ.body) (Wt.yes rfl rfl rfl hk279) (Val.cmp rfl rfl run_eql) (fun W hO=>hO) ?_
         refine TA.take 10 rfl (by kernel_rfl) rfl (PQ.then_ PQ.body) rfl (Val.pickY rfl hk279 rfl) (fun W hO=>hO) ?_
         refine TA.take 11 rfl (by kernel_rfl) rfl (PQ.then_ PQ.body) rfl (Val.move rfl) (fun W hO=>hO) ?_
         refine TK.split (p:=y33.2.1=(y10.1.length:Int)) h (fun hg280 h=>?_) (fun hg280 h=>?_)
         ·
          have hk281:decide (y33.2.1=(y10.1.length:Int))=true:=decide_eq_true hg280
          refine TA.take 12 rfl (by kernel_rfl) rfl (PQ.then_ PQ.body) (Wt.yes rfl rfl rfl hk281) (Val.loadsB 3 (cs:=[VI y65.1.f0,.string y65.1.f1,VI y65.1.f2,.slice A67 y65.1.f3.length c68]) agg24 fsz24 rfl rfl rfl rfl) (fun W hO=>hO) ?_
          refine TA.take 14 rfl (by kernel_rfl) rfl (PQ.then_ PQ.body) (Wt.yes rfl rfl rfl hk281) (Val.loadsB 5 (cs:=[VI y33.1.f0,.string y33.1.f1,VI y33.1.f2,.slice A35 y33.1.f3.length c36]) agg24 fsz24 rfl rfl rfl rfl) (fun W hO=>hO) ?_
          refine TA.take 16 rfl (by kernel_rfl) rfl (PQ.then_ PQ.body) (Wt.yes rfl rfl rfl hk281) (Val.loadsB 4 (cs:=[VI y45.1.f0,.string y45.1.f1,VI y45.1.f2,.slice A47 y45.1.f3.length c48]) agg24 fsz24 rfl rfl rfl rfl) (fun W hO=>hO) ?_
          obtain ⟨y282,hy283,h⟩:=bind_no h
          refine TA.eff 13 rfl (by kernel_rfl) rfl (TL.callV (Lin:=[]) (args:=[.agg #[VI y65.1.f0,.string y65.1.f1,VI y65.1.f2,.slice A67 y65.1.f3.length c68]]) (Wt.yes rfl rfl rfl hk281) rfl rfl hbd11 rfl rfl (parse_Size.calls (a0:=y65.1) (rd262.up (Gd.le.trans e265 e271)) le263 hy283) rfl ?_)
          rintro _ _ _ _ ⟨rfl,rfl,rfl⟩
          refine TA.next (fun W hO=>hO) ?_
          obtain ⟨y284,hy285,h⟩:=bind_no h
          refine TA.eff 15 rfl (by kernel_rfl) rfl (TL.callV (Lin:=[]) (args:=[.agg #[VI y33.1.f0,.string y33.1.f1,VI y33.1.f2,.slice A35 y33.1.f3.length c36]]) (Wt.yes rfl rfl rfl hk281) rfl rfl hbd11 rfl rfl (parse_Size.calls (a0:=y33.1) (rd268.up e271) le269 hy285) rfl ?_)
          rintro _ _ _ _ ⟨rfl,rfl,rfl⟩
          refine TA.next (fun W hO=>hO) ?_
          obtain ⟨y286,hy287,h⟩:=bind_no h
          refine TA.eff 17 rfl (by kernel_rfl) rfl (TL.callV (Lin:=[]) (args:=[.agg #[VI y45.1.f0,.string y45.1.f1,VI y45.1.f2,.slice A47 y45.1.f3.length c48]]) (Wt.yes rfl rfl rfl hk281) rfl rfl hbd11 rfl rfl (parse_Size.calls (a0:=y45.1) rd274 le275 hy287) rfl ?_)
          rintro _ _ _ _ ⟨rfl,rfl,rfl⟩
          refine TA.next (fun W hO=>hO) ?_
          refine TA.take 18 rfl (by kernel_rfl) rfl (PQ.then_ PQ.body) (Wt.yes rfl rfl rfl hk281) (Val.cmp rfl rfl run_add) (fun W hO=>hO) ?_
          refine TA.take 19 rfl (by kernel_rfl) rfl (PQ.then_ PQ.body) (Wt.yes rfl rfl rfl hk281) (Val.cmp rfl rfl run_sub) (fun W hO=>hO) ?_
          refine TA.take 20 rfl (by kernel_rfl) rfl (PQ.then_ PQ.body) (Wt.yes rfl rfl rfl hk281) (Val.cmp rfl rfl run_eql) (fun W hO=>hO) ?_
          refine TA.take 21 rfl (by kernel_rfl) rfl (PQ.then_ PQ.body) rfl (Val.pickY rfl hk281 rfl) (fun W hO=>hO) ?_
          refine TA.take 22 rfl (by kernel_rfl) rfl (PQ.then_ PQ.body) rfl (Val.assign rfl) (fun W hO=>hO) ?_
          refine TA.done (by kernel_rfl) ?_
          refine TQ.then_ ?_
          refine TC.ret ?_
          refine TQ.back hb273 ?_
          refine TQ.back hb267 ?_
          refine TQ.back hb261 ?_
          obtain rfl:=Option.some.inj h
          exact TQ.fin (.inl rfl) rfl Try.results5 (.tmp rfl .nil) rfl (FRel.mk (Ls:=[]) [] 9 (Gd.le.refl _) rfl rfl rfl ⟨rfl,rfl,rfl⟩)
         ·
          have hk288:decide (y33.2.1=(y10.1.length:Int))=false:=decide_eq_false hg280
          refine TA.not 12 rfl (by kernel_rfl) rfl (PQ.then_ PQ.body) (Wt.no rfl rfl rfl hk288) (fun W hO=>hO) ?_
          refine TA.not 13 rfl (by kernel_rfl) rfl (PQ.then_ PQ.body) (Wt.no rfl rfl rfl hk288) (fun W hO=>hO) ?_
          refine TA.not 14 rfl (by kernel_rfl) rfl (PQ.then_ PQ.body) (Wt.no rfl rfl rfl hk288) (fun W hO=>hO) ?_
          refine TA.not 15 rfl (by kernel_rfl) rfl (PQ.then_ PQ.body) (Wt.no rfl rfl rfl hk288) (fun W hO=>hO) ?_
          refine TA.not 16 rfl (by kernel_rfl) rfl (PQ.then_ PQ.body) (Wt.no rfl rfl rfl hk288) (fun W hO=>hO) ?_
          refine TA.not 17 rfl (by kernel_rfl) rfl (PQ.then_ PQ.body) (Wt.no rfl rfl rfl hk288) (fun W hO=>hO) ?_
          refine TA.not 18 rfl (by kernel_rfl) rfl (PQ.then_ PQ.body) (Wt.no rfl rfl rfl hk288) (fun W hO=>hO) ?_
          refine TA.not 19 rfl (by kernel_rfl) rfl (PQ.then_ PQ.body) (Wt.no rfl rfl rfl hk288) (fun W hO=>hO) ?_
          refine TA.not 20 rfl (by kernel_rfl) rfl (PQ.then_ PQ.body) (Wt.no rfl rfl rfl hk288) (fun W hO=>hO) ?_
          refine TA.take 21 rfl (by kernel_rfl) rfl (PQ.then_ PQ.body) rfl (Val.pickN rfl hk288 rfl) (fun W hO=>hO) ?_
          refine TA.take 22 rfl (by kernel_rfl) rfl (PQ.then_ PQ.body) rfl (Val.assign rfl) (fun W hO=>hO) ?_
          refine TA.done (by kernel_rfl) ?_
          refine TQ.then_ ?_
          refine TC.ret ?_
          refine TQ.back hb273 ?_
          refine TQ.back hb267 ?_
          refine TQ.back hb261 ?_
          obtain rfl:=Option.some.inj h
          exact TQ.fin (.inl rfl) rfl Try.results5 (.tmp rfl .nil) rfl (FRel.mk (Ls:=[]) [] 9 (Gd.le.refl _) rfl rfl rfl ⟨rfl,rfl,rfl⟩)
        ·
         have hk289:decide (y65.2.2=0)=false:=decide_eq_false hg278
         refine TA.not 6 rfl (by kernel_rfl) rfl (PQ.then_ PQ.body) (Wt.no rfl rfl rfl hk289) (fun W hO=>hO) ?_
         refine TA.not 7 rfl (by kernel_rfl) rfl (PQ.then_ PQ.body) (Wt.no rfl rfl rfl hk289) (fun W hO=>hO) ?_
         refine TA.not 8 rfl (by kernel_rfl) rfl (PQ.then_ PQ.body) (Wt.no rfl rfl rfl hk289) (fun W hO=>hO) ?_
         refine TA.not 9 rfl (by kernel_rfl) rfl (PQ.then_ PQ.body) (Wt.no rfl rfl rfl hk289) (fun W hO=>hO) ?_
         refine TA.take 10 rfl (by kernel_rfl) rfl (PQ.then_ PQ.body) rfl (Val.pickN rfl hk289 rfl) (fun W hO=>hO) ?_
         refine TA.take 11 rfl (by kernel_rfl) rfl (PQ.then_ PQ.body) rfl (Val.move rfl) (fun W hO=>hO) ?_
         refine TA.not 12 rfl (by kernel_rfl) rfl (PQ.then_ PQ.body) (Wt.no rfl rfl rfl rfl) (fun W hO=>hO) ?_
         refine TA.not 13 rfl (by kernel_rfl) rfl (PQ.then_ PQ.body) (Wt.no rfl rfl rfl rfl) (fun W hO=>hO) ?_
         refine TA.not 14 rfl (by kernel_rfl) rfl (PQ.then_ PQ.body) (Wt.no rfl rfl rfl rfl) (fun W hO=>hO) ?_
         refine TA.not 15 rfl (by kernel_rfl) rfl (PQ.then_ PQ.body) (Wt.no rfl rfl rfl rfl) (fun W hO=>hO) ?_
         refine TA.not 16 rfl (by kernel_rfl) rfl (PQ.then_ PQ.body) (Wt.no rfl rfl rfl rfl) (fun W hO=>hO) ?_
         refine TA.not 17 rfl (by kernel_rfl) rfl (PQ.then_ PQ.body) (Wt.no rfl rfl rfl rfl) (fun W hO=>hO) ?_
         refine TA.not 18 rfl (by kernel_rfl) rfl (PQ.then_ PQ.body) (Wt.no rfl rfl rfl rfl) (fun W hO=>hO) ?_
         refine TA.not 19 rfl (by kernel_rfl) rfl (PQ.then_ PQ.body) (Wt.no rfl rfl rfl rfl) (fun W hO=>hO) ?_
         refine TA.not 20 rfl (by kernel_rfl) rfl (PQ.then_ PQ.body) (Wt.no rfl rfl rfl rfl) (fun W hO=>hO) ?_
         refine TA.take 21 rfl (by kernel_rfl) rfl (PQ.then_ PQ.body) rfl (Val.pickN rfl rfl rfl) (fun W hO=>hO) ?_
         refine TA.take 22 rfl (by kernel_rfl) rfl (PQ.then_ PQ.body) rfl (Val.assign rfl) (fun W hO=>hO) ?_
         refine TA.done (by kernel_rfl) ?_
         refine TQ.then_ ?_
         refine TC.ret ?_
         refine TQ.back hb273 ?_
         refine TQ.back hb267 ?_
         refine TQ.back hb261 ?_
         obtain rfl:=Option.some.inj h
         exact TQ.fin (.inl rfl) rfl Try.results5 (.tmp rfl .nil) rfl (FRel.mk (Ls:=[]) [] 9 (Gd.le.refl _) rfl rfl rfl ⟨rfl,rfl,rfl⟩)
       ·
        have hk290:y1=false:=(by simpa using hg276)
        refine TA.not 2 rfl (by kernel_rfl) rfl (PQ.then_ PQ.body) (Wt.no rfl rfl rfl hk290) (fun W hO=>hO) ?_
        refine TA.not 3 rfl (by kernel_rfl) rfl (PQ.then_ PQ.body) (Wt.no rfl rfl rfl hk290) (fun W hO=>hO) ?_
        refine TA.take 4 rfl (by kernel_rfl) rfl (PQ.then_ PQ.body) rfl (Val.pickN rfl hk290 rfl) (fun W hO=>hO) ?_
        refine TA.take 5 rfl (by kernel_rfl) rfl (PQ.then_ PQ.body) rfl (Val.move rfl) (fun W hO=>hO) ?_
        refine TA.not 6 rfl (by kernel_rfl) rfl (PQ.then_ PQ.body) (Wt.no rfl rfl rfl rfl) (fun W hO=>hO) ?_
        refine TA.not 7 rfl (by kernel_rfl) rfl (PQ.then_ PQ.body) (Wt.no rfl rfl rfl rfl) (fun W hO=>hO) ?_
        refine TA.not 8 rfl (by kernel_rfl) rfl (PQ.then_ PQ.body) (Wt.no rfl rfl rfl rfl) (fun W hO=>hO) ?_
        refine TA.not 9 rfl (by kernel_rfl) rfl (PQ.then_ PQ.body) (Wt.no rfl rfl rfl rfl) (fun W hO=>hO) ?_
        refine TA.take 10 rfl (by kernel_rfl) rfl (PQ.then_ PQ.body) rfl (Val.pickN rfl rfl rfl) (fun W hO=>hO) ?_
        refine TA.take 11 rfl (by kernel_rfl) rfl (PQ.then_ PQ.body) rfl (Val.move rfl) (fun W hO=>hO) ?_
        refine TA.not 12 rfl (by kernel_rfl) rfl (PQ.then_ PQ.body) (Wt.no rfl rfl rfl rfl) (fun W hO=>hO) ?_
        refine TA.not 13 rfl (by kernel_rfl) rfl (PQ.then_ PQ.body) (Wt.no rfl rfl rfl rfl) (fun W hO=>hO) ?_
        refine TA.not 14 rfl (by kernel_rfl) rfl (PQ.then_ PQ.body) (Wt.no rfl rfl rfl rfl) (fun W hO=>hO) ?_
        refine TA.not 15 rfl (by kernel_rfl) rfl (PQ.then_ PQ.body) (Wt.no rfl rfl rfl rfl) (fun W hO=>hO) ?_
        refine TA.not 16 rfl (by kernel_rfl) rfl (PQ.then_ PQ.body) (Wt.no rfl rfl rfl rfl) (fun W hO=>hO) ?_
        refine TA.not 17 rfl (by kernel_rfl) rfl (PQ.then_ PQ.body) (Wt.no rfl rfl rfl rfl) (fun W hO=>hO) ?_
        refine TA.not 18 rfl (by kernel_rfl) rfl (PQ.then_ PQ.body) (Wt.no rfl rfl rfl rfl) (fun W hO=>hO) ?_
        refine TA.not 19 rfl (by kernel_rfl) rfl (PQ.then_ PQ.body) (Wt.no rfl rfl rfl rfl) (fun W hO=>hO) ?_
        refine TA.not 20 rfl (by kernel_rfl) rfl (PQ.then_ PQ.body) (Wt.no rfl rfl rfl rfl) (fun W hO=>hO) ?_
        refine TA.take 21 rfl (by kernel_rfl) rfl (PQ.then_ PQ.body) rfl (Val.pickN rfl rfl rfl) (fun W hO=>hO) ?_
        refine TA.take 22 rfl (by kernel_rfl) rfl (PQ.then_ PQ.body) rfl (Val.assign rfl) (fun W hO=>hO) ?_
        refine TA.done (by kernel_rfl) ?_
        refine TQ.then_ ?_
        refine TC.ret ?_
        refine TQ.back hb273 ?_
        refine TQ.back hb267 ?_
        refine TQ.back hb261 ?_
        obtain rfl:=Option.some.inj h
        exact TQ.fin (.inl rfl) rfl Try.results5 (.tmp rfl .nil) rfl (FRel.mk (Ls:=[]) [] 9 (Gd.le.refl _) rfl rfl rfl ⟨rfl,rfl,rfl⟩)
   ·
    refine TC.region ?_
    refine TV rfl rfl rfl (Val.move rfl) ?_
    refine TV rfl rfl rfl (Val.cmp rfl rfl run_neq) ?_
    refine TV rfl rfl rfl (Val.move rfl) ?_
    refine TK.split (p:=(!decide (y10.2.2=0))=true) h (fun hg291 h=>?_) (fun hg291 h=>?_)
    ·
     have hk292:(!decide (y10.2.2=0))=true:=hg291
     refine TL.cons (TL.not (Wt.no rfl rfl rfl hk292) rfl ?_)
     refine TL.cons (TL.not (Wt.no rfl rfl rfl hk292) rfl ?_)
     refine TV rfl rfl rfl (Val.pickY rfl hk292 rfl) ?_
     refine TL.nil ?_
     exact fun a W hF hO=>⟨true,h,hF.sub ⟨rfl,rfl,rfl,rfl,trivial⟩,hO.selT (Ls:=[Row k41 41 (.slice A12 y10.1.length c13) y10.1,Row k41 41 (.slice A17 y15.1.length c18) y15.1]) [1,0] 2 rfl rfl rfl⟩
    ·
     have hk293:(!decide (y10.2.2=0))=false:=(by simpa using hg291)
     refine TV (Wt.yes rfl rfl rfl hk293) rfl rfl (Val.move rfl) ?_
     refine TV (Wt.yes rfl rfl rfl hk293) rfl rfl (Val.cmp rfl rfl run_neq) ?_
     refine TV rfl rfl rfl (Val.pickN rfl hk293 rfl) ?_
     refine TL.nil ?_
     exact fun a W hF hO=>⟨(!decide (y15.2.2=0)),h,hF.sub ⟨rfl,rfl,rfl,rfl,trivial⟩,hO.selT (Ls:=[Row k41 41 (.slice A12 y10.1.length c13) y10.1,Row k41 41 (.slice A17 y15.1.length c18) y15.1]) [1,0] 2 rfl rfl rfl⟩
 ·
  refine TC.region ?_
  refine TV rfl rfl rfl (Val.move rfl) ?_
  refine TV rfl rfl rfl (Val.lenS Try.underlying9 rfl) ?_
  refine TV rfl rfl rfl (Val.cmp rfl rfl run_gtr) ?_
  refine TV rfl rfl rfl (Val.move rfl) ?_
  refine TK.split (p:=1024 < (a0.size:Int)) h (fun hg294 h=>?_) (fun hg294 h=>?_)
  ·
   have hk295:decide (1024 < (a0.size:Int))=true:=decide_eq_true hg294
   refine TL.cons (TL.not (Wt.no rfl rfl rfl hk295) rfl ?_)
   refine TL.cons (TL.not (Wt.no rfl rfl rfl hk295) rfl ?_)
   refine TL.cons (TL.not (Wt.no rfl rfl rfl hk295) rfl ?_)
   refine TV rfl rfl rfl (Val.pickY rfl hk295 rfl) ?_
   refine TL.nil ?_
   exact fun a W hF hO=>⟨true,h,hF.sub ⟨rfl,rfl,rfl,rfl,trivial⟩,hO.selT (Ls:=[]) [] 0 rfl rfl rfl⟩
  ·
   have hk296:decide (1024 < (a0.size:Int))=false:=decide_eq_false hg294
   refine TV (Wt.yes rfl rfl rfl hk296) rfl rfl (Val.move rfl) ?_
   refine TV (Wt.yes rfl rfl rfl hk296) rfl rfl (Val.lenS Try.underlying9 rfl) ?_
   refine TV (Wt.yes rfl rfl rfl hk296) rfl rfl (Val.cmp rfl rfl run_gtr) ?_
   refine TV rfl rfl rfl (Val.pickN rfl hk296 rfl) ?_
   refine TL.nil ?_
   exact fun a W hF hO=>⟨decide (1024 < (a1.size:Int)),h,hF.sub ⟨rfl,rfl,rfl,rfl,trivial⟩,hO.selT (Ls:=[]) [] 0 rfl rfl rfl⟩
end Go.Proofs.Ythlhmoocgjddpaa.Sy
set_option linter.unusedVariables false
set_option linter.unusedSimpArgs false
namespace Go.Proofs.Ythlhmoocgjddpaa.Sy
open Go Go.RowKit Go.Proofs.YthlhmoocgjddpaaW.PrintWords
theorem ag_pre (l m : List S41) (h : l.length + m.length ≤ 50000) : Ag l (l ++ m) 0 False :=
  ⟨by omega, by simp; omega, by simp; omega, fun p h0 h1 => by
    unfold at?
    rw [Int.add_zero, if_pos h0, if_pos h0, List.getElem?_append_left (by omega)], fun h => h.elim⟩
theorem ag_post (l m : List S41) (h : l.length + m.length ≤ 50000) : Ag m (l ++ m) l.length (m ≠ []) :=
  ⟨by omega, by simp; omega, by simp; omega, fun p h0 h1 => by
    unfold at?
    rw [if_pos h0, if_pos (by omega), List.getElem?_append_right (by omega)]
    congr 1; omega, fun h => ⟨by simp; omega, by
      have := List.length_pos_iff.2 h; omega⟩⟩
theorem ag_self (l : List S41) (h : l.length ≤ 50000) : Ag l l 0 False :=
  ⟨by omega, by omega, by omega, fun p h0 h1 => by rw [Int.add_zero], fun h => h.elim⟩
theorem places {l m : List S41} (hl : l.length ≤ 1024) (hm : m.length ≤ 1024) : ∃ a i g b k h c n f, parse_Parse.f l = some (a, i, g) ∧ parse_Parse.f m = some (b, k, h) ∧ parse_Parse.f (l ++ m) = some (c, n, f) ∧
    (g ≠ 0 → 0 ≤ i ∧ i ≤ (l.length : Int) ∧ (i = (l.length : Int) ∨ (f = g ∧ n = i))) ∧ (g = 0 → h ≠ 0 → f = h ∧ n = IntKind.i64.wrap ((l.length : Int) + k)) ∧
    (g = 0 → h = 0 → f = 0 ∧ i = (l.length : Int) ∧ ∃ x y z, parse_Size.f c = some z ∧ parse_Size.f a = some x ∧ parse_Size.f b = some y ∧ z = IntKind.i64.wrap (IntKind.i64.wrap (x + y) - 1)) := by
  have hlm : (l ++ m).length ≤ 50000 := by simp; omega
  obtain ⟨ks, p1, e1, a1, a2, _, a4, a5⟩ := parse_loop (ag_pre l m (by omega)) 50001 0 0 (by omega) (by omega) (by rw [if_pos rfl]; omega)
  obtain ⟨ks2, p2, e2, b1, b2, _, b4, b5⟩ := parse_loop (ag_post l m (by omega)) 50001 0 0 (by omega) (by omega) (by rw [if_pos rfl]; omega)
  obtain ⟨ks3, p3, e3, c1, c2, _, c4, c5⟩ := parse_loop (ag_self (l ++ m) hlm) 50001 0 0 (by omega) (by omega) (by rw [if_pos rfl]; omega)
  obtain ⟨a6, a7, a8⟩ := a5 100000 [] (by rw [if_pos rfl]; omega) (by simp)
  obtain ⟨b6, b7, b8⟩ := b5 100000 [] (by rw [if_pos rfl]; omega) (by simp)
  obtain ⟨c6, c7, c8⟩ := c5 100000 [] (by rw [if_pos rfl]; omega) (by simp)
  rw [List.nil_append] at a6 b6 c6
  have a9 := parse_f (by omega) a6
  have b9 := parse_f (by omega) b6
  have c9 := parse_f (by omega) c6
  by_cases he : e1 = 0
  · rw [if_pos he] at a9
    obtain ⟨g1, g2⟩ := a4 he
    obtain ⟨n', h1, h2, h3, h4⟩ := a8 he
    rw [List.nil_append, Int.add_zero, Int.add_zero] at h4
    by_cases hmn : m = []
    · subst hmn
      have hz : parse_Parse.l0 [] 100000 0 0 [] = some (0, 0, []) := by rw [parse_Parse.l0]; simp [jn]
      have b10 := parse_f (by simp) hz
      rw [if_pos rfl] at b10
      rw [List.append_nil]
      refine ⟨_, _, _, _, _, _, _, _, _, a9, b10, a9, fun h => absurd rfl h, fun _ h => absurd rfl h, fun _ _ => ⟨rfl, g1, _, _, _, size_f (g2.mono (by omega)), size_f (g2.mono (by omega)), size_f DL.nil, ?_⟩⟩
      simp only [List.map_nil, List.sum_nil, IntKind.wrap_i64]
      omega
    · obtain ⟨_, d2, _⟩ := b5 n' ks (by rw [if_pos rfl]; omega) (by simp at h3; omega)
      have d3 := d2 (.inr hmn)
      rw [Int.zero_add, ← h4] at d3
      have d4 := parse_f (by omega) d3
      by_cases hf : e2 = 0
      · rw [if_pos hf] at b9 d4
        obtain ⟨k1, k2⟩ := b4 hf
        refine ⟨_, _, _, _, _, _, _, _, _, a9, b9, d4, fun h => absurd rfl h, fun _ h => absurd rfl h, fun _ _ => ⟨rfl, g1, _, _, _, size_f (ks := ks ++ ks2) ⟨?_, fun y hy => ?_⟩, size_f (g2.mono (by omega)), size_f (k2.mono (by omega)), ?_⟩⟩
        · have := g2.1; have := k2.1; simp; omega
        · rcases List.mem_append.1 hy with h | h
          · exact (g2.2 y h).mono (by omega)
          · exact (k2.2 y h).mono (by omega)
        · simp only [List.map_append, List.sum_append, IntKind.wrap_i64]
          omega
      · rw [if_neg hf] at b9 d4
        refine ⟨_, _, _, _, _, _, _, _, _, a9, b9, d4, fun h => absurd rfl h, fun _ _ => ⟨rfl, ?_⟩, fun _ h => absurd h hf⟩
        rw [w64 (by omega) (by omega)]; omega
  · rw [if_neg he] at a9
    by_cases hp : p1 < l.length
    · have d3 := a7 (.inl hp)
      rw [Int.add_zero, Int.add_zero] at d3
      have d4 := parse_f (by omega) d3
      rw [if_neg he] at d4
      exact ⟨_, _, _, _, _, _, _, _, _, a9, b9, d4, fun _ => ⟨a1, a2, .inr ⟨rfl, rfl⟩⟩, fun h => absurd h he, fun h => absurd h he⟩
    · exact ⟨_, _, _, _, _, _, _, _, _, a9, b9, c9, fun _ => ⟨a1, a2, .inl (by omega)⟩, fun h => absurd h he, fun h => absurd h he⟩
theorem parsePlaces_law (s t : ByteArray) (_ : s.size ≤ maxLen) (_ : t.size ≤ maxLen) : swagelaw10_ParsePlaces.f s t = some true := by
  unfold swagelaw10_ParsePlaces.f
  rw [small10, Option.bind_some]
  dsimp only [jn]
  by_cases h1 : 1024 < (s.size : Int)
  · rw [if_pos h1]; rfl
  rw [if_neg h1]
  by_cases h2 : 1024 < (t.size : Int)
  · rw [decide_eq_true h2]; rfl
  rw [decide_eq_false h2, if_neg (by simp)]
  obtain ⟨l, at1, e, hl, hl'⟩ := lex_t (s := s) (by omega)
  obtain ⟨m, at2, f, hm, hm'⟩ := lex_t (s := t) (by omega)
  rw [hl, Option.bind_some, hm, Option.bind_some]
  dsimp only
  obtain ⟨a, i, g, b, k, h, c, n, q, r1, r2, r3, r4, r5, r6⟩ := places (l := l) (m := m) (by omega) (by omega)
  by_cases he : e = 0
  · rw [if_neg (by simp [he])]
    by_cases hf : f = 0
    · rw [if_neg (by simp [hf]), r1, Option.bind_some, r2, Option.bind_some, if_pos (by simp; omega), if_pos (by simp; omega), List.nil_append, r3, Option.bind_some]
      dsimp only
      by_cases hg : g = 0
      · rw [if_neg (by simp [hg])]
        by_cases hh : h = 0
        · obtain ⟨t1, t2, x, y, z, t3, t4, t5, t6⟩ := r6 hg hh
          rw [if_neg (by simp [hh]), if_pos rfl, if_pos t1, if_pos t2, t3, Option.bind_some, t4, Option.bind_some, t5, Option.bind_some, decide_eq_true t6]
        · obtain ⟨t1, t2⟩ := r5 hg hh
          rw [if_pos (by simp [hh]), if_pos rfl, if_pos t1, decide_eq_true t2]
      · obtain ⟨t1, t2, t3⟩ := r4 hg
        rw [if_pos (by simp [hg]), if_pos rfl, if_pos t1, if_pos t2]
        by_cases hi : i = (l.length : Int)
        · rw [if_pos hi]
        · obtain ⟨t4, t5⟩ := t3.resolve_left hi
          rw [if_neg hi, if_pos t4, decide_eq_true t5]
    · rw [if_pos (by simp [hf])]
  · rw [if_pos (by simp [he])]; rfl
end Go.Proofs.Ythlhmoocgjddpaa.Sy
