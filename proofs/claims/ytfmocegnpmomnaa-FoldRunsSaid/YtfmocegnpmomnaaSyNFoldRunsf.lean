/- Texts of this work, joined: SyF22, SyF44, SyF23, SyF8, TfC, TfD, TfE, TfT, TfU, TfV, TfW, TfX, TfY, TgA, TgB, TgC, TgD, TgE. -/
import Derived.Test.YtfmocegnpmomnaaSyNFoldRunse
set_option linter.unusedVariables false
set_option linter.unusedSimpArgs false
set_option maxRecDepth 100000
set_option maxHeartbeats 4000000
namespace Go.Proofs.Ytfmocegnpmomnaa.Sy
open Go Go.RowKit Go.Proofs.YtfmocegnpmomnaaW.PrintWords 
def swagelaw24_small.f:Option Bool:=(swagelaw24_some.f).bind fun (y1:S42)=>(fold_Block.f y1).bind fun (y11:S42)=>(fold_Op.f (⟨2,3,2,1,3,([]:List Int)⟩:S37) ([(⟨1,0⟩:S81)]:List S81)).bind fun (y28:S37)=>(swageref14_Same.f (⟨0,([y11]:List S42)⟩:S45) (⟨0,([(⟨([(⟨1,1,0,0,4,([]:List Int)⟩:S37),(⟨1,2,0,0,4,([]:List Int)⟩:S37),(⟨1,3,0,0,8,([]:List Int)⟩:S37)]:List S37),(⟨1,0,1,0⟩:S40)⟩:S42)]:List S42)⟩:S45)).bind fun (y111:Bool)=>(if y111=true then (swageref14_SameOp.f y28 (⟨1,3,0,0,0,([]:List Int)⟩:S37)).bind fun (y121:Bool)=>(if y121=true then (fold_Neutral.f 6 (-1)).bind fun (y125:Bool)=>(if y125=true then (fold_Neutral.f 6 1).bind fun (y129:Bool)=>some (!y129) else some false) else some false) else some false)
def swagelaw24_small.post (G:Gd)  (r:Bool) (v:Value) (G':Gd) (Lr:List Ch):Prop:=v=.bool r∧Lr=[]
theorem swagelaw24_small.calls {G:Gd} {r:Bool} (h:swagelaw24_small.f=some r):Fn Try.prog 22 G [] [] (swagelaw24_small.post G  r):=by
 refine Fn.intro (e:=[]) 35 Try.func22 rfl Try.ntmps22 rfl rfl (Nat.le_of_ble_eq_true rfl) (fun L=>?_)
 unfold swagelaw24_small.f at h
 refine TC.seq ?_
 refine TC.region ?_
 refine TV rfl rfl rfl (Val.assign rfl) ?_
 refine TL.nil ?_
 refine TQ.then_ ?_
 refine TC.seq ?_
 refine TC.region ?_
 obtain ⟨y1,hy2,h⟩:=bind_no h
 refine TL.cons (TL.callV (Lin:=[]) (args:=[]) rfl rfl rfl hbd46 rfl rfl (swagelaw24_some.calls hy2) rfl ?_)
 rintro _ _ _ _ ⟨rfl,A3,c4,rfl,rfl⟩
 refine TK.share (fun G6 e7 hs8 _=>?_)
 have rd9:Rd G6 k37 A3 y1.f0:=Rd.row hs8
 have le10:y1.f0.length ≤ c4:=Row.le hs8
 obtain ⟨y11,hy12,h⟩:=bind_no h
 refine TL.cons (TL.callV (Lin:=[]) (args:=[.agg #[.slice A3 y1.f0.length c4,VI y1.f1.f0,VI y1.f1.f1,VI y1.f1.f2,VI y1.f1.f3]]) rfl rfl rfl hbd45 rfl rfl (fold_Block.calls (a0:=y1) rd9 le10 hy12) rfl ?_)
 rintro _ G13 _ e14 ⟨A15,c16,rfl,rfl⟩
 refine TL.cons (TL.alloc (cs:=[.slice none 0 0,VI 0,VI 0,VI 0,VI 0]) rfl rfl zr42 rfl (fun b18=>?_))
 refine TL.cons (TL.store 0 (ds:=[.slice A15 y11.f0.length c16,VI y11.f1.f0,VI y11.f1.f1,VI y11.f1.f2,VI y11.f1.f3]) (cs':=[.slice A15 y11.f0.length c16,VI y11.f1.f0,VI y11.f1.f1,VI y11.f1.f2,VI y11.f1.f3]) (L':=(Blk b18 [.slice A15 y11.f0.length c16,VI y11.f1.f0,VI y11.f1.f1,VI y11.f1.f2,VI y11.f1.f3] 42::Row (Sh G13 k37) 37 (.slice A15 y11.f0.length c16) y11.f0::L)) rfl fsz42 rfl rfl rfl rfl rfl (Nat.le_of_ble_eq_true rfl) rfl rfl ?_)
 refine TL.nil ?_
 refine TQ.then_ ?_
 refine TC.seq ?_
 refine TC.region ?_
 refine TV rfl rfl rfl (Val.build (cs:=[VI 1,VI 1,VI 0,VI 0,VI 4,.slice none 0 0]) (is:=[0,1,4]) (xs:=[.const (VI 1),.const (VI 1),.const (VI 4)]) Try.underlying37 zr37 bld37 rfl rfl rfl rfl) ?_
 refine TV rfl rfl rfl (Val.build (cs:=[VI 1,VI 2,VI 0,VI 0,VI 4,.slice none 0 0]) (is:=[0,1,4]) (xs:=[.const (VI 1),.const (VI 2),.const (VI 4)]) Try.underlying37 zr37 bld37 rfl rfl rfl rfl) ?_
 refine TV rfl rfl rfl (Val.build (cs:=[VI 1,VI 3,VI 0,VI 0,VI 8,.slice none 0 0]) (is:=[0,1,4]) (xs:=[.const (VI 1),.const (VI 3),.const (VI 8)]) Try.underlying37 zr37 bld37 rfl rfl rfl rfl) ?_
 refine TL.cons (TL.buildSlice (xs:=[.tmp 6,.tmp 7,.tmp 8]) (vs:=[.agg #[VI 1,VI 1,VI 0,VI 0,VI 4,.slice none 0 0],.agg #[VI 1,VI 2,VI 0,VI 0,VI 4,.slice none 0 0],.agg #[VI 1,VI 3,VI 0,VI 0,VI 8,.slice none 0 0]]) (cs:=[VI 1,VI 1,VI 0,VI 0,VI 4,.slice none 0 0,VI 1,VI 2,VI 0,VI 0,VI 4,.slice none 0 0,VI 1,VI 3,VI 0,VI 0,VI 8,.slice none 0 0]) rfl rfl Try.underlying38 zs37 rfl rfl rfl rfl rfl rfl rfl rfl (fun b19=>?_))
 refine TV rfl rfl rfl (Val.build (cs:=[VI 1,VI 0,VI 1,VI 0]) (is:=[0,2]) (xs:=[.const (VI 1),.const (VI 1)]) Try.underlying40 zr40 bld40 rfl rfl rfl rfl) ?_
 refine TV rfl rfl rfl (Val.build (cs:=[.slice (some ⟨b19,0,none⟩) 3 3,VI 1,VI 0,VI 1,VI 0]) (is:=[0,1]) (xs:=[.tmp 9,.tmp 10]) Try.underlying42 zr42 bld42 rfl rfl rfl rfl) ?_
 refine TL.cons (TL.alloc (cs:=[.slice none 0 0,VI 0,VI 0,VI 0,VI 0]) rfl rfl zr42 rfl (fun b20=>?_))
 refine TL.cons (TL.store 0 (ds:=[.slice (some ⟨b19,0,none⟩) 3 3,VI 1,VI 0,VI 1,VI 0]) (cs':=[.slice (some ⟨b19,0,none⟩) 3 3,VI 1,VI 0,VI 1,VI 0]) (L':=(Blk b20 [.slice (some ⟨b19,0,none⟩) 3 3,VI 1,VI 0,VI 1,VI 0] 42::Blk b19 [VI 1,VI 1,VI 0,VI 0,VI 4,.slice none 0 0,VI 1,VI 2,VI 0,VI 0,VI 4,.slice none 0 0,VI 1,VI 3,VI 0,VI 0,VI 8,.slice none 0 0] 37::Blk b18 [.slice A15 y11.f0.length c16,VI y11.f1.f0,VI y11.f1.f1,VI y11.f1.f2,VI y11.f1.f3] 42::Row (Sh G13 k37) 37 (.slice A15 y11.f0.length c16) y11.f0::L)) rfl fsz42 rfl rfl rfl rfl rfl (Nat.le_of_ble_eq_true rfl) rfl rfl ?_)
 refine TL.nil ?_
 refine TQ.then_ ?_
 refine TC.seq ?_
 refine TC.region ?_
 refine TV rfl rfl rfl (Val.build (cs:=[VI 2,VI 3,VI 2,VI 1,VI 3,.slice none 0 0]) (is:=[0,1,2,3,4]) (xs:=[.const (VI 2),.const (VI 3),.const (VI 2),.const (VI 1),.const (VI 3)]) Try.underlying37 zr37 bld37 rfl rfl rfl rfl) ?_
 refine TV rfl rfl rfl (Val.buildA (cs:=[VI 1,VI 0]) (is:=[0,1]) (xs:=[.const (VI 1),.const (VI 0)]) Try.underlying81 zr81 fsz3 rfl rfl rfl rfl) ?_
 refine TL.cons (TL.buildSlice (xs:=[.tmp 13]) (vs:=[.agg #[VI 1,VI 0]]) (cs:=[VI 1,VI 0]) rfl rfl Try.underlying82 zs81 rfl rfl rfl rfl rfl rfl rfl rfl (fun b21=>?_))
 refine TK.new (Els.nil k81) ?_
 refine TK.new (El.of (k:=k81) (xv:=(⟨1,0⟩:S81)) (cs:=[VI 1,VI 0]) (fun W B=>k81_mkM W B _ _)) ?_
 refine TK.sel (Ls:=[Els k81 [] [],El k81 (⟨1,0⟩:S81) [VI 1,VI 0],Blk b21 [VI 1,VI 0] 81,Blk b20 [.slice (some ⟨b19,0,none⟩) 3 3,VI 1,VI 0,VI 1,VI 0] 42,Blk b19 [VI 1,VI 1,VI 0,VI 0,VI 4,.slice none 0 0,VI 1,VI 2,VI 0,VI 0,VI 4,.slice none 0 0,VI 1,VI 3,VI 0,VI 0,VI 8,.slice none 0 0] 37,Blk b18 [.slice A15 y11.f0.length c16,VI y11.f1.f0,VI y11.f1.f1,VI y11.f1.f2,VI y11.f1.f3] 42,Row (Sh G13 k37) 37 (.slice A15 y11.f0.length c16) y11.f0]) [1,0,2,3,4,5,6] 7 rfl rfl rfl ?_
 refine TK.two (ch:=Els k81 [(⟨1,0⟩:S81)] [VI 1,VI 0]) (Els.snoc k81) ?_
 refine TK.sel (Ls:=[Blk b21 [VI 1,VI 0] 81,Els k81 [(⟨1,0⟩:S81)] [VI 1,VI 0],Blk b20 [.slice (some ⟨b19,0,none⟩) 3 3,VI 1,VI 0,VI 1,VI 0] 42,Blk b19 [VI 1,VI 1,VI 0,VI 0,VI 4,.slice none 0 0,VI 1,VI 2,VI 0,VI 0,VI 4,.slice none 0 0,VI 1,VI 3,VI 0,VI 0,VI 8,.slice none 0 0] 37,Blk b18 [.slice A15 y11.f0.length c16,VI y11.f1.f0,VI y11.f1.f1,VI y11.f1.f2,VI y11.f1.f3] 42,Row (Sh G13 k37) 37 (.slice A15 y11.f0.length c16) y11.f0]) [1,0,2,3,4,5] 6 rfl rfl rfl ?_
 refine TK.two (ch:=Row k81 81 (.slice (some ⟨b21,0,none⟩) 1 1) ([(⟨1,0⟩:S81)]:List S81)) (Row.lit k81 rfl rfl) ?_
 refine TK.share (fun G23 e24 hs25 _=>?_)
 have rd26:Rd G23 k81 (some ⟨b21,0,none⟩) ([(⟨1,0⟩:S81)]:List S81):=Rd.row hs25
 have le27:([(⟨1,0⟩:S81)]:List S81).length ≤ 1:=Row.le hs25
 obtain ⟨y28,hy29,h⟩:=bind_no h
 refine TL.cons (TL.callV (Lin:=[]) (args:=[.agg #[VI 2,VI 3,VI 2,VI 1,VI 3,.slice none 0 0],.slice (some ⟨b21,0,none⟩) 1 1]) rfl rfl rfl hbd47 rfl rfl (fold_Op.calls (a0:=(⟨2,3,2,1,3,([]:List Int)⟩:S37)) (a1:=([(⟨1,0⟩:S81)]:List S81)) (Rd.nil _ _) (Nat.le_refl 0) rd26 le27 hy29) rfl ?_)
 rintro _ G30 _ e31 ⟨A32,c33,rfl,rfl⟩
 refine TL.cons (TL.alloc (cs:=[VI 0,VI 0,VI 0,VI 0,VI 0,.slice none 0 0]) rfl rfl zr37 rfl (fun b35=>?_))
 refine TL.cons (TL.store 0 (ds:=[VI y28.f0,VI y28.f1,VI y28.f2,VI y28.f3,VI y28.f4,.slice A32 y28.f5.length c33]) (cs':=[VI y28.f0,VI y28.f1,VI y28.f2,VI y28.f3,VI y28.f4,.slice A32 y28.f5.length c33]) (L':=(Blk b35 [VI y28.f0,VI y28.f1,VI y28.f2,VI y28.f3,VI y28.f4,.slice A32 y28.f5.length c33] 37::Row kI 3 (.slice A32 y28.f5.length c33) y28.f5::Blk b20 [.slice (some ⟨b19,0,none⟩) 3 3,VI 1,VI 0,VI 1,VI 0] 42::Blk b19 [VI 1,VI 1,VI 0,VI 0,VI 4,.slice none 0 0,VI 1,VI 2,VI 0,VI 0,VI 4,.slice none 0 0,VI 1,VI 3,VI 0,VI 0,VI 8,.slice none 0 0] 37::Blk b18 [.slice A15 y11.f0.length c16,VI y11.f1.f0,VI y11.f1.f1,VI y11.f1.f2,VI y11.f1.f3] 42::Row (Sh G13 k37) 37 (.slice A15 y11.f0.length c16) y11.f0::L)) rfl fsz37 rfl rfl rfl rfl rfl (Nat.le_of_ble_eq_true rfl) rfl rfl ?_)
 refine TL.nil ?_
 refine TQ.then_ ?_
 refine TC.seq ?_
 refine TC.region ?_
 refine TV rfl rfl rfl (Val.loadsB 4 (cs:=[.slice A15 y11.f0.length c16,VI y11.f1.f0,VI y11.f1.f1,VI y11.f1.f2,VI y11.f1.f3]) agg42 fsz42 rfl rfl rfl rfl) ?_
 refine TL.cons (TL.buildSlice (xs:=[.tmp 16]) (vs:=[.agg #[.slice A15 y11.f0.length c16,VI y11.f1.f0,VI y11.f1.f1,VI y11.f1.f2,VI y11.f1.f3]]) (cs:=[.slice A15 y11.f0.length c16,VI y11.f1.f0,VI y11.f1.f1,VI y11.f1.f2,VI y11.f1.f3]) rfl rfl Try.underlying43 zs42 rfl rfl rfl rfl rfl rfl rfl rfl (fun b85=>?_))
 refine TV rfl rfl rfl (Val.build (cs:=[VI 0,.slice (some ⟨b85,0,none⟩) 1 1]) (is:=[1]) (xs:=[.tmp 17]) Try.underlying45 zr45 bld45 rfl rfl rfl rfl) ?_
 refine TV rfl rfl rfl (Val.loadsB 3 (cs:=[.slice (some ⟨b19,0,none⟩) 3 3,VI 1,VI 0,VI 1,VI 0]) agg42 fsz42 rfl rfl rfl rfl) ?_
 refine TL.cons (TL.buildSlice (xs:=[.tmp 19]) (vs:=[.agg #[.slice (some ⟨b19,0,none⟩) 3 3,VI 1,VI 0,VI 1,VI 0]]) (cs:=[.slice (some ⟨b19,0,none⟩) 3 3,VI 1,VI 0,VI 1,VI 0]) rfl rfl Try.underlying43 zs42 rfl rfl rfl rfl rfl rfl rfl rfl (fun b86=>?_))
 refine TV rfl rfl rfl (Val.build (cs:=[VI 0,.slice (some ⟨b86,0,none⟩) 1 1]) (is:=[1]) (xs:=[.tmp 20]) Try.underlying45 zr45 bld45 rfl rfl rfl rfl) ?_
 refine TK.sel (Ls:=[Row (Sh G13 k37) 37 (.slice A15 y11.f0.length c16) y11.f0,Blk b86 [.slice (some ⟨b19,0,none⟩) 3 3,VI 1,VI 0,VI 1,VI 0] 42,Blk b85 [.slice A15 y11.f0.length c16,VI y11.f1.f0,VI y11.f1.f1,VI y11.f1.f2,VI y11.f1.f3] 42,Blk b35 [VI y28.f0,VI y28.f1,VI y28.f2,VI y28.f3,VI y28.f4,.slice A32 y28.f5.length c33] 37,Row kI 3 (.slice A32 y28.f5.length c33) y28.f5,Blk b20 [.slice (some ⟨b19,0,none⟩) 3 3,VI 1,VI 0,VI 1,VI 0] 42,Blk b19 [VI 1,VI 1,VI 0,VI 0,VI 4,.slice none 0 0,VI 1,VI 2,VI 0,VI 0,VI 4,.slice none 0 0,VI 1,VI 3,VI 0,VI 0,VI 8,.slice none 0 0] 37,Blk b18 [.slice A15 y11.f0.length c16,VI y11.f1.f0,VI y11.f1.f1,VI y11.f1.f2,VI y11.f1.f3] 42]) [7,0,1,2,3,4,5,6] 8 rfl rfl rfl ?_
 refine TK.share (fun G87 e88 hs89 _=>?_)
 have rd90:Rd G87 k37 A15 y11.f0:=Rd.unsh (Rd.row hs89) (e24.trans (e31.trans e88))
 have le91:y11.f0.length ≤ c16:=Row.le hs89
 refine TK.new (Els.nil (Sh G87 k42)) ?_
 refine TK.new (El.of (k:=(Sh G87 k42)) (xv:=y11) (cs:=[.slice A15 y11.f0.length c16,VI y11.f1.f0,VI y11.f1.f1,VI y11.f1.f2,VI y11.f1.f3]) (fun W B=>Sh.mk (fun W hW=>k42_mk W y11 le91 (rd90 W hW)) W B _)) ?_
 refine TK.sel (Ls:=[Els (Sh G87 k42) [] [],El (Sh G87 k42) y11 [.slice A15 y11.f0.length c16,VI y11.f1.f0,VI y11.f1.f1,VI y11.f1.f2,VI y11.f1.f3],Blk b86 [.slice (some ⟨b19,0,none⟩) 3 3,VI 1,VI 0,VI 1,VI 0] 42,Blk b85 [.slice A15 y11.f0.length c16,VI y11.f1.f0,VI y11.f1.f1,VI y11.f1.f2,VI y11.f1.f3] 42,Blk b35 [VI y28.f0,VI y28.f1,VI y28.f2,VI y28.f3,VI y28.f4,.slice A32 y28.f5.length c33] 37,Row kI 3 (.slice A32 y28.f5.length c33) y28.f5,Blk b20 [.slice (some ⟨b19,0,none⟩) 3 3,VI 1,VI 0,VI 1,VI 0] 42,Blk b19 [VI 1,VI 1,VI 0,VI 0,VI 4,.slice none 0 0,VI 1,VI 2,VI 0,VI 0,VI 4,.slice none 0 0,VI 1,VI 3,VI 0,VI 0,VI 8,.slice none 0 0] 37,Blk b18 [.slice A15 y11.f0.length c16,VI y11.f1.f0,VI y11.f1.f1,VI y11.f1.f2,VI y11.f1.f3] 42]) [1,0,2,3,4,5,6,7,8] 9 rfl rfl rfl ?_
 refine TK.two (ch:=Els (Sh G87 k42) [y11] [.slice A15 y11.f0.length c16,VI y11.f1.f0,VI y11.f1.f1,VI y11.f1.f2,VI y11.f1.f3]) (Els.snoc (Sh G87 k42)) ?_
 refine TK.sel (Ls:=[Blk b85 [.slice A15 y11.f0.length c16,VI y11.f1.f0,VI y11.f1.f1,VI y11.f1.f2,VI y11.f1.f3] 42,Els (Sh G87 k42) [y11] [.slice A15 y11.f0.length c16,VI y11.f1.f0,VI y11.f1.f1,VI y11.f1.f2,VI y11.f1.f3],Blk b86 [.slice (some ⟨b19,0,none⟩) 3 3,VI 1,VI 0,VI 1,VI 0] 42,Blk b35 [VI y28.f0,VI y28.f1,VI y28.f2,VI y28.f3,VI y28.f4,.slice A32 y28.f5.length c33] 37,Row kI 3 (.slice A32 y28.f5.length c33) y28.f5,Blk b20 [.slice (some ⟨b19,0,none⟩) 3 3,VI 1,VI 0,VI 1,VI 0] 42,Blk b19 [VI 1,VI 1,VI 0,VI 0,VI 4,.slice none 0 0,VI 1,VI 2,VI 0,VI 0,VI 4,.slice none 0 0,VI 1,VI 3,VI 0,VI 0,VI 8,.slice none 0 0] 37,Blk b18 [.slice A15 y11.f0.length c16,VI y11.f1.f0,VI y11.f1.f1,VI y11.f1.f2,VI y11.f1.f3] 42]) [2,0,1,3,4,5,6,7] 8 rfl rfl rfl ?_
 refine TK.two (ch:=Row (Sh G87 k42) 42 (.slice (some ⟨b85,0,none⟩) 1 1) ([y11]:List S42)) (Row.lit (Sh G87 k42) rfl rfl) ?_
 refine TK.share (fun G93 e94 hs95 hb96=>?_)
 have rd97:Rd G93 k42 (some ⟨b85,0,none⟩) ([y11]:List S42):=Rd.unsh (Rd.row hs95) e94
 have le98:([y11]:List S42).length ≤ 1:=Row.le hs95
 have rd99:=Rd.row hs95
 refine TK.new (Els.nil k37) ?_
 refine TK.new (Row.nil kI 3) ?_
 refine TK.conv (ch':=El k37 (⟨1,1,0,0,4,([]:List Int)⟩:S37) [VI 1,VI 1,VI 0,VI 0,VI 4,.slice none 0 0]) (fun B W F hh=>k37_mkM W B F (⟨1,1,0,0,4,([]:List Int)⟩:S37) hh) ?_
 refine TK.sel (Ls:=[Els k37 [] [],El k37 (⟨1,1,0,0,4,([]:List Int)⟩:S37) [VI 1,VI 1,VI 0,VI 0,VI 4,.slice none 0 0],Blk b86 [.slice (some ⟨b19,0,none⟩) 3 3,VI 1,VI 0,VI 1,VI 0] 42,Blk b35 [VI y28.f0,VI y28.f1,VI y28.f2,VI y28.f3,VI y28.f4,.slice A32 y28.f5.length c33] 37,Row kI 3 (.slice A32 y28.f5.length c33) y28.f5,Blk b20 [.slice (some ⟨b19,0,none⟩) 3 3,VI 1,VI 0,VI 1,VI 0] 42,Blk b19 [VI 1,VI 1,VI 0,VI 0,VI 4,.slice none 0 0,VI 1,VI 2,VI 0,VI 0,VI 4,.slice none 0 0,VI 1,VI 3,VI 0,VI 0,VI 8,.slice none 0 0] 37,Blk b18 [.slice A15 y11.f0.length c16,VI y11.f1.f0,VI y11.f1.f1,VI y11.f1.f2,VI y11.f1.f3] 42]) [1,0,2,3,4,5,6,7] 8 rfl rfl rfl ?_
 refine TK.two (ch:=Els k37 [(⟨1,1,0,0,4,([]:List Int)⟩:S37)] [VI 1,VI 1,VI 0,VI 0,VI 4,.slice none 0 0]) (Els.snoc k37) ?_
 refine TK.new (Row.nil kI 3) ?_
 refine TK.conv (ch':=El k37 (⟨1,2,0,0,4,([]:List Int)⟩:S37) [VI 1,VI 2,VI 0,VI 0,VI 4,.slice none 0 0]) (fun B W F hh=>k37_mkM W B F (⟨1,2,0,0,4,([]:List Int)⟩:S37) hh) ?_
 refine TK.sel (Ls:=[Els k37 [(⟨1,1,0,0,4,([]:List Int)⟩:S37)] [VI 1,VI 1,VI 0,VI 0,VI 4,.slice none 0 0],El k37 (⟨1,2,0,0,4,([]:List Int)⟩:S37) [VI 1,VI 2,VI 0,VI 0,VI 4,.slice none 0 0],Blk b86 [.slice (some ⟨b19,0,none⟩) 3 3,VI 1,VI 0,VI 1,VI 0] 42,Blk b35 [VI y28.f0,VI y28.f1,VI y28.f2,VI y28.f3,VI y28.f4,.slice A32 y28.f5.length c33] 37,Row kI 3 (.slice A32 y28.f5.length c33) y28.f5,Blk b20 [.slice (some ⟨b19,0,none⟩) 3 3,VI 1,VI 0,VI 1,VI 0] 42,Blk b19 [VI 1,VI 1,VI 0,VI 0,VI 4,.slice none 0 0,VI 1,VI 2,VI 0,VI 0,VI 4,.slice none 0 0,VI 1,VI 3,VI 0,VI 0,VI 8,.slice none 0 0] 37,Blk b18 [.slice A15 y11.f0.length c16,VI y11.f1.f0,VI y11.f1.f1,VI y11.f1.f2,VI y11.f1.f3] 42]) [1,0,2,3,4,5,6,7] 8 rfl rfl rfl ?_
 refine TK.two (ch:=Els k37 [(⟨1,1,0,0,4,([]:List Int)⟩:S37),(⟨1,2,0,0,4,([]:List Int)⟩:S37)] [VI 1,VI 1,VI 0,VI 0,VI 4,.slice none 0 0,VI 1,VI 2,VI 0,VI 0,VI 4,.slice none 0 0]) (Els.snoc k37) ?_
 refine TK.new (Row.nil kI 3) ?_
 refine TK.conv (ch':=El k37 (⟨1,3,0,0,8,([]:List Int)⟩:S37) [VI 1,VI 3,VI 0,VI 0,VI 8,.slice none 0 0]) (fun B W F hh=>k37_mkM W B F (⟨1,3,0,0,8,([]:List Int)⟩:S37) hh) ?_
 refine TK.sel (Ls:=[Els k37 [(⟨1,1,0,0,4,([]:List Int)⟩:S37),(⟨1,2,0,0,4,([]:List Int)⟩:S37)] [VI 1,VI 1,VI 0,VI 0,VI 4,.slice none 0 0,VI 1,VI 2,VI 0,VI 0,VI 4,.slice none 0 0],El k37 (⟨1,3,0,0,8,([]:List Int)⟩:S37) [VI 1,VI 3,VI 0,VI 0,VI 8,.slice none 0 0],Blk b86 [.slice (some ⟨b19,0,none⟩) 3 3,VI 1,VI 0,VI 1,VI 0] 42,Blk b35 [VI y28.f0,VI y28.f1,VI y28.f2,VI y28.f3,VI y28.f4,.slice A32 y28.f5.length c33] 37,Row kI 3 (.slice A32 y28.f5.length c33) y28.f5,Blk b20 [.slice (some ⟨b19,0,none⟩) 3 3,VI 1,VI 0,VI 1,VI 0] 42,Blk b19 [VI 1,VI 1,VI 0,VI 0,VI 4,.slice none 0 0,VI 1,VI 2,VI 0,VI 0,VI 4,.slice none 0 0,VI 1,VI 3,VI 0,VI 0,VI 8,.slice none 0 0] 37,Blk b18 [.slice A15 y11.f0.length c16,VI y11.f1.f0,VI y11.f1.f1,VI y11.f1.f2,VI y11.f1.f3] 42]) [1,0,2,3,4,5,6,7] 8 rfl rfl rfl ?_
 refine TK.two (ch:=Els k37 [(⟨1,1,0,0,4,([]:List Int)⟩:S37),(⟨1,2,0,0,4,([]:List Int)⟩:S37),(⟨1,3,0,0,8,([]:List Int)⟩:S37)] [VI 1,VI 1,VI 0,VI 0,VI 4,.slice none 0 0,VI 1,VI 2,VI 0,VI 0,VI 4,.slice none 0 0,VI 1,VI 3,VI 0,VI 0,VI 8,.slice none 0 0]) (Els.snoc k37) ?_
 refine TK.sel (Ls:=[Blk b19 [VI 1,VI 1,VI 0,VI 0,VI 4,.slice none 0 0,VI 1,VI 2,VI 0,VI 0,VI 4,.slice none 0 0,VI 1,VI 3,VI 0,VI 0,VI 8,.slice none 0 0] 37,Els k37 [(⟨1,1,0,0,4,([]:List Int)⟩:S37),(⟨1,2,0,0,4,([]:List Int)⟩:S37),(⟨1,3,0,0,8,([]:List Int)⟩:S37)] [VI 1,VI 1,VI 0,VI 0,VI 4,.slice none 0 0,VI 1,VI 2,VI 0,VI 0,VI 4,.slice none 0 0,VI 1,VI 3,VI 0,VI 0,VI 8,.slice none 0 0],Blk b86 [.slice (some ⟨b19,0,none⟩) 3 3,VI 1,VI 0,VI 1,VI 0] 42,Blk b35 [VI y28.f0,VI y28.f1,VI y28.f2,VI y28.f3,VI y28.f4,.slice A32 y28.f5.length c33] 37,Row kI 3 (.slice A32 y28.f5.length c33) y28.f5,Blk b20 [.slice (some ⟨b19,0,none⟩) 3 3,VI 1,VI 0,VI 1,VI 0] 42,Blk b18 [.slice A15 y11.f0.length c16,VI y11.f1.f0,VI y11.f1.f1,VI y11.f1.f2,VI y11.f1.f3] 42]) [5,0,1,2,3,4,6] 7 rfl rfl rfl ?_
 refine TK.two (ch:=Row k37 37 (.slice (some ⟨b19,0,none⟩) 3 3) ([(⟨1,1,0,0,4,([]:List Int)⟩:S37),(⟨1,2,0,0,4,([]:List Int)⟩:S37),(⟨1,3,0,0,8,([]:List Int)⟩:S37)]:List S37)) (Row.lit k37 rfl rfl) ?_
 refine TK.new (Els.nil k42) ?_
 refine TK.sel (Ls:=[Row k37 37 (.slice (some ⟨b19,0,none⟩) 3 3) ([(⟨1,1,0,0,4,([]:List Int)⟩:S37),(⟨1,2,0,0,4,([]:List Int)⟩:S37),(⟨1,3,0,0,8,([]:List Int)⟩:S37)]:List S37),Els k42 [] [],Blk b86 [.slice (some ⟨b19,0,none⟩) 3 3,VI 1,VI 0,VI 1,VI 0] 42,Blk b35 [VI y28.f0,VI y28.f1,VI y28.f2,VI y28.f3,VI y28.f4,.slice A32 y28.f5.length c33] 37,Row kI 3 (.slice A32 y28.f5.length c33) y28.f5,Blk b20 [.slice (some ⟨b19,0,none⟩) 3 3,VI 1,VI 0,VI 1,VI 0] 42,Blk b18 [.slice A15 y11.f0.length c16,VI y11.f1.f0,VI y11.f1.f1,VI y11.f1.f2,VI y11.f1.f3] 42]) [1,0,2,3,4,5,6] 7 rfl rfl rfl ?_
 refine TK.conv (ch':=El k42 (⟨([(⟨1,1,0,0,4,([]:List Int)⟩:S37),(⟨1,2,0,0,4,([]:List Int)⟩:S37),(⟨1,3,0,0,8,([]:List Int)⟩:S37)]:List S37),(⟨1,0,1,0⟩:S40)⟩:S42) [.slice (some ⟨b19,0,none⟩) 3 3,VI 1,VI 0,VI 1,VI 0]) (fun B W F hh=>k42_mkM W B F (⟨([(⟨1,1,0,0,4,([]:List Int)⟩:S37),(⟨1,2,0,0,4,([]:List Int)⟩:S37),(⟨1,3,0,0,8,([]:List Int)⟩:S37)]:List S37),(⟨1,0,1,0⟩:S40)⟩:S42) hh) ?_
 refine TK.sel (Ls:=[Els k42 [] [],El k42 (⟨([(⟨1,1,0,0,4,([]:List Int)⟩:S37),(⟨1,2,0,0,4,([]:List Int)⟩:S37),(⟨1,3,0,0,8,([]:List Int)⟩:S37)]:List S37),(⟨1,0,1,0⟩:S40)⟩:S42) [.slice (some ⟨b19,0,none⟩) 3 3,VI 1,VI 0,VI 1,VI 0],Blk b86 [.slice (some ⟨b19,0,none⟩) 3 3,VI 1,VI 0,VI 1,VI 0] 42,Blk b35 [VI y28.f0,VI y28.f1,VI y28.f2,VI y28.f3,VI y28.f4,.slice A32 y28.f5.length c33] 37,Row kI 3 (.slice A32 y28.f5.length c33) y28.f5,Blk b20 [.slice (some ⟨b19,0,none⟩) 3 3,VI 1,VI 0,VI 1,VI 0] 42,Blk b18 [.slice A15 y11.f0.length c16,VI y11.f1.f0,VI y11.f1.f1,VI y11.f1.f2,VI y11.f1.f3] 42]) [1,0,2,3,4,5,6] 7 rfl rfl rfl ?_
 refine TK.two (ch:=Els k42 [(⟨([(⟨1,1,0,0,4,([]:List Int)⟩:S37),(⟨1,2,0,0,4,([]:List Int)⟩:S37),(⟨1,3,0,0,8,([]:List Int)⟩:S37)]:List S37),(⟨1,0,1,0⟩:S40)⟩:S42)] [.slice (some ⟨b19,0,none⟩) 3 3,VI 1,VI 0,VI 1,VI 0]) (Els.snoc k42) ?_
 refine TK.sel (Ls:=[Blk b86 [.slice (some ⟨b19,0,none⟩) 3 3,VI 1,VI 0,VI 1,VI 0] 42,Els k42 [(⟨([(⟨1,1,0,0,4,([]:List Int)⟩:S37),(⟨1,2,0,0,4,([]:List Int)⟩:S37),(⟨1,3,0,0,8,([]:List Int)⟩:S37)]:List S37),(⟨1,0,1,0⟩:S40)⟩:S42)] [.slice (some ⟨b19,0,none⟩) 3 3,VI 1,VI 0,VI 1,VI 0],Blk b35 [VI y28.f0,VI y28.f1,VI y28.f2,VI y28.f3,VI y28.f4,.slice A32 y28.f5.length c33] 37,Row kI 3 (.slice A32 y28.f5.length c33) y28.f5,Blk b20 [.slice (some ⟨b19,0,none⟩) 3 3,VI 1,VI 0,VI 1,VI 0] 42,Blk b18 [.slice A15 y11.f0.length c16,VI y11.f1.f0,VI y11.f1.f1,VI y11.f1.f2,VI y11.f1.f3] 42]) [1,0,2,3,4,5] 6 rfl rfl rfl ?_
 refine TK.two (ch:=Row k42 42 (.slice (some ⟨b86,0,none⟩) 1 1) ([(⟨([(⟨1,1,0,0,4,([]:List Int)⟩:S37),(⟨1,2,0,0,4,([]:List Int)⟩:S37),(⟨1,3,0,0,8,([]:List Int)⟩:S37)]:List S37),(⟨1,0,1,0⟩:S40)⟩:S42)]:List S42)) (Row.lit k42 rfl rfl) ?_
 refine TK.share (fun G105 e106 hs107 hb108=>?_)
 have rd109:Rd G105 k42 (some ⟨b86,0,none⟩) ([(⟨([(⟨1,1,0,0,4,([]:List Int)⟩:S37),(⟨1,2,0,0,4,([]:List Int)⟩:S37),(⟨1,3,0,0,8,([]:List Int)⟩:S37)]:List S37),(⟨1,0,1,0⟩:S40)⟩:S42)]:List S42):=Rd.row hs107
 have le110:([(⟨([(⟨1,1,0,0,4,([]:List Int)⟩:S37),(⟨1,2,0,0,4,([]:List Int)⟩:S37),(⟨1,3,0,0,8,([]:List Int)⟩:S37)]:List S37),(⟨1,0,1,0⟩:S40)⟩:S42)]:List S42).length ≤ 1:=Row.le hs107
 obtain ⟨y111,hy112,h⟩:=bind_no h
 refine TL.cons (TL.callV (Lin:=[]) (args:=[.agg #[VI 0,.slice (some ⟨b85,0,none⟩) 1 1],.agg #[VI 0,.slice (some ⟨b86,0,none⟩) 1 1]]) rfl rfl rfl hbd41 rfl rfl (swageref14_Same.calls (a0:=(⟨0,([y11]:List S42)⟩:S45)) (a1:=(⟨0,([(⟨([(⟨1,1,0,0,4,([]:List Int)⟩:S37),(⟨1,2,0,0,4,([]:List Int)⟩:S37),(⟨1,3,0,0,8,([]:List Int)⟩:S37)]:List S37),(⟨1,0,1,0⟩:S40)⟩:S42)]:List S42)⟩:S45)) (rd97.up e106) le98 rd109 le110 hy112) rfl ?_)
 rintro _ _ _ _ ⟨rfl,rfl,rfl⟩
 refine TV rfl rfl rfl (Val.move rfl) ?_
 refine TK.split (p:=y111=true) h (fun hg113 h=>?_) (fun hg113 h=>?_)
 ·
  have hk114:y111=true:=hg113
  refine TV (Wt.yes rfl rfl rfl hk114) rfl rfl (Val.loadsB 0 (cs:=[VI y28.f0,VI y28.f1,VI y28.f2,VI y28.f3,VI y28.f4,.slice A32 y28.f5.length c33]) agg37 fsz37 rfl rfl rfl rfl) ?_
  refine TV (Wt.yes rfl rfl rfl hk114) rfl rfl (Val.build (cs:=[VI 1,VI 3,VI 0,VI 0,VI 0,.slice none 0 0]) (is:=[0,1]) (xs:=[.const (VI 1),.const (VI 3)]) Try.underlying37 zr37 bld37 rfl rfl rfl rfl) ?_
  refine TK.sel (Ls:=[Row kI 3 (.slice A32 y28.f5.length c33) y28.f5,Blk b35 [VI y28.f0,VI y28.f1,VI y28.f2,VI y28.f3,VI y28.f4,.slice A32 y28.f5.length c33] 37,Blk b20 [.slice (some ⟨b19,0,none⟩) 3 3,VI 1,VI 0,VI 1,VI 0] 42,Blk b18 [.slice A15 y11.f0.length c16,VI y11.f1.f0,VI y11.f1.f1,VI y11.f1.f2,VI y11.f1.f3] 42]) [1,0,2,3] 4 rfl rfl rfl ?_
  refine TK.share (fun G115 e116 hs117 hb118=>?_)
  have rd119:Rd G115 kI A32 y28.f5:=Rd.row hs117
  have le120:y28.f5.length ≤ c33:=Row.le hs117
  obtain ⟨y121,hy122,h⟩:=bind_no h
  refine TL.cons (TL.callV (Lin:=[]) (args:=[.agg #[VI y28.f0,VI y28.f1,VI y28.f2,VI y28.f3,VI y28.f4,.slice A32 y28.f5.length c33],.agg #[VI 1,VI 3,VI 0,VI 0,VI 0,.slice none 0 0]]) (Wt.yes rfl rfl rfl hk114) rfl rfl hbd48 rfl rfl (swageref14_SameOp.calls (a0:=y28) (a1:=(⟨1,3,0,0,0,([]:List Int)⟩:S37)) rd119 le120 (Rd.nil _ _) (Nat.le_refl 0) hy122) rfl ?_)
  rintro _ _ _ _ ⟨rfl,rfl,rfl⟩
  refine TV rfl rfl rfl (Val.pickY rfl hk114 rfl) ?_
  refine TV rfl rfl rfl (Val.move rfl) ?_
  refine TK.split (p:=y121=true) h (fun hg123 h=>?_) (fun hg123 h=>?_)
  ·
   have hk124:y121=true:=hg123
   obtain ⟨y125,hy126,h⟩:=bind_no h
   refine TL.cons (TL.callV (Lin:=[]) (args:=[VI 6,VI (-1)]) (Wt.yes rfl rfl rfl hk124) rfl rfl hbd49 rfl rfl (fold_Neutral.calls (a0:=6) (a1:=(-1)) hy126) rfl ?_)
   rintro _ _ _ _ ⟨rfl,rfl,rfl⟩
   refine TV rfl rfl rfl (Val.pickY rfl hk124 rfl) ?_
   refine TV rfl rfl rfl (Val.move rfl) ?_
   refine TK.split (p:=y125=true) h (fun hg127 h=>?_) (fun hg127 h=>?_)
   ·
    have hk128:y125=true:=hg127
    obtain ⟨y129,hy130,h⟩:=bind_no h
    refine TL.cons (TL.callV (Lin:=[]) (args:=[VI 6,VI 1]) (Wt.yes rfl rfl rfl hk128) rfl rfl hbd49 rfl rfl (fold_Neutral.calls (a0:=6) (a1:=1) hy130) rfl ?_)
    rintro _ _ _ _ ⟨rfl,rfl,rfl⟩
    refine TV (Wt.yes rfl rfl rfl hk128) rfl rfl (Val.not_ rfl) ?_
    refine TV rfl rfl rfl (Val.pickY rfl hk128 rfl) ?_
    refine TV rfl rfl rfl (Val.assign rfl) ?_
    refine TL.nil ?_
    refine TQ.then_ ?_
    refine TC.ret ?_
    refine TQ.back hb118 ?_
    refine TQ.back hb108 ?_
    refine TQ.back hb96 ?_
    obtain rfl:=Option.some.inj h
    exact TQ.fin (.inl rfl) rfl Try.results22 (.tmp rfl .nil) rfl (FRel.mk (Ls:=[]) [] 6 (Gd.le.trans (Gd.le.trans (Gd.le.trans (Gd.le.trans e7 e14) e24) e31) e88) rfl rfl rfl ⟨rfl,rfl⟩)
   ·
    have hk131:y125=false:=(by simpa using hg127)
    refine TL.cons (TL.not (Wt.no rfl rfl rfl hk131) rfl ?_)
    refine TL.cons (TL.not (Wt.no rfl rfl rfl hk131) rfl ?_)
    refine TV rfl rfl rfl (Val.pickN rfl hk131 rfl) ?_
    refine TV rfl rfl rfl (Val.assign rfl) ?_
    refine TL.nil ?_
    refine TQ.then_ ?_
    refine TC.ret ?_
    refine TQ.back hb118 ?_
    refine TQ.back hb108 ?_
    refine TQ.back hb96 ?_
    obtain rfl:=Option.some.inj h
    exact TQ.fin (.inl rfl) rfl Try.results22 (.tmp rfl .nil) rfl (FRel.mk (Ls:=[]) [] 6 (Gd.le.trans (Gd.le.trans (Gd.le.trans (Gd.le.trans e7 e14) e24) e31) e88) rfl rfl rfl ⟨rfl,rfl⟩)
  ·
   have hk132:y121=false:=(by simpa using hg123)
   refine TL.cons (TL.not (Wt.no rfl rfl rfl hk132) rfl ?_)
   refine TV rfl rfl rfl (Val.pickN rfl hk132 rfl) ?_
   refine TV rfl rfl rfl (Val.move rfl) ?_
   refine TL.cons (TL.not (Wt.no rfl rfl rfl rfl) rfl ?_)
   refine TL.cons (TL.not (Wt.no rfl rfl rfl rfl) rfl ?_)
   refine TV rfl rfl rfl (Val.pickN rfl rfl rfl) ?_
   refine TV rfl rfl rfl (Val.assign rfl) ?_
   refine TL.nil ?_
   refine TQ.then_ ?_
   refine TC.ret ?_
   refine TQ.back hb118 ?_
   refine TQ.back hb108 ?_
   refine TQ.back hb96 ?_
   obtain rfl:=Option.some.inj h
   exact TQ.fin (.inl rfl) rfl Try.results22 (.tmp rfl .nil) rfl (FRel.mk (Ls:=[]) [] 6 (Gd.le.trans (Gd.le.trans (Gd.le.trans (Gd.le.trans e7 e14) e24) e31) e88) rfl rfl rfl ⟨rfl,rfl⟩)
 ·
  have hk133:y111=false:=(by simpa using hg113)
  refine TL.cons (TL.not (Wt.no rfl rfl rfl hk133) rfl ?_)
  refine TL.cons (TL.not (Wt.no rfl rfl rfl hk133) rfl ?_)
  refine TL.cons (TL.not (Wt.no rfl rfl rfl hk133) rfl ?_)
  refine TV rfl rfl rfl (Val.pickN rfl hk133 rfl) ?_
  refine TV rfl rfl rfl (Val.move rfl) ?_
  refine TL.cons (TL.not (Wt.no rfl rfl rfl rfl) rfl ?_)
  refine TV rfl rfl rfl (Val.pickN rfl rfl rfl) ?_
  refine TV rfl rfl rfl (Val.move rfl) ?_
  refine TL.cons (TL.not (Wt.no rfl rfl rfl rfl) rfl ?_)
  refine TL.cons (TL.not (Wt.no rfl rfl rfl rfl) rfl ?_)
  refine TV rfl rfl rfl (Val.pickN rfl rfl rfl) ?_
  refine TV rfl rfl rfl (Val.assign rfl) ?_
  refine TL.nil ?_
  refine TQ.then_ ?_
  refine TC.ret ?_
  refine TQ.back hb108 ?_
  refine TQ.back hb96 ?_
  obtain rfl:=Option.some.inj h
  exact TQ.fin (.inl rfl) rfl Try.results22 (.tmp rfl .nil) rfl (FRel.mk (Ls:=[]) [] 6 (Gd.le.trans (Gd.le.trans (Gd.le.trans (Gd.le.trans e7 e14) e24) e31) e88) rfl rfl rfl ⟨rfl,rfl⟩)
def slices_Clone_api_Block_api_Block.f (a0:(List S42)):Option (List S42):=(if ([]:List S42).length + a0.length ≤ 2513169434916 then some (([]:List S42) ++ a0) else none)
def slices_Clone_api_Block_api_Block.post (G:Gd)  (r:(List S42)) (v:Value) (G':Gd) (Lr:List Ch):Prop:=G=G'∧∃ (A_1:Option Addr) (c_1:Nat),v=.slice A_1 r.length c_1∧Lr=[Row (Sh G k42) 42 (.slice A_1 r.length c_1) r]
theorem slices_Clone_api_Block_api_Block.calls {G:Gd} {r:(List S42)} {a0:(List S42)} {A1:Option Addr} {c2:Nat} (hr3:Rd G k42 A1 a0) (hl4:a0.length ≤ c2) (h:slices_Clone_api_Block_api_Block.f a0=some r):Fn Try.prog 44 G [] [.slice A1 a0.length c2] (slices_Clone_api_Block_api_Block.post G  r):=by
 refine Fn.intro (e:=[(0,.slice A1 a0.length c2)]) 8 Try.func44 rfl Try.ntmps44 rfl rfl (Nat.le_of_ble_eq_true rfl) (fun L=>?_)
 unfold slices_Clone_api_Block_api_Block.f at h
 refine TC.seq ?_
 refine TC.region ?_
 refine TV rfl rfl rfl (Val.assign rfl) ?_
 refine TL.nil ?_
 refine TQ.then_ ?_
 refine TC.seq ?_
 refine TC.seq ?_
 refine TC.region ?_
 refine TV rfl rfl rfl (Val.move rfl) ?_
 refine TV rfl rfl rfl (Val.eqNil Try.underlying43 rfl) ?_
 refine TL.nil ?_
 refine TQ.then_ ?_
 refine TC.cond rfl (fun hc6=>?_) (fun hc6=>?_)
 ·
  have hn:=Rd.nilEq hr3 hc6
  have h:some ([]:List S42)=some r:=by first | (simpa [hn] using h) | (simp [hn] at h; simp [h,hn])
  refine TC.seq ?_
  refine TC.region ?_
  refine TV rfl rfl rfl (Val.assign rfl) ?_
  refine TL.nil ?_
  refine TQ.then_ ?_
  refine TC.ret ?_
  refine TQ.thenR ?_
  refine TQ.nilRow (Sh G k42) 42 ?_
  obtain rfl:=Option.some.inj h
  exact TQ.fin (.inl rfl) rfl Try.results44 (.tmp rfl .nil) rfl (FRel.mk (Ls:=[Row (Sh G k42) 42 (.slice none 0 0) ([]:List S42)]) [0] 1 (Gd.le.refl _) rfl rfl rfl ⟨rfl,none,0,rfl,rfl⟩)
 ·
  refine TC.skip ?_
  refine TQ.then_ ?_
  refine TC.seq ?_
  refine TC.region ?_
  refine TL.cons (TL.buildSlice0 k42 rfl rfl Try.underlying43 zs42 (fun b8=>?_))
  refine TV rfl rfl rfl (Val.move rfl) ?_
  refine TK.conv (ch':=Row (Sh G k42) 42 (.slice (some ⟨b8,0,none⟩) 0 0) ([]:List S42)) (fun B W F hh=>Row.empty k42 (Sh G k42) rfl B W F hh) ?_
  obtain ⟨ha10,h⟩:=ite_no h
  refine TL.cons (TL.appendR (xs:=([]:List S42)) (ys:=a0) (Sh G k42) (Sh G k42) rfl rfl Try.underlying43 inf42 rfl (Nat.le_of_ble_eq_true rfl) (Nat.le_of_ble_eq_true rfl) rfl rfl (by omega) (Rd.sh hr3) rfl (fun _ _ _ _ _ h=>h) (fun A11 c12=>?_))
  refine TV rfl rfl rfl (Val.assign rfl) ?_
  refine TL.nil ?_
  refine TQ.then_ ?_
  refine TC.ret ?_
  obtain rfl:=Option.some.inj h
  exact TQ.fin (.inl rfl) rfl Try.results44 (.tmp rfl .nil) rfl (FRel.mk (Ls:=[Row (Sh G k42) 42 (.slice A11 (([]:List S42) ++ a0).length c12) (([]:List S42) ++ a0)]) [0] 1 (Gd.le.refl _) rfl rfl rfl ⟨rfl,A11,c12,rfl,rfl⟩)
def fold_Func.l0 (y7:(List S42)):Nat → (List S42) → Int → Option ((List S42))
 | 0,_,_=>none
 | n951 + 1,l786,x791=>(if x791 < (y7.length:Int) then (at? l786 x791).bind fun y1188=>(fold_Block.f y1188).bind fun (y1238:S42)=>(at? l786 x791).bind fun y1245=>fold_Func.l0 y7 n951 (l786.set x791.toNat y1238) (IntKind.i64.wrap (x791 + 1)) else some l786)
def fold_Func.f (a0:S45):Option S45:=(slices_Clone_api_Block_api_Block.f a0.f1).bind fun (y7:(List S42))=>(fold_Func.l0 y7 (y7.length + 1) y7 0).bind fun (l946:(List S42))=>some (⟨a0.f0,l946⟩:S45)
def fold_Func.post (G:Gd)  (r:S45) (v:Value) (G':Gd) (Lr:List Ch):Prop:=∃ (A_1:Option Addr) (c_1:Nat),v=.agg #[VI r.f0,.slice A_1 r.f1.length c_1]∧Lr=[Row (Sh G' k42) 42 (.slice A_1 r.f1.length c_1) r.f1]
theorem fold_Func.calls {G:Gd} {r:S45} {a0:S45} {A1:Option Addr} {c2:Nat} (hr3:Rd G k42 A1 a0.f1) (hl4:a0.f1.length ≤ c2) (h:fold_Func.f a0=some r):Fn Try.prog 23 G [] [.agg #[VI a0.f0,.slice A1 a0.f1.length c2]] (fold_Func.post G  r):=by
 refine Fn.intro (e:=[(0,.agg #[VI a0.f0,.slice A1 a0.f1.length c2])]) 25 Try.func23 rfl Try.ntmps23 rfl rfl (Nat.le_of_ble_eq_true rfl) (fun L=>?_)
 unfold fold_Func.f at h
 refine TC.seq ?_
 refine TC.region ?_
 refine TL.cons (TL.box (cs:=[VI a0.f0,.slice A1 a0.f1.length c2]) rfl rfl rfl rfl (fun b5=>?_))
 refine TL.cons (TL.alloc (cs:=[VI 0,.slice none 0 0]) rfl rfl zr45 rfl (fun b6=>?_))
 refine TL.nil ?_
 refine TQ.then_ ?_
 refine TC.seq ?_
 refine TC.region ?_
 refine TV rfl rfl rfl (Val.fieldAddrB Try.underlying45 rfl fsz43 rfl rfl rfl) ?_
 refine TV rfl rfl rfl (Val.loadB 1 agg43 rfl rfl rfl) ?_
 obtain ⟨y7,hy8,h⟩:=bind_no h
 refine TL.cons (TL.callV (Lin:=[]) (args:=[.slice A1 a0.f1.length c2]) rfl rfl rfl hbd44 rfl rfl (slices_Clone_api_Block_api_Block.calls (a0:=a0.f1) hr3 hl4 hy8) rfl ?_)
 rintro _ _ _ _ ⟨rfl,A9,c10,rfl,rfl⟩
 refine TV rfl rfl rfl (Val.fieldAddrB Try.underlying45 rfl fsz43 rfl rfl rfl) ?_
 refine TL.cons (TL.store 2 (ds:=[.slice A9 y7.length c10]) (cs':=[VI a0.f0,.slice A9 y7.length c10]) (L':=(Row (Sh G k42) 42 (.slice A9 y7.length c10) y7::Blk b6 [VI 0,.slice none 0 0] 45::Blk b5 [VI a0.f0,.slice A9 y7.length c10] 45::L)) rfl fsz43 rfl rfl rfl rfl rfl (Nat.le_of_ble_eq_true rfl) rfl rfl ?_)
 refine TL.nil ?_
 refine TQ.then_ ?_
 refine TC.seq ?_
 refine TC.seq ?_
 refine TC.region ?_
 refine TV rfl rfl rfl (Val.fieldAddrB Try.underlying45 rfl fsz43 rfl rfl rfl) ?_
 refine TV rfl rfl rfl (Val.loadB 2 agg43 rfl rfl rfl) ?_
 refine TV rfl rfl rfl (Val.len Try.underlying43 rfl) ?_
 refine TV rfl rfl rfl (Val.move rfl) ?_
 refine TL.nil ?_
 refine TQ.then_ ?_
 obtain ⟨o950,ho950,ko950⟩:=bind_no h
 clear h
 refine TC.tail (fun a W=>∃ (l946:(List S42)) (G944:Gd) (A947:Option Addr) (c948:Nat),l946=o950∧G.le G944∧Fr 25 a [(1,VP b5 0),(2,VP b6 0)]∧Own G944 (Blk b5 [VI a0.f0,.slice A947 l946.length c948] 45::Blk b6 [VI 0,.slice none 0 0] 45::Row (Sh G944 k42) 42 (.slice A947 l946.length c948) l946::L) W) ?_ ?_
 ·
  rintro a W ⟨l946,G944,A947,c948,rfl,e945,hF,hO⟩
  have h:=ko950
  clear ko950 ho950
  refine TQ.use ?_ hF hO
  clear hF hO
  refine TQ.then_ ?_
  refine TC.seq ?_
  refine TC.region ?_
  refine TV rfl rfl rfl (Val.loadsB 0 (cs:=[VI a0.f0,.slice A947 l946.length c948]) agg45 fsz45 rfl rfl rfl rfl) ?_
  refine TL.cons (TL.store 1 (ds:=[VI a0.f0,.slice A947 l946.length c948]) (cs':=[VI a0.f0,.slice A947 l946.length c948]) (L':=(Blk b5 [VI a0.f0,.slice A947 l946.length c948] 45::Blk b6 [VI a0.f0,.slice A947 l946.length c948] 45::Row (Sh G944 k42) 42 (.slice A947 l946.length c948) l946::L)) rfl fsz45 rfl rfl rfl rfl rfl (Nat.le_of_ble_eq_true rfl) rfl rfl ?_)
  refine TL.nil ?_
  refine TQ.then_ ?_
  refine TC.ret ?_
  obtain rfl:=Option.some.inj h
  exact TQ.fin (.inl rfl) rfl Try.results23 (.cells 1 rfl rfl agg45 fsz45 .nil) rfl (FRel.mk (Ls:=[Row (Sh G944 k42) 42 (.slice A947 l946.length c948) l946]) [2] 3 e945 rfl rfl rfl ⟨A947,c948,rfl,rfl⟩)
 ·
  refine TC.block ?_
  intro a W hF hO
  have hS:∃ (l786:(List S42)) (x791:Int) (G784:Gd) (A787:Option Addr) (c788:Nat),fold_Func.l0 y7 (y7.length + 1) l786 x791=some o950∧G.le G784∧l786.length=y7.length∧Fr 25 a [(1,VP b5 0),(2,VP b6 0),(10,.slice A787 l786.length c788),(11,VI (y7.length:Int)),(12,VI x791)]∧Own G784 (Blk b5 [VI a0.f0,.slice A787 l786.length c788] 45::Blk b6 [VI 0,.slice none 0 0] 45::Row (Sh G784 k42) 42 (.slice A787 l786.length c788) l786::L) W:=by
   exact ⟨y7,0,G,A9,c10,ho950,(Gd.le.refl _),(by first | rfl | assumption | omega | (simp only [List.length_set]; first | rfl | assumption | omega)),hF.sub ⟨rfl,rfl,rfl,rfl,rfl,trivial⟩,hO.selT (Ls:=[Blk b5 [VI a0.f0,.slice A9 y7.length c10] 45,Blk b6 [VI 0,.slice none 0 0] 45,Row (Sh G k42) 42 (.slice A9 y7.length c10) y7]) [2,1,0] 3 rfl rfl rfl⟩
  clear hF hO ho950 ko950
  refine TC.loop (fun n951 a W=>∃ (l786:(List S42)) (x791:Int) (G784:Gd) (A787:Option Addr) (c788:Nat),fold_Func.l0 y7 n951 l786 x791=some o950∧G.le G784∧l786.length=y7.length∧Fr 25 a [(1,VP b5 0),(2,VP b6 0),(10,.slice A787 l786.length c788),(11,VI (y7.length:Int)),(12,VI x791)]∧Own G784 (Blk b5 [VI a0.f0,.slice A787 l786.length c788] 45::Blk b6 [VI 0,.slice none 0 0] 45::Row (Sh G784 k42) 42 (.slice A787 l786.length c788) l786::L) W) ?_ ?_ hS
  ·
   rintro a W ⟨l786,x791,G784,A787,c788,h,e785,hl790,hF,hO⟩
   exact none_no h
  ·
   clear hS
   rintro n951 a W ⟨l786,x791,G784,A787,c788,h,e785,hl790,hF,hO⟩
   rw [fold_Func.l0] at h
   refine TC.use ?_ hF hO
   clear hF hO
   refine TC.seq ?_
   refine TC.region ?_
   refine TV rfl rfl rfl (Val.cmp rfl rfl run_lss) ?_
   refine TL.nil ?_
   refine TQ.then_ ?_
   refine TC.seq ?_
   refine TC.cond_p rfl h (fun hc1105 h=>?_) (fun hc1105 h=>?_)
   ·
    refine TC.skip ?_
    refine TQ.then_ ?_
    refine TC.seq ?_
    refine TC.block ?_
    refine TC.seq ?_
    refine TC.region ?_
    refine TV rfl rfl rfl (Val.move rfl) ?_
    refine TK.sel (Ls:=[Row (Sh G784 k42) 42 (.slice A787 l786.length c788) l786,Blk b5 [VI a0.f0,.slice A787 l786.length c788] 45,Blk b6 [VI 0,.slice none 0 0] 45]) [2,0,1] 3 rfl rfl rfl ?_
    refine TK.share (fun G1181 e1182 hs1183 hb1184=>?_)
    have rd1185:Rd G1181 k42 A787 l786:=Rd.unsh (Rd.row hs1183) e1182
    have le1186:l786.length ≤ c788:=Row.le hs1183
    have rd1187:=Rd.row hs1183
    obtain ⟨y1188,hx1189,h⟩:=bind_no h
    obtain ⟨ad1190,cs1196,hA1191,hi1192,hj1193,hcl1194,hK1195⟩:=Rd.at rd1187 hx1189
    have hK1195:=(hK1195 _ (Gd.self _)).2.2
    obtain ⟨A1197,c1198,rfl,hr1199,hl1200⟩:=k42_openR hK1195
    refine TV rfl rfl rfl (Val.indexAddr Try.underlying43 fsz42 rfl hA1191 rfl hi1192 hj1193) ?_
    refine TV rfl rfl rfl (Val.loadsS (cs:=[.slice A1197 y1188.f0.length c1198,VI y1188.f1.f0,VI y1188.f1.f1,VI y1188.f1.f2,VI y1188.f1.f3]) agg42 fsz42 rfl rfl (Cl.sub (off:=0) (n:=5) hcl1194 rfl)) ?_
    refine TL.cons (TL.alloc (cs:=[.slice none 0 0,VI 0,VI 0,VI 0,VI 0]) rfl rfl zr42 rfl (fun b1201=>?_))
    refine TV rfl rfl rfl (Val.assign rfl) ?_
    refine TL.cons (TL.store 0 (ds:=[.slice A1197 y1188.f0.length c1198,VI y1188.f1.f0,VI y1188.f1.f1,VI y1188.f1.f2,VI y1188.f1.f3]) (cs':=[.slice A1197 y1188.f0.length c1198,VI y1188.f1.f0,VI y1188.f1.f1,VI y1188.f1.f2,VI y1188.f1.f3]) (L':=(Blk b1201 [.slice A1197 y1188.f0.length c1198,VI y1188.f1.f0,VI y1188.f1.f1,VI y1188.f1.f2,VI y1188.f1.f3] 42::Blk b5 [VI a0.f0,.slice A787 l786.length c788] 45::Blk b6 [VI 0,.slice none 0 0] 45::L)) rfl fsz42 rfl rfl rfl rfl rfl (Nat.le_of_ble_eq_true rfl) rfl rfl ?_)
    refine TL.nil ?_
    refine TQ.then_ ?_
    refine TC.back hb1184 ?_
    refine TC.regionAny [6] [0,1,2,3,5] mixed (by kernel_rfl) ?_
    refine TA.take 0 rfl (by kernel_rfl) rfl (PQ.inB (PQ.then_ (PQ.then_ (PQ.inB (PQ.then_ (PQ.then_ PQ.body)))))) rfl (Val.fieldAddrB Try.underlying45 rfl fsz43 rfl rfl rfl) (fun W hO=>hO) ?_
    refine TA.take 1 rfl (by kernel_rfl) rfl (PQ.inB (PQ.then_ (PQ.then_ (PQ.inB (PQ.then_ (PQ.then_ PQ.body)))))) rfl (Val.loadB 2 agg43 rfl rfl rfl) (fun W hO=>hO) ?_
    refine TA.take 2 rfl (by kernel_rfl) rfl (PQ.inB (PQ.then_ (PQ.then_ (PQ.inB (PQ.then_ (PQ.then_ PQ.body)))))) rfl (Val.move rfl) (fun W hO=>hO) ?_
    refine TA.take 3 rfl (by kernel_rfl) rfl (PQ.inB (PQ.then_ (PQ.then_ (PQ.inB (PQ.then_ (PQ.then_ PQ.body)))))) rfl (Val.loadsB 1 (cs:=[.slice A1197 y1188.f0.length c1198,VI y1188.f1.f0,VI y1188.f1.f1,VI y1188.f1.f2,VI y1188.f1.f3]) agg42 fsz42 rfl rfl rfl rfl) (fun W hO=>hO) ?_
    obtain ⟨y1238,hy1239,h⟩:=bind_no h
    refine TA.eff 4 rfl (by kernel_rfl) rfl (TL.callV (Lin:=[]) (args:=[.agg #[.slice A1197 y1188.f0.length c1198,VI y1188.f1.f0,VI y1188.f1.f1,VI y1188.f1.f2,VI y1188.f1.f3]]) rfl rfl rfl hbd45 rfl rfl (fold_Block.calls (a0:=y1188) hr1199 hl1200 hy1239) rfl ?_)
    rintro _ G1240 _ e1241 ⟨A1242,c1243,rfl,rfl⟩
    refine TA.next (fun W hO=>(Own.weak e1241 hO).selT (Ls:=[Row (Sh G784 k42) 42 (.slice A787 l786.length c788) l786,Blk b1201 [.slice A1197 y1188.f0.length c1198,VI y1188.f1.f0,VI y1188.f1.f1,VI y1188.f1.f2,VI y1188.f1.f3] 42,Blk b5 [VI a0.f0,.slice A787 l786.length c788] 45,Blk b6 [VI 0,.slice none 0 0] 45]) [1,2,3,4] 5 rfl rfl rfl) ?_
    obtain ⟨y1245,hy1246,h⟩:=bind_no h
    refine TK.opened 1 rfl hy1246 (fun b1247 hA1248 hi1249 hj1250=>?_)
    refine TA.take 5 rfl (by kernel_rfl) rfl (PQ.inB (PQ.then_ (PQ.then_ (PQ.inB (PQ.then_ (PQ.then_ PQ.body)))))) rfl (Val.indexAddrW Try.underlying43 fsz42 rfl hA1248 rfl hi1249 hj1250) (fun W hO=>(Own.weak e1241 hO).selT (Ls:=[Row (Sh G784 k42) 42 (.slice A787 l786.length c788) l786,Blk b1201 [.slice A1197 y1188.f0.length c1198,VI y1188.f1.f0,VI y1188.f1.f1,VI y1188.f1.f2,VI y1188.f1.f3] 42,Blk b5 [VI a0.f0,.slice A787 l786.length c788] 45,Blk b6 [VI 0,.slice none 0 0] 45]) [1,2,3,4] 5 rfl rfl rfl) ?_
    refine TK.share (fun G1251 e1252 hs1253 _=>?_)
    have rd1254:Rd G1251 k37 A1242 y1238.f0:=Rd.unsh (Rd.row hs1253) e1252
    have le1255:y1238.f0.length ≤ c1243:=Row.le hs1253
    refine TK.new (El.of (k:=(Sh G1251 k42)) (xv:=y1238) (cs:=[.slice A1242 y1238.f0.length c1243,VI y1238.f1.f0,VI y1238.f1.f1,VI y1238.f1.f2,VI y1238.f1.f3]) (fun W B=>Sh.mk (fun W hW=>k42_mk W y1238 le1255 (rd1254 W hW)) W B _)) ?_
    refine TK.sel (Ls:=[Row (Sh G784 k42) 42 (.slice A787 l786.length c788) l786,El (Sh G1251 k42) y1238 [.slice A1242 y1238.f0.length c1243,VI y1238.f1.f0,VI y1238.f1.f1,VI y1238.f1.f2,VI y1238.f1.f3],Blk b1201 [.slice A1197 y1188.f0.length c1198,VI y1188.f1.f0,VI y1188.f1.f1,VI y1188.f1.f2,VI y1188.f1.f3] 42,Blk b5 [VI a0.f0,.slice A787 l786.length c788] 45,Blk b6 [VI 0,.slice none 0 0] 45]) [1,0,2,3,4] 5 rfl rfl rfl ?_
    refine TK.conv (ch':=Row (Sh G1251 k42) 42 (.slice A787 l786.length c788) l786) (fun B W F hh=>Row.sh (Gd.le.trans e1241 e1252) B W F hh) ?_
    refine TA.eff 6 rfl (by kernel_rfl) rfl (TL.storeE (Sh G1251 k42) (xs:=l786) (xv:=y1238) (ds:=[.slice A1242 y1238.f0.length c1243,VI y1238.f1.f0,VI y1238.f1.f1,VI y1238.f1.f2,VI y1238.f1.f3]) rfl fsz42 hA1248 hy1246 rfl rfl rfl rfl (Nat.le_of_ble_eq_true rfl) (wholeM rfl) ?_)
    refine TA.last rfl ?_
    rw [show (l786.length:Nat)=(l786.set x791.toNat y1238).length from by simp only [List.length_set]]
    refine TA.done (by kernel_rfl) ?_
    refine TQ.inB ?_
    refine TQ.then_ ?_
    refine TC.region ?_
    refine TV rfl rfl rfl (Val.cmp rfl rfl run_add) ?_
    refine TV rfl rfl rfl (Val.move rfl) ?_
    refine TL.nil ?_
    exact fun a W hF hO=>⟨(l786.set x791.toNat y1238),IntKind.i64.wrap (x791 + 1),G1251,A787,c788,h,(Gd.le.trans (Gd.le.trans e785 e1241) e1252),(by first | rfl | assumption | omega | (simp only [List.length_set]; first | rfl | assumption | omega)),hF.sub ⟨rfl,rfl,rfl,rfl,rfl,trivial⟩,hO.selT (Ls:=[Blk b5 [VI a0.f0,.slice A787 (l786.set x791.toNat y1238).length c788] 45,Blk b6 [VI 0,.slice none 0 0] 45,Row (Sh G1251 k42) 42 (.slice A787 (l786.set x791.toNat y1238).length c788) (l786.set x791.toNat y1238)]) [2,3,0] 4 rfl rfl rfl⟩
   ·
    refine TC.exit ?_
    refine TQ.thenX ?_
    refine TQ.thenX ?_
    refine TQ.inBX ?_
    exact fun a W hF hO=>⟨l786,G784,A787,c788,Option.some.inj h,e785,hF.sub ⟨rfl,rfl,trivial⟩,hO.selT (Ls:=[Blk b5 [VI a0.f0,.slice A787 l786.length c788] 45,Blk b6 [VI 0,.slice none 0 0] 45,Row (Sh G784 k42) 42 (.slice A787 l786.length c788) l786]) [0,1,2] 3 rfl rfl rfl⟩
def swagelaw24_FoldRuns.l0 (a0:(List S45)):Nat → (List S45) → Int → Option ((List S45))
 | 0,_,_=>none
 | n241 + 1,l169,x173=>(if x173 < (a0.length:Int) then (at? a0 x173).bind fun y412=>(fold_Func.f y412).bind fun (y425:S45)=>(if l169.length < 4398046511104 then swagelaw24_FoldRuns.l0 a0 n241 (l169 ++ [y425]) (IntKind.i64.wrap (x173 + 1)) else none) else some l169)
def swagelaw24_FoldRuns.f (a0:(List S45)) (a1:Int) (a2:(List Int)) (a3:Int):Option Bool:=(swagelaw24_small.f).bind fun (y9:Bool)=>(swagelaw15_Few.f a0).bind fun (y13:Bool)=>jn (γ:=Bool) (fun (x32:Bool)=>(if x32=true then some y9 else (swagelaw24_FoldRuns.l0 a0 (a0.length + 1) [] 0).bind fun (l236:(List S45))=>(trace_Run.f a0 a1 a2 a3).bind fun (y302:(S28 × Int))=>(trace_Run.f l236 a1 a2 a3).bind fun (y315:(S28 × Int))=>(if (!decide (y302.2=0))=true then some y9 else (if y9=true then (if y315.2=0 then (trace_Same.f y302.1 y315.1).bind fun (y368:Bool)=>(if y368=true then (if y302.1.f2=y315.1.f2 then (if y302.1.f3=y315.1.f3 then some (decide (y302.1.f4=y315.1.f4)) else some false) else some false) else some false) else some false) else some false)))) (fun (j33:(Bool → Option Bool))=>(if (!y13)=true then j33 true else (if a1 < 1 then j33 true else (if 4096 < a1 then j33 true else (if 60 < (a2.length:Int) then j33 true else (if a3 < 0 then j33 true else j33 (decide (2000 < a3))))))))
def swagelaw24_FoldRuns.post (G:Gd)  (r:Bool) (v:Value) (G':Gd) (Lr:List Ch):Prop:=v=.bool r∧Lr=[]
theorem swagelaw24_FoldRuns.calls {G:Gd} {r:Bool} {a0:(List S45)} {a1:Int} {a2:(List Int)} {a3:Int} {A1:Option Addr} {c2:Nat} {A5:Option Addr} {c6:Nat} (hr3:Rd G k45 A1 a0) (hl4:a0.length ≤ c2) (hr7:Rd G kI A5 a2) (hl8:a2.length ≤ c6) (h:swagelaw24_FoldRuns.f a0 a1 a2 a3=some r):Fn Try.prog 8 G [] [.slice A1 a0.length c2,VI a1,.slice A5 a2.length c6,VI a3] (swagelaw24_FoldRuns.post G  r):=by
 refine Fn.intro (e:=[(0,.slice A1 a0.length c2),(1,VI a1),(2,.slice A5 a2.length c6),(3,VI a3)]) 108 Try.func8 rfl Try.ntmps8 rfl rfl (Nat.le_of_ble_eq_true rfl) (fun L=>?_)
 unfold swagelaw24_FoldRuns.f at h
 refine TC.seq ?_
 refine TC.region ?_
 refine TV rfl rfl rfl (Val.assign rfl) ?_
 refine TL.nil ?_
 refine TQ.then_ ?_
 refine TC.seq ?_
 refine TC.region ?_
 obtain ⟨y9,hy10,h⟩:=bind_no h
 refine TL.cons (TL.callV (Lin:=[]) (args:=[]) rfl rfl rfl hbd22 rfl rfl (swagelaw24_small.calls hy10) rfl ?_)
 rintro _ G11 _ e12 ⟨rfl,rfl⟩
 refine TV rfl rfl rfl (Val.assign rfl) ?_
 refine TL.nil ?_
 refine TQ.then_ ?_
 refine TC.seq ?_
 refine TC.region ?_
 refine TV rfl rfl rfl (Val.move rfl) ?_
 obtain ⟨y13,hy14,h⟩:=bind_no h
 refine TL.cons (TL.callV (Lin:=[]) (args:=[.slice A1 a0.length c2]) rfl rfl rfl hbd10 rfl rfl (swagelaw15_Few.calls (a0:=a0) (hr3.up e12) hl4 hy14) rfl ?_)
 rintro _ _ _ _ ⟨rfl,rfl,rfl⟩
 refine TV rfl rfl rfl (Val.assign rfl) ?_
 refine TL.nil ?_
 refine TQ.then_ ?_
 refine TC.seq ?_
 refine TC.seq ?_
 obtain ⟨j33,hj33,h⟩:=jn_no h
 refine TC.tail (fun a W=>∃ (x32:Bool) (G30:Gd),j33 x32=some r∧G.le G30∧Fr 108 a [(0,.slice A1 a0.length c2),(1,VI a1),(2,.slice A5 a2.length c6),(3,VI a3),(9,.bool y9),(42,.bool x32)]∧Own G30 (L) W) ?_ ?_
 ·
  rintro a W ⟨x32,G30,h,e31,hF,hO⟩
  rw [hj33] at h
  refine TQ.use ?_ hF hO
  clear hF hO
  refine TQ.then_ ?_
  refine TC.cond_b rfl h (fun hc35 h=>?_) (fun hc35 h=>?_)
  ·
   refine TC.seq ?_
   refine TC.region ?_
   refine TV rfl rfl rfl (Val.move rfl) ?_
   refine TV rfl rfl rfl (Val.assign rfl) ?_
   refine TL.nil ?_
   refine TQ.then_ ?_
   refine TC.ret ?_
   refine TQ.thenR ?_
   obtain rfl:=Option.some.inj h
   exact TQ.fin (.inl rfl) rfl Try.results8 (.tmp rfl .nil) rfl (FRel.mk (Ls:=[]) [] 0 e31 rfl rfl rfl ⟨rfl,rfl⟩)
  ·
   refine TC.skip ?_
   refine TQ.then_ ?_
   refine TC.seq ?_
   refine TC.region ?_
   refine TV rfl rfl rfl (Val.assign rfl) ?_
   refine TL.nil ?_
   refine TQ.then_ ?_
   refine TC.seq ?_
   refine TC.seq ?_
   refine TC.region ?_
   refine TV rfl rfl rfl (Val.assign rfl) ?_
   refine TL.nil ?_
   refine TQ.then_ ?_
   obtain ⟨o240,ho240,ko240⟩:=bind_no h
   clear h
   refine TC.tail (fun a W=>∃ (l236:(List S45)) (G234:Gd) (A237:Option Addr) (c238:Nat),l236=o240∧G.le G234∧Fr 108 a [(0,.slice A1 a0.length c2),(1,VI a1),(2,.slice A5 a2.length c6),(3,VI a3),(9,.bool y9),(11,.slice A237 l236.length c238)]∧Own G234 (Row (Sh G234 k45) 45 (.slice A237 l236.length c238) l236::L) W) ?_ ?_
   ·
    rintro a W ⟨l236,G234,A237,c238,rfl,e235,hF,hO⟩
    have h:=ko240
    clear ko240 ho240
    refine TQ.use ?_ hF hO
    clear hF hO
    refine TQ.then_ ?_
    refine TC.seq ?_
    refine TC.region ?_
    refine TV rfl rfl rfl (Val.move rfl) ?_
    refine TV rfl rfl rfl (Val.move rfl) ?_
    refine TV rfl rfl rfl (Val.move rfl) ?_
    refine TV rfl rfl rfl (Val.move rfl) ?_
    obtain ⟨y302,hy303,h⟩:=bind_no h
    refine TL.cons (TL.callV (Lin:=[]) (args:=[.slice A1 a0.length c2,VI a1,.slice A5 a2.length c6,VI a3]) rfl rfl rfl hbd11 rfl rfl (trace_Run.calls (a0:=a0) (a1:=a1) (a2:=a2) (a3:=a3) (hr3.up e235) hl4 (hr7.up e235) hl8 hy303) rfl ?_)
    rintro _ _ _ _ ⟨rfl,A304,c305,rfl,rfl⟩
    refine TV rfl rfl rfl (Val.move rfl) ?_
    refine TV rfl rfl rfl (Val.extract rfl rfl) ?_
    refine TV rfl rfl rfl (Val.extract rfl rfl) ?_
    refine TL.cons (TL.alloc (cs:=[.slice none 0 0,VI 0,VI 0,VI 0,VI 0]) rfl rfl zr28 rfl (fun b307=>?_))
    refine TL.cons (TL.store 0 (ds:=[.slice A304 y302.1.f0.length c305,VI y302.1.f1,VI y302.1.f2,VI y302.1.f3,VI y302.1.f4]) (cs':=[.slice A304 y302.1.f0.length c305,VI y302.1.f1,VI y302.1.f2,VI y302.1.f3,VI y302.1.f4]) (L':=(Blk b307 [.slice A304 y302.1.f0.length c305,VI y302.1.f1,VI y302.1.f2,VI y302.1.f3,VI y302.1.f4] 28::Row kI 3 (.slice A304 y302.1.f0.length c305) y302.1.f0::Row (Sh G234 k45) 45 (.slice A237 l236.length c238) l236::L)) rfl fsz28 rfl rfl rfl rfl rfl (Nat.le_of_ble_eq_true rfl) rfl rfl ?_)
    refine TV rfl rfl rfl (Val.assign rfl) ?_
    refine TL.nil ?_
    refine TQ.then_ ?_
    refine TC.seq ?_
    refine TC.region ?_
    refine TV rfl rfl rfl (Val.move rfl) ?_
    refine TV rfl rfl rfl (Val.move rfl) ?_
    refine TV rfl rfl rfl (Val.move rfl) ?_
    refine TV rfl rfl rfl (Val.move rfl) ?_
    refine TK.sel (Ls:=[Row (Sh G234 k45) 45 (.slice A237 l236.length c238) l236,Blk b307 [.slice A304 y302.1.f0.length c305,VI y302.1.f1,VI y302.1.f2,VI y302.1.f3,VI y302.1.f4] 28,Row kI 3 (.slice A304 y302.1.f0.length c305) y302.1.f0]) [2,0,1] 3 rfl rfl rfl ?_
    refine TK.share (fun G308 e309 hs310 hb311=>?_)
    have rd312:Rd G308 k45 A237 l236:=Rd.unsh (Rd.row hs310) e309
    have le313:l236.length ≤ c238:=Row.le hs310
    have rd314:=Rd.row hs310
    obtain ⟨y315,hy316,h⟩:=bind_no h
    refine TL.cons (TL.callV (Lin:=[]) (args:=[.slice A237 l236.length c238,VI a1,.slice A5 a2.length c6,VI a3]) rfl rfl rfl hbd11 rfl rfl (trace_Run.calls (a0:=l236) (a1:=a1) (a2:=a2) (a3:=a3) rd312 le313 (hr7.up (Gd.le.trans e235 e309)) hl8 hy316) rfl ?_)
    rintro _ _ _ _ ⟨rfl,A317,c318,rfl,rfl⟩
    refine TV rfl rfl rfl (Val.move rfl) ?_
    refine TV rfl rfl rfl (Val.extract rfl rfl) ?_
    refine TV rfl rfl rfl (Val.extract rfl rfl) ?_
    refine TL.cons (TL.alloc (cs:=[.slice none 0 0,VI 0,VI 0,VI 0,VI 0]) rfl rfl zr28 rfl (fun b320=>?_))
    refine TL.cons (TL.store 0 (ds:=[.slice A317 y315.1.f0.length c318,VI y315.1.f1,VI y315.1.f2,VI y315.1.f3,VI y315.1.f4]) (cs':=[.slice A317 y315.1.f0.length c318,VI y315.1.f1,VI y315.1.f2,VI y315.1.f3,VI y315.1.f4]) (L':=(Blk b320 [.slice A317 y315.1.f0.length c318,VI y315.1.f1,VI y315.1.f2,VI y315.1.f3,VI y315.1.f4] 28::Row kI 3 (.slice A317 y315.1.f0.length c318) y315.1.f0::Blk b307 [.slice A304 y302.1.f0.length c305,VI y302.1.f1,VI y302.1.f2,VI y302.1.f3,VI y302.1.f4] 28::Row kI 3 (.slice A304 y302.1.f0.length c305) y302.1.f0::L)) rfl fsz28 rfl rfl rfl rfl rfl (Nat.le_of_ble_eq_true rfl) rfl rfl ?_)
    refine TV rfl rfl rfl (Val.assign rfl) ?_
    refine TL.nil ?_
    refine TQ.then_ ?_
    refine TC.seq ?_
    refine TC.seq ?_
    refine TC.region ?_
    refine TV rfl rfl rfl (Val.move rfl) ?_
    refine TV rfl rfl rfl (Val.cmp rfl rfl run_neq) ?_
    refine TL.nil ?_
    refine TQ.then_ ?_
    refine TC.back hb311 ?_
    refine TC.cond_b rfl h (fun hc322 h=>?_) (fun hc322 h=>?_)
    ·
     refine TC.seq ?_
     refine TC.region ?_
     refine TV rfl rfl rfl (Val.move rfl) ?_
     refine TV rfl rfl rfl (Val.assign rfl) ?_
     refine TL.nil ?_
     refine TQ.then_ ?_
     refine TC.ret ?_
     refine TQ.thenR ?_
     obtain rfl:=Option.some.inj h
     exact TQ.fin (.inl rfl) rfl Try.results8 (.tmp rfl .nil) rfl (FRel.mk (Ls:=[]) [] 5 e235 rfl rfl rfl ⟨rfl,rfl⟩)
    ·
     refine TC.skip ?_
     refine TQ.then_ ?_
     refine TC.seq ?_
     refine TC.region ?_
     refine TV rfl rfl rfl (Val.move rfl) ?_
     refine TV rfl rfl rfl (Val.move rfl) ?_
     refine TK.split (p:=y9=true) h (fun hg352 h=>?_) (fun hg352 h=>?_)
     ·
      have hk353:y9=true:=hg352
      refine TV (Wt.yes rfl rfl rfl hk353) rfl rfl (Val.move rfl) ?_
      refine TV (Wt.yes rfl rfl rfl hk353) rfl rfl (Val.cmp rfl rfl run_eql) ?_
      refine TV rfl rfl rfl (Val.pickY rfl hk353 rfl) ?_
      refine TV rfl rfl rfl (Val.move rfl) ?_
      refine TK.split (p:=y315.2=0) h (fun hg354 h=>?_) (fun hg354 h=>?_)
      ·
       have hk355:decide (y315.2=0)=true:=decide_eq_true hg354
       refine TV (Wt.yes rfl rfl rfl hk355) rfl rfl (Val.loadsB 3 (cs:=[.slice A304 y302.1.f0.length c305,VI y302.1.f1,VI y302.1.f2,VI y302.1.f3,VI y302.1.f4]) agg28 fsz28 rfl rfl rfl rfl) ?_
       refine TV (Wt.yes rfl rfl rfl hk355) rfl rfl (Val.loadsB 1 (cs:=[.slice A317 y315.1.f0.length c318,VI y315.1.f1,VI y315.1.f2,VI y315.1.f3,VI y315.1.f4]) agg28 fsz28 rfl rfl rfl rfl) ?_
       refine TK.sel (Ls:=[Row kI 3 (.slice A304 y302.1.f0.length c305) y302.1.f0,Row (Sh G234 k45) 45 (.slice A237 l236.length c238) l236,Blk b320 [.slice A317 y315.1.f0.length c318,VI y315.1.f1,VI y315.1.f2,VI y315.1.f3,VI y315.1.f4] 28,Row kI 3 (.slice A317 y315.1.f0.length c318) y315.1.f0,Blk b307 [.slice A304 y302.1.f0.length c305,VI y302.1.f1,VI y302.1.f2,VI y302.1.f3,VI y302.1.f4] 28]) [4,0,1,2,3] 5 rfl rfl rfl ?_
       refine TK.share (fun G356 e357 hs358 hb359=>?_)
       have rd360:Rd G356 kI A304 y302.1.f0:=Rd.row hs358
       have le361:y302.1.f0.length ≤ c305:=Row.le hs358
       refine TK.sel (Ls:=[Row kI 3 (.slice A317 y315.1.f0.length c318) y315.1.f0,Row (Sh G234 k45) 45 (.slice A237 l236.length c238) l236,Blk b320 [.slice A317 y315.1.f0.length c318,VI y315.1.f1,VI y315.1.f2,VI y315.1.f3,VI y315.1.f4] 28,Blk b307 [.slice A304 y302.1.f0.length c305,VI y302.1.f1,VI y302.1.f2,VI y302.1.f3,VI y302.1.f4] 28]) [2,0,1,3] 4 rfl rfl rfl ?_
       refine TK.share (fun G362 e363 hs364 hb365=>?_)
       have rd366:Rd G362 kI A317 y315.1.f0:=Rd.row hs364
       have le367:y315.1.f0.length ≤ c318:=Row.le hs364
       obtain ⟨y368,hy369,h⟩:=bind_no h
       refine TL.cons (TL.callV (Lin:=[]) (args:=[.agg #[.slice A304 y302.1.f0.length c305,VI y302.1.f1,VI y302.1.f2,VI y302.1.f3,VI y302.1.f4],.agg #[.slice A317 y315.1.f0.length c318,VI y315.1.f1,VI y315.1.f2,VI y315.1.f3,VI y315.1.f4]]) (Wt.yes rfl rfl rfl hk355) rfl rfl hbd17 rfl rfl (trace_Same.calls (a0:=y302.1) (a1:=y315.1) (rd360.up e363) le361 rd366 le367 hy369) rfl ?_)
       rintro _ _ _ _ ⟨rfl,rfl,rfl⟩
       refine TV rfl rfl rfl (Val.pickY rfl hk355 rfl) ?_
       refine TV rfl rfl rfl (Val.move rfl) ?_
       refine TK.split (p:=y368=true) h (fun hg370 h=>?_) (fun hg370 h=>?_)
       ·
        have hk371:y368=true:=hg370
        refine TV (Wt.yes rfl rfl rfl hk371) rfl rfl (Val.fieldAddrB Try.underlying28 rfl fsz3 rfl rfl rfl) ?_
        refine TV (Wt.yes rfl rfl rfl hk371) rfl rfl (Val.loadB 2 agg3 rfl rfl rfl) ?_
        refine TV (Wt.yes rfl rfl rfl hk371) rfl rfl (Val.fieldAddrB Try.underlying28 rfl fsz3 rfl rfl rfl) ?_
        refine TV (Wt.yes rfl rfl rfl hk371) rfl rfl (Val.loadB 1 agg3 rfl rfl rfl) ?_
        refine TV (Wt.yes rfl rfl rfl hk371) rfl rfl (Val.cmp rfl rfl run_eql) ?_
        refine TV rfl rfl rfl (Val.pickY rfl hk371 rfl) ?_
        refine TV rfl rfl rfl (Val.move rfl) ?_
        refine TK.split (p:=y302.1.f2=y315.1.f2) h (fun hg372 h=>?_) (fun hg372 h=>?_)
        ·
         have hk373:decide (y302.1.f2=y315.1.f2)=true:=decide_eq_true hg372
         refine TV (Wt.yes rfl rfl rfl hk373) rfl rfl (Val.fieldAddrB Try.underlying28 rfl fsz3 rfl rfl rfl) ?_
         refine TV (Wt.yes rfl rfl rfl hk373) rfl rfl (Val.loadB 2 agg3 rfl rfl rfl) ?_
         refine TV (Wt.yes rfl rfl rfl hk373) rfl rfl (Val.fieldAddrB Try.underlying28 rfl fsz3 rfl rfl rfl) ?_
         refine TV (Wt.yes rfl rfl rfl hk373) rfl rfl (Val.loadB 1 agg3 rfl rfl rfl) ?_
         refine TV (Wt.yes rfl rfl rfl hk373) rfl rfl (Val.cmp rfl rfl run_eql) ?_
         refine TV rfl rfl rfl (Val.pickY rfl hk373 rfl) ?_
         refine TV rfl rfl rfl (Val.move rfl) ?_
         refine TK.split (p:=y302.1.f3=y315.1.f3) h (fun hg374 h=>?_) (fun hg374 h=>?_)
         ·
          have hk375:decide (y302.1.f3=y315.1.f3)=true:=decide_eq_true hg374
          refine TV (Wt.yes rfl rfl rfl hk375) rfl rfl (Val.fieldAddrB Try.underlying28 rfl fsz3 rfl rfl rfl) ?_
          refine TV (Wt.yes rfl rfl rfl hk375) rfl rfl (Val.loadB 2 agg3 rfl rfl rfl) ?_
          refine TV (Wt.yes rfl rfl rfl hk375) rfl rfl (Val.fieldAddrB Try.underlying28 rfl fsz3 rfl rfl rfl) ?_
          refine TV (Wt.yes rfl rfl rfl hk375) rfl rfl (Val.loadB 1 agg3 rfl rfl rfl) ?_
          refine TV (Wt.yes rfl rfl rfl hk375) rfl rfl (Val.cmp rfl rfl run_eql) ?_
          refine TV rfl rfl rfl (Val.pickY rfl hk375 rfl) ?_
          refine TV rfl rfl rfl (Val.assign rfl) ?_
          refine TL.nil ?_
          refine TQ.then_ ?_
          refine TC.ret ?_
          refine TQ.back hb365 ?_
          refine TQ.back hb359 ?_
          obtain rfl:=Option.some.inj h
          exact TQ.fin (.inl rfl) rfl Try.results8 (.tmp rfl .nil) rfl (FRel.mk (Ls:=[]) [] 5 e235 rfl rfl rfl ⟨rfl,rfl⟩)
         ·
          have hk376:decide (y302.1.f3=y315.1.f3)=false:=decide_eq_false hg374
          refine TL.cons (TL.not (Wt.no rfl rfl rfl hk376) rfl ?_)
          refine TL.cons (TL.not (Wt.no rfl rfl rfl hk376) rfl ?_)
          refine TL.cons (TL.not (Wt.no rfl rfl rfl hk376) rfl ?_)
          refine TL.cons (TL.not (Wt.no rfl rfl rfl hk376) rfl ?_)
          refine TL.cons (TL.not (Wt.no rfl rfl rfl hk376) rfl ?_)
          refine TV rfl rfl rfl (Val.pickN rfl hk376 rfl) ?_
          refine TV rfl rfl rfl (Val.assign rfl) ?_
          refine TL.nil ?_
          refine TQ.then_ ?_
          refine TC.ret ?_
          refine TQ.back hb365 ?_
          refine TQ.back hb359 ?_
          obtain rfl:=Option.some.inj h
          exact TQ.fin (.inl rfl) rfl Try.results8 (.tmp rfl .nil) rfl (FRel.mk (Ls:=[]) [] 5 e235 rfl rfl rfl ⟨rfl,rfl⟩)
        ·
         have hk377:decide (y302.1.f2=y315.1.f2)=false:=decide_eq_false hg372
         refine TL.cons (TL.not (Wt.no rfl rfl rfl hk377) rfl ?_)
         refine TL.cons (TL.not (Wt.no rfl rfl rfl hk377) rfl ?_)
         refine TL.cons (TL.not (Wt.no rfl rfl rfl hk377) rfl ?_)
         refine TL.cons (TL.not (Wt.no rfl rfl rfl hk377) rfl ?_)
         refine TL.cons (TL.not (Wt.no rfl rfl rfl hk377) rfl ?_)
         refine TV rfl rfl rfl (Val.pickN rfl hk377 rfl) ?_
         refine TV rfl rfl rfl (Val.move rfl) ?_
         refine TL.cons (TL.not (Wt.no rfl rfl rfl rfl) rfl ?_)
         refine TL.cons (TL.not (Wt.no rfl rfl rfl rfl) rfl ?_)
         refine TL.cons (TL.not (Wt.no rfl rfl rfl rfl) rfl ?_)
         refine TL.cons (TL.not (Wt.no rfl rfl rfl rfl) rfl ?_)
         refine TL.cons (TL.not (Wt.no rfl rfl rfl rfl) rfl ?_)
         refine TV rfl rfl rfl (Val.pickN rfl rfl rfl) ?_
         refine TV rfl rfl rfl (Val.assign rfl) ?_
         refine TL.nil ?_
         refine TQ.then_ ?_
         refine TC.ret ?_
         refine TQ.back hb365 ?_
         refine TQ.back hb359 ?_
         obtain rfl:=Option.some.inj h
         exact TQ.fin (.inl rfl) rfl Try.results8 (.tmp rfl .nil) rfl (FRel.mk (Ls:=[]) [] 5 e235 rfl rfl rfl ⟨rfl,rfl⟩)
       ·
        have hk378:y368=false:=(by simpa using hg370)
        refine TL.cons (TL.not (Wt.no rfl rfl rfl hk378) rfl ?_)
        refine TL.cons (TL.not (Wt.no rfl rfl rfl hk378) rfl ?_)
        refine TL.cons (TL.not (Wt.no rfl rfl rfl hk378) rfl ?_)
        refine TL.cons (TL.not (Wt.no rfl rfl rfl hk378) rfl ?_)
        refine TL.cons (TL.not (Wt.no rfl rfl rfl hk378) rfl ?_)
        refine TV rfl rfl rfl (Val.pickN rfl hk378 rfl) ?_
        refine TV rfl rfl rfl (Val.move rfl) ?_
        refine TL.cons (TL.not (Wt.no rfl rfl rfl rfl) rfl ?_)
        refine TL.cons (TL.not (Wt.no rfl rfl rfl rfl) rfl ?_)
        refine TL.cons (TL.not (Wt.no rfl rfl rfl rfl) rfl ?_)
        refine TL.cons (TL.not (Wt.no rfl rfl rfl rfl) rfl ?_)
        refine TL.cons (TL.not (Wt.no rfl rfl rfl rfl) rfl ?_)
        refine TV rfl rfl rfl (Val.pickN rfl rfl rfl) ?_
        refine TV rfl rfl rfl (Val.move rfl) ?_
        refine TL.cons (TL.not (Wt.no rfl rfl rfl rfl) rfl ?_)
        refine TL.cons (TL.not (Wt.no rfl rfl rfl rfl) rfl ?_)
        refine TL.cons (TL.not (Wt.no rfl rfl rfl rfl) rfl ?_)
        refine TL.cons (TL.not (Wt.no rfl rfl rfl rfl) rfl ?_)
        refine TL.cons (TL.not (Wt.no rfl rfl rfl rfl) rfl ?_)
        refine TV rfl rfl rfl (Val.pickN rfl rfl rfl) ?_
        refine TV rfl rfl rfl (Val.assign rfl) ?_
        refine TL.nil ?_
        refine TQ.then_ ?_
        refine TC.ret ?_
        refine TQ.back hb365 ?_
        refine TQ.back hb359 ?_
        obtain rfl:=Option.some.inj h
        exact TQ.fin (.inl rfl) rfl Try.results8 (.tmp rfl .nil) rfl (FRel.mk (Ls:=[]) [] 5 e235 rfl rfl rfl ⟨rfl,rfl⟩)
      ·
       have hk379:decide (y315.2=0)=false:=decide_eq_false hg354
       refine TL.cons (TL.not (Wt.no rfl rfl rfl hk379) rfl ?_)
       refine TL.cons (TL.not (Wt.no rfl rfl rfl hk379) rfl ?_)
       refine TL.cons (TL.not (Wt.no rfl rfl rfl hk379) rfl ?_)
       refine TV rfl rfl rfl (Val.pickN rfl hk379 rfl) ?_
       refine TV rfl rfl rfl (Val.move rfl) ?_
       refine TL.cons (TL.not (Wt.no rfl rfl rfl rfl) rfl ?_)
       refine TL.cons (TL.not (Wt.no rfl rfl rfl rfl) rfl ?_)
       refine TL.cons (TL.not (Wt.no rfl rfl rfl rfl) rfl ?_)
       refine TL.cons (TL.not (Wt.no rfl rfl rfl rfl) rfl ?_)
       refine TL.cons (TL.not (Wt.no rfl rfl rfl rfl) rfl ?_)
       refine TV rfl rfl rfl (Val.pickN rfl rfl rfl) ?_
       refine TV rfl rfl rfl (Val.move rfl) ?_
       refine TL.cons (TL.not (Wt.no rfl rfl rfl rfl) rfl ?_)
       refine TL.cons (TL.not (Wt.no rfl rfl rfl rfl) rfl ?_)
       refine TL.cons (TL.not (Wt.no rfl rfl rfl rfl) rfl ?_)
       refine TL.cons (TL.not (Wt.no rfl rfl rfl rfl) rfl ?_)
       refine TL.cons (TL.not (Wt.no rfl rfl rfl rfl) rfl ?_)
       refine TV rfl rfl rfl (Val.pickN rfl rfl rfl) ?_
       refine TV rfl rfl rfl (Val.move rfl) ?_
       refine TL.cons (TL.not (Wt.no rfl rfl rfl rfl) rfl ?_)
       refine TL.cons (TL.not (Wt.no rfl rfl rfl rfl) rfl ?_)
       refine TL.cons (TL.not (Wt.no rfl rfl rfl rfl) rfl ?_)
       refine TL.cons (TL.not (Wt.no rfl rfl rfl rfl) rfl ?_)
       refine TL.cons (TL.not (Wt.no rfl rfl rfl rfl) rfl ?_)
       refine TV rfl rfl rfl (Val.pickN rfl rfl rfl) ?_
       refine TV rfl rfl rfl (Val.assign rfl) ?_
       refine TL.nil ?_
       refine TQ.then_ ?_
       refine TC.ret ?_
       obtain rfl:=Option.some.inj h
       exact TQ.fin (.inl rfl) rfl Try.results8 (.tmp rfl .nil) rfl (FRel.mk (Ls:=[]) [] 5 e235 rfl rfl rfl ⟨rfl,rfl⟩)
     ·
      have hk380:y9=false:=(by simpa using hg352)
      refine TL.cons (TL.not (Wt.no rfl rfl rfl hk380) rfl ?_)
      refine TL.cons (TL.not (Wt.no rfl rfl rfl hk380) rfl ?_)
      refine TV rfl rfl rfl (Val.pickN rfl hk380 rfl) ?_
      refine TV rfl rfl rfl (Val.move rfl) ?_
      refine TL.cons (TL.not (Wt.no rfl rfl rfl rfl) rfl ?_)
      refine TL.cons (TL.not (Wt.no rfl rfl rfl rfl) rfl ?_)
      refine TL.cons (TL.not (Wt.no rfl rfl rfl rfl) rfl ?_)
      refine TV rfl rfl rfl (Val.pickN rfl rfl rfl) ?_
      refine TV rfl rfl rfl (Val.move rfl) ?_
      refine TL.cons (TL.not (Wt.no rfl rfl rfl rfl) rfl ?_)
      refine TL.cons (TL.not (Wt.no rfl rfl rfl rfl) rfl ?_)
      refine TL.cons (TL.not (Wt.no rfl rfl rfl rfl) rfl ?_)
      refine TL.cons (TL.not (Wt.no rfl rfl rfl rfl) rfl ?_)
      refine TL.cons (TL.not (Wt.no rfl rfl rfl rfl) rfl ?_)
      refine TV rfl rfl rfl (Val.pickN rfl rfl rfl) ?_
      refine TV rfl rfl rfl (Val.move rfl) ?_
      refine TL.cons (TL.not (Wt.no rfl rfl rfl rfl) rfl ?_)
      refine TL.cons (TL.not (Wt.no rfl rfl rfl rfl) rfl ?_)
      refine TL.cons (TL.not (Wt.no rfl rfl rfl rfl) rfl ?_)
      refine TL.cons (TL.not (Wt.no rfl rfl rfl rfl) rfl ?_)
      refine TL.cons (TL.not (Wt.no rfl rfl rfl rfl) rfl ?_)
      refine TV rfl rfl rfl (Val.pickN rfl rfl rfl) ?_
      refine TV rfl rfl rfl (Val.move rfl) ?_
      refine TL.cons (TL.not (Wt.no rfl rfl rfl rfl) rfl ?_)
      refine TL.cons (TL.not (Wt.no rfl rfl rfl rfl) rfl ?_)
      refine TL.cons (TL.not (Wt.no rfl rfl rfl rfl) rfl ?_)
      refine TL.cons (TL.not (Wt.no rfl rfl rfl rfl) rfl ?_)
      refine TL.cons (TL.not (Wt.no rfl rfl rfl rfl) rfl ?_)
      refine TV rfl rfl rfl (Val.pickN rfl rfl rfl) ?_
      refine TV rfl rfl rfl (Val.assign rfl) ?_
      refine TL.nil ?_
      refine TQ.then_ ?_
      refine TC.ret ?_
      obtain rfl:=Option.some.inj h
      exact TQ.fin (.inl rfl) rfl Try.results8 (.tmp rfl .nil) rfl (FRel.mk (Ls:=[]) [] 5 e235 rfl rfl rfl ⟨rfl,rfl⟩)
   ·
    refine TC.block ?_
    intro a W hF hO
    have hS:∃ (l169:(List S45)) (x173:Int) (G167:Gd) (A170:Option Addr) (c171:Nat),swagelaw24_FoldRuns.l0 a0 (a0.length + 1) l169 x173=some o240∧G.le G167∧Fr 108 a [(0,.slice A1 a0.length c2),(1,VI a1),(2,.slice A5 a2.length c6),(3,VI a3),(9,.bool y9),(11,.slice A170 l169.length c171),(12,VI x173)]∧Own G167 (Row (Sh G167 k45) 45 (.slice A170 l169.length c171) l169::L) W:=by
     exact ⟨[],0,G30,none,0,ho240,e31,hF.sub ⟨rfl,rfl,rfl,rfl,rfl,rfl,rfl,trivial⟩,(Own.nilRow (Sh G30 k45) 45 hO).selT (Ls:=[Row (Sh G30 k45) 45 (.slice none ([]:List S45).length 0) ([]:List S45)]) [0] 1 rfl rfl rfl⟩
    clear hF hO ho240 ko240
    refine TC.loop (fun n241 a W=>∃ (l169:(List S45)) (x173:Int) (G167:Gd) (A170:Option Addr) (c171:Nat),swagelaw24_FoldRuns.l0 a0 n241 l169 x173=some o240∧G.le G167∧Fr 108 a [(0,.slice A1 a0.length c2),(1,VI a1),(2,.slice A5 a2.length c6),(3,VI a3),(9,.bool y9),(11,.slice A170 l169.length c171),(12,VI x173)]∧Own G167 (Row (Sh G167 k45) 45 (.slice A170 l169.length c171) l169::L) W) ?_ ?_ hS
    ·
     rintro a W ⟨l169,x173,G167,A170,c171,h,e168,hF,hO⟩
     exact none_no h
    ·
     clear hS
     rintro n241 a W ⟨l169,x173,G167,A170,c171,h,e168,hF,hO⟩
     rw [swagelaw24_FoldRuns.l0] at h
     refine TC.use ?_ hF hO
     clear hF hO
     refine TC.seq ?_
     refine TC.seq ?_
     refine TC.region ?_
     refine TV rfl rfl rfl (Val.move rfl) ?_
     refine TV rfl rfl rfl (Val.move rfl) ?_
     refine TV rfl rfl rfl (Val.len Try.underlying22 rfl) ?_
     refine TV rfl rfl rfl (Val.cmp rfl rfl run_lss) ?_
     refine TL.nil ?_
     refine TQ.then_ ?_
     refine TC.cond_p rfl h (fun hc382 h=>?_) (fun hc382 h=>?_)
     ·
      refine TC.skip ?_
      refine TQ.then_ ?_
      refine TC.seq ?_
      refine TC.block ?_
      refine TC.region ?_
      refine TV rfl rfl rfl (Val.move rfl) ?_
      refine TV rfl rfl rfl (Val.move rfl) ?_
      refine TV rfl rfl rfl (Val.move rfl) ?_
      obtain ⟨y412,hx413,h⟩:=bind_no h
      obtain ⟨ad414,cs420,hA415,hi416,hj417,hcl418,hK419⟩:=Rd.at (hr3.up e168) hx413
      obtain ⟨A421,c422,rfl,hr423,hl424⟩:=k45_openR hK419
      refine TV rfl rfl rfl (Val.indexAddr Try.underlying22 fsz45 rfl hA415 rfl hi416 hj417) ?_
      refine TV rfl rfl rfl (Val.loadsS (cs:=[VI y412.f0,.slice A421 y412.f1.length c422]) agg45 fsz45 rfl rfl (Cl.sub (off:=0) (n:=2) hcl418 rfl)) ?_
      obtain ⟨y425,hy426,h⟩:=bind_no h
      refine TL.cons (TL.callV (Lin:=[]) (args:=[.agg #[VI y412.f0,.slice A421 y412.f1.length c422]]) rfl rfl rfl hbd23 rfl rfl (fold_Func.calls (a0:=y412) hr423 hl424 hy426) rfl ?_)
      rintro _ G427 _ e428 ⟨A429,c430,rfl,rfl⟩
      refine TL.cons (TL.buildSlice (xs:=[.tmp 55]) (vs:=[.agg #[VI y425.f0,.slice A429 y425.f1.length c430]]) (cs:=[VI y425.f0,.slice A429 y425.f1.length c430]) rfl rfl Try.underlying22 zs45 rfl rfl rfl rfl rfl rfl rfl rfl (fun b432=>?_))
      refine TK.sel (Ls:=[Row (Sh G427 k42) 42 (.slice A429 y425.f1.length c430) y425.f1,Blk b432 [VI y425.f0,.slice A429 y425.f1.length c430] 45,Row (Sh G167 k45) 45 (.slice A170 l169.length c171) l169]) [1,0,2] 3 rfl rfl rfl ?_
      refine TK.share (fun G433 e434 hs435 _=>?_)
      have rd436:Rd G433 k42 A429 y425.f1:=Rd.unsh (Rd.row hs435) e434
      have le437:y425.f1.length ≤ c430:=Row.le hs435
      refine TK.new (El.of (k:=(Sh G433 k45)) (xv:=y425) (cs:=[VI y425.f0,.slice A429 y425.f1.length c430]) (fun W B=>Sh.mk (fun W hW=>k45_mk W y425 le437 (rd436 W hW)) W B _)) ?_
      refine TK.sel (Ls:=[Row (Sh G167 k45) 45 (.slice A170 l169.length c171) l169,El (Sh G433 k45) y425 [VI y425.f0,.slice A429 y425.f1.length c430],Blk b432 [VI y425.f0,.slice A429 y425.f1.length c430] 45]) [2,0,1] 3 rfl rfl rfl ?_
      refine TK.conv (ch':=Row (Sh G433 k45) 45 (.slice A170 l169.length c171) l169) (fun B W F hh=>Row.sh (Gd.le.trans e428 e434) B W F hh) ?_
      refine TK.sel (Ls:=[El (Sh G433 k45) y425 [VI y425.f0,.slice A429 y425.f1.length c430],Row (Sh G433 k45) 45 (.slice A170 l169.length c171) l169,Blk b432 [VI y425.f0,.slice A429 y425.f1.length c430] 45]) [1,0,2] 3 rfl rfl rfl ?_
      refine TK.sel (Ls:=[Row (Sh G433 k45) 45 (.slice A170 l169.length c171) l169,El (Sh G433 k45) y425 [VI y425.f0,.slice A429 y425.f1.length c430],Blk b432 [VI y425.f0,.slice A429 y425.f1.length c430] 45]) [1,0,2] 3 rfl rfl rfl ?_
      obtain ⟨ha438,h⟩:=ite_no h
      refine TL.cons (TL.append (xs:=l169) (Sh G433 k45) rfl rfl Try.underlying22 inf45 rfl (Nat.le_of_ble_eq_true rfl) (Nat.le_of_ble_eq_true rfl) rfl rfl (by omega) (fun A439 c440=>?_))
      refine TV rfl rfl rfl (Val.assign rfl) ?_
      refine TL.nil ?_
      refine TQ.inB ?_
      refine TQ.then_ ?_
      refine TC.region ?_
      refine TV rfl rfl rfl (Val.move rfl) ?_
      refine TV rfl rfl rfl (Val.cmp rfl rfl run_add) ?_
      refine TV rfl rfl rfl (Val.assign rfl) ?_
      refine TL.nil ?_
      exact fun a W hF hO=>⟨(l169 ++ [y425]),IntKind.i64.wrap (x173 + 1),G433,A439,c440,h,(Gd.le.trans (Gd.le.trans e168 e428) e434),hF.sub ⟨rfl,rfl,rfl,rfl,rfl,rfl,rfl,trivial⟩,hO.selT (Ls:=[Row (Sh G433 k45) 45 (.slice A439 (l169 ++ [y425]).length c440) (l169 ++ [y425])]) [0] 1 rfl rfl rfl⟩
     ·
      refine TC.exit ?_
      refine TQ.thenX ?_
      refine TQ.thenX ?_
      refine TQ.inBX ?_
      exact fun a W hF hO=>⟨l169,G167,A170,c171,Option.some.inj h,e168,hF.sub ⟨rfl,rfl,rfl,rfl,rfl,rfl,trivial⟩,hO.selT (Ls:=[Row (Sh G167 k45) 45 (.slice A170 l169.length c171) l169]) [0] 1 rfl rfl rfl⟩
 ·
  refine TC.region ?_
  refine TV rfl rfl rfl (Val.move rfl) ?_
  refine TV rfl rfl rfl (Val.not_ rfl) ?_
  refine TV rfl rfl rfl (Val.move rfl) ?_
  refine TK.split (p:=(!y13)=true) h (fun hg441 h=>?_) (fun hg441 h=>?_)
  ·
   have hk442:(!y13)=true:=hg441
   refine TL.cons (TL.not (Wt.no rfl rfl rfl hk442) rfl ?_)
   refine TL.cons (TL.not (Wt.no rfl rfl rfl hk442) rfl ?_)
   refine TV rfl rfl rfl (Val.pickY rfl hk442 rfl) ?_
   refine TV rfl rfl rfl (Val.move rfl) ?_
   refine TL.cons (TL.not (Wt.no rfl rfl rfl rfl) rfl ?_)
   refine TL.cons (TL.not (Wt.no rfl rfl rfl rfl) rfl ?_)
   refine TV rfl rfl rfl (Val.pickY rfl rfl rfl) ?_
   refine TV rfl rfl rfl (Val.move rfl) ?_
   refine TL.cons (TL.not (Wt.no rfl rfl rfl rfl) rfl ?_)
   refine TL.cons (TL.not (Wt.no rfl rfl rfl rfl) rfl ?_)
   refine TL.cons (TL.not (Wt.no rfl rfl rfl rfl) rfl ?_)
   refine TV rfl rfl rfl (Val.pickY rfl rfl rfl) ?_
   refine TV rfl rfl rfl (Val.move rfl) ?_
   refine TL.cons (TL.not (Wt.no rfl rfl rfl rfl) rfl ?_)
   refine TL.cons (TL.not (Wt.no rfl rfl rfl rfl) rfl ?_)
   refine TV rfl rfl rfl (Val.pickY rfl rfl rfl) ?_
   refine TV rfl rfl rfl (Val.move rfl) ?_
   refine TL.cons (TL.not (Wt.no rfl rfl rfl rfl) rfl ?_)
   refine TL.cons (TL.not (Wt.no rfl rfl rfl rfl) rfl ?_)
   refine TV rfl rfl rfl (Val.pickY rfl rfl rfl) ?_
   refine TL.nil ?_
   exact fun a W hF hO=>⟨true,G11,h,e12,hF.sub ⟨rfl,rfl,rfl,rfl,rfl,rfl,trivial⟩,hO.selT (Ls:=[]) [] 0 rfl rfl rfl⟩
  ·
   have hk443:(!y13)=false:=(by simpa using hg441)
   refine TV (Wt.yes rfl rfl rfl hk443) rfl rfl (Val.move rfl) ?_
   refine TV (Wt.yes rfl rfl rfl hk443) rfl rfl (Val.cmp rfl rfl run_lss) ?_
   refine TV rfl rfl rfl (Val.pickN rfl hk443 rfl) ?_
   refine TV rfl rfl rfl (Val.move rfl) ?_
   refine TK.split (p:=a1 < 1) h (fun hg444 h=>?_) (fun hg444 h=>?_)
   ·
    have hk445:decide (a1 < 1)=true:=decide_eq_true hg444
    refine TL.cons (TL.not (Wt.no rfl rfl rfl hk445) rfl ?_)
    refine TL.cons (TL.not (Wt.no rfl rfl rfl hk445) rfl ?_)
    refine TV rfl rfl rfl (Val.pickY rfl hk445 rfl) ?_
    refine TV rfl rfl rfl (Val.move rfl) ?_
    refine TL.cons (TL.not (Wt.no rfl rfl rfl rfl) rfl ?_)
    refine TL.cons (TL.not (Wt.no rfl rfl rfl rfl) rfl ?_)
    refine TL.cons (TL.not (Wt.no rfl rfl rfl rfl) rfl ?_)
    refine TV rfl rfl rfl (Val.pickY rfl rfl rfl) ?_
    refine TV rfl rfl rfl (Val.move rfl) ?_
    refine TL.cons (TL.not (Wt.no rfl rfl rfl rfl) rfl ?_)
    refine TL.cons (TL.not (Wt.no rfl rfl rfl rfl) rfl ?_)
    refine TV rfl rfl rfl (Val.pickY rfl rfl rfl) ?_
    refine TV rfl rfl rfl (Val.move rfl) ?_
    refine TL.cons (TL.not (Wt.no rfl rfl rfl rfl) rfl ?_)
    refine TL.cons (TL.not (Wt.no rfl rfl rfl rfl) rfl ?_)
    refine TV rfl rfl rfl (Val.pickY rfl rfl rfl) ?_
    refine TL.nil ?_
    exact fun a W hF hO=>⟨true,G11,h,e12,hF.sub ⟨rfl,rfl,rfl,rfl,rfl,rfl,trivial⟩,hO.selT (Ls:=[]) [] 0 rfl rfl rfl⟩
   ·
    have hk446:decide (a1 < 1)=false:=decide_eq_false hg444
    refine TV (Wt.yes rfl rfl rfl hk446) rfl rfl (Val.move rfl) ?_
    refine TV (Wt.yes rfl rfl rfl hk446) rfl rfl (Val.cmp rfl rfl run_gtr) ?_
    refine TV rfl rfl rfl (Val.pickN rfl hk446 rfl) ?_
    refine TV rfl rfl rfl (Val.move rfl) ?_
    refine TK.split (p:=4096 < a1) h (fun hg447 h=>?_) (fun hg447 h=>?_)
    ·
     have hk448:decide (4096 < a1)=true:=decide_eq_true hg447
     refine TL.cons (TL.not (Wt.no rfl rfl rfl hk448) rfl ?_)
     refine TL.cons (TL.not (Wt.no rfl rfl rfl hk448) rfl ?_)
     refine TL.cons (TL.not (Wt.no rfl rfl rfl hk448) rfl ?_)
     refine TV rfl rfl rfl (Val.pickY rfl hk448 rfl) ?_
     refine TV rfl rfl rfl (Val.move rfl) ?_
     refine TL.cons (TL.not (Wt.no rfl rfl rfl rfl) rfl ?_)
     refine TL.cons (TL.not (Wt.no rfl rfl rfl rfl) rfl ?_)
     refine TV rfl rfl rfl (Val.pickY rfl rfl rfl) ?_
     refine TV rfl rfl rfl (Val.move rfl) ?_
     refine TL.cons (TL.not (Wt.no rfl rfl rfl rfl) rfl ?_)
     refine TL.cons (TL.not (Wt.no rfl rfl rfl rfl) rfl ?_)
     refine TV rfl rfl rfl (Val.pickY rfl rfl rfl) ?_
     refine TL.nil ?_
     exact fun a W hF hO=>⟨true,G11,h,e12,hF.sub ⟨rfl,rfl,rfl,rfl,rfl,rfl,trivial⟩,hO.selT (Ls:=[]) [] 0 rfl rfl rfl⟩
    ·
     have hk449:decide (4096 < a1)=false:=decide_eq_false hg447
     refine TV (Wt.yes rfl rfl rfl hk449) rfl rfl (Val.move rfl) ?_
     refine TV (Wt.yes rfl rfl rfl hk449) rfl rfl (Val.len Try.underlying23 rfl) ?_
     refine TV (Wt.yes rfl rfl rfl hk449) rfl rfl (Val.cmp rfl rfl run_gtr) ?_
     refine TV rfl rfl rfl (Val.pickN rfl hk449 rfl) ?_
     refine TV rfl rfl rfl (Val.move rfl) ?_
     refine TK.split (p:=60 < (a2.length:Int)) h (fun hg450 h=>?_) (fun hg450 h=>?_)
     ·
      have hk451:decide (60 < (a2.length:Int))=true:=decide_eq_true hg450
      refine TL.cons (TL.not (Wt.no rfl rfl rfl hk451) rfl ?_)
      refine TL.cons (TL.not (Wt.no rfl rfl rfl hk451) rfl ?_)
      refine TV rfl rfl rfl (Val.pickY rfl hk451 rfl) ?_
      refine TV rfl rfl rfl (Val.move rfl) ?_
      refine TL.cons (TL.not (Wt.no rfl rfl rfl rfl) rfl ?_)
      refine TL.cons (TL.not (Wt.no rfl rfl rfl rfl) rfl ?_)
      refine TV rfl rfl rfl (Val.pickY rfl rfl rfl) ?_
      refine TL.nil ?_
      exact fun a W hF hO=>⟨true,G11,h,e12,hF.sub ⟨rfl,rfl,rfl,rfl,rfl,rfl,trivial⟩,hO.selT (Ls:=[]) [] 0 rfl rfl rfl⟩
     ·
      have hk452:decide (60 < (a2.length:Int))=false:=decide_eq_false hg450
      refine TV (Wt.yes rfl rfl rfl hk452) rfl rfl (Val.move rfl) ?_
      refine TV (Wt.yes rfl rfl rfl hk452) rfl rfl (Val.cmp rfl rfl run_lss) ?_
      refine TV rfl rfl rfl (Val.pickN rfl hk452 rfl) ?_
      refine TV rfl rfl rfl (Val.move rfl) ?_
      refine TK.split (p:=a3 < 0) h (fun hg453 h=>?_) (fun hg453 h=>?_)
      ·
       have hk454:decide (a3 < 0)=true:=decide_eq_true hg453
       refine TL.cons (TL.not (Wt.no rfl rfl rfl hk454) rfl ?_)
       refine TL.cons (TL.not (Wt.no rfl rfl rfl hk454) rfl ?_)
       refine TV rfl rfl rfl (Val.pickY rfl hk454 rfl) ?_
       refine TL.nil ?_
       exact fun a W hF hO=>⟨true,G11,h,e12,hF.sub ⟨rfl,rfl,rfl,rfl,rfl,rfl,trivial⟩,hO.selT (Ls:=[]) [] 0 rfl rfl rfl⟩
      ·
       have hk455:decide (a3 < 0)=false:=decide_eq_false hg453
       refine TV (Wt.yes rfl rfl rfl hk455) rfl rfl (Val.move rfl) ?_
       refine TV (Wt.yes rfl rfl rfl hk455) rfl rfl (Val.cmp rfl rfl run_gtr) ?_
       refine TV rfl rfl rfl (Val.pickN rfl hk455 rfl) ?_
       refine TL.nil ?_
       exact fun a W hF hO=>⟨decide (2000 < a3),G11,h,e12,hF.sub ⟨rfl,rfl,rfl,rfl,rfl,rfl,trivial⟩,hO.selT (Ls:=[]) [] 0 rfl rfl rfl⟩
end Go.Proofs.Ytfmocegnpmomnaa.Sy
set_option linter.unusedVariables false
set_option linter.unusedSimpArgs false
namespace Go.Proofs.Ytfmocegnpmomnaa.Sy
open Go Go.RowKit Go.Proofs.YtfmocegnpmomnaaW.PrintWords Go.Proofs.Ytfmocegnpmomnaa.SyO
theorem wfi_iff {n : Int} : wfi n ↔ -9223372036854775808 ≤ n ∧ n ≤ 9223372036854775807 := by
  unfold wfi
  simp [Lit.wf, IntKind.min, IntKind.max, IntKind.bits, IntKind.signed]
theorem wrap_wf (n : Int) : wfi (IntKind.i64.wrap n) := by
  rw [wfi_iff]
  simp only [IntKind.wrap, IntKind.bits, IntKind.signed]
  simp
  split <;> omega
theorem rg_wf {n : Int} (h : Rg n) : wfi n := by rw [wfi_iff]; have := h.1; have := h.2; omega
theorem flag_w (b : Bool) : ∃ n, word_flag.f b = some n ∧ wfi n := by
  unfold word_flag.f; split
  · exact ⟨_, rfl, by decide⟩
  · exact ⟨_, rfl, by decide⟩
theorem cmp_t (a b : Int) : ∃ n, cmp_Compare_int.f a b = some n := by
  unfold cmp_Compare_int.f
  simp only [cmp_isNaN_int.f, jn, Option.bind_some]
  repeat' (first | exact ⟨_, rfl⟩ | split)
theorem ordered_w (k a b : Int) : ∃ n, word_ordered_int.f k a b = some n ∧ wfi n := by
  obtain ⟨c, hc⟩ := cmp_t a b
  unfold word_ordered_int.f
  rw [hc, Option.bind_some]
  obtain ⟨n1, e1, f1⟩ := flag_w (decide (c < 0))
  obtain ⟨n2, e2, f2⟩ := flag_w (decide (c ≤ 0))
  obtain ⟨n3, e3, f3⟩ := flag_w (decide (c = 0))
  obtain ⟨n4, e4, f4⟩ := flag_w (!decide (c = 0))
  rw [e1, e2, e3, e4]
  simp only [Option.bind_some]
  repeat' (first | exact ⟨_, rfl, by assumption⟩ | split)
theorem plain_w (k a b : Int) : ∃ n, word_plain.f k a b = some n ∧ wfi n := by
  obtain ⟨c, hc, hw⟩ := ordered_w k a b
  unfold word_plain.f
  rw [hc]
  simp only [Option.bind_some]
  repeat' (first | exact ⟨_, rfl, hw⟩ | exact ⟨_, rfl, wrap_wf _⟩ | split)
theorem fdiv_w {a p : Int} (ha : wfi a) (hp : 1 ≤ p) : wfi (a.fdiv p) := by
  rw [wfi_iff] at *
  rw [Int.fdiv_eq_ediv_of_nonneg _ (by omega)]
  have h1 : a / p * p ≤ a := Int.ediv_mul_le a (by omega)
  have h2 : a < (a / p + 1) * p := Int.lt_ediv_add_one_mul_self a (by omega)
  generalize a / p = q at *
  constructor
  · rcases Int.lt_or_le q 0 with h | h
    · have h3 : (q + 1) * p ≤ (q + 1) * 1 := Int.mul_le_mul_of_nonpos_left (by omega) hp
      omega
    · omega
  · rcases Int.lt_or_le q 0 with h | h
    · omega
    · have h3 : q * 1 ≤ q * p := Int.mul_le_mul_of_nonneg_left hp h
      omega
theorem tmod_w {a b : Int} (ha : wfi a) : wfi (a.tmod b) := by
  rw [wfi_iff] at *
  have h1 : (a.tmod b).natAbs ≤ a.natAbs := by rw [Int.natAbs_tmod]; exact Nat.mod_le _ _
  rcases Int.lt_or_le a 0 with h | h
  · have h2 : 0 ≤ (-a).tmod b := Int.tmod_nonneg b (by omega)
    rw [Int.neg_tmod] at h2
    omega
  · omega
theorem moved_w (k a b : Int) (ha : wfi a) : ∃ n, word_moved.f k a b = some n ∧ wfi n := by
  have h : ¬ IntKind.u64.wrap (if 64 < b then 64 else b) < 0 := by
    have : IntKind.u64.wrap (if 64 < b then 64 else b) = (if 64 < b then 64 else b) % 18446744073709551616 := rfl
    rw [this]; omega
  unfold word_moved.f
  rw [if_pos h, if_pos h]
  split
  · exact ⟨_, rfl, wrap_wf _⟩
  · exact ⟨_, rfl, fdiv_w ha (Int.pow_pos (by omega))⟩
theorem divided_w (k a b : Int) (h : ¬ b = 0) (ha : wfi a) : ∃ n, word_divided.f k a b = some n ∧ wfi n := by
  unfold word_divided.f
  rw [if_pos h, if_pos h]
  split
  · exact ⟨_, rfl, wrap_wf _⟩
  · exact ⟨_, rfl, tmod_w ha⟩
theorem do_w (k a b : Int) (ha : wfi a) : ∃ n e, word_Do.f k a b = some (n, e) ∧ wfi n := by
  obtain ⟨c1, h1, w1⟩ := plain_w k a b
  obtain ⟨c2, h2, w2⟩ := moved_w k a b ha
  have hk : ∃ w, word_Known.f k = some w := by unfold word_Known.f; split <;> exact ⟨_, rfl⟩
  obtain ⟨w, hw⟩ := hk
  unfold word_Do.f
  simp only [jn, h1, h2, hw, Option.bind_some]
  have w0 : wfi 0 := by decide
  by_cases hb : b = 0
  · simp only [hb, if_true]; repeat' (first | exact ⟨_, _, rfl, by assumption⟩ | split)
  · obtain ⟨c3, h3, w3⟩ := divided_w k a b hb ha
    simp only [h3, Option.bind_some]
    repeat' (first | exact ⟨_, _, rfl, by assumption⟩ | split)
/-! #### What is known within a block -/
structure Kn (k : Nat) (num cop : MpS) : Prop where
  n1 : num.1 ≤ k
  c1 : cop.1 ≤ k
  nv : ∀ r v, num.2 r = some v → wfi v
  cv : ∀ r v, cop.2 r = some v → Rg v
theorem get_w {num : MpS} (h : ∀ r v, num.2 r = some v → wfi v) (r : Int) : wfi (mget num r) := by
  unfold mget
  cases hr : num.2 r with
  | none => simp; decide
  | some v => simpa using h r v hr
theorem held_f {k : Nat} {num cop : MpS} (h : Kn k num cop) {r : Int} (hr : Rg r) : ∃ q, fold_facts_held.f num cop r = some q ∧ Rg q := by
  unfold fold_facts_held.f
  rw [if_pos (rg_wf hr)]
  cases hm : cop.2 r with
  | none => exact ⟨r, by simp [mhas, hm], hr⟩
  | some v => exact ⟨v, by simp [mhas, mget, hm], h.cv r v hm⟩
theorem clone_i {l : List Int} (h : l.length ≤ 1000) : slices_Clone_int_int.f l = some l := by
  unfold slices_Clone_int_int.f; rw [if_pos (by simp; omega)]; simp
theorem args_h {k : Nat} {num cop : MpS} (h : Kn k num cop) {l : List Int} (hl : l.length ≤ 1000) (hr : ∀ a ∈ l, Rg a) : ∃ q, fold_facts_replaced.l0 num cop l (l.length + 1) l 0 = some q ∧ q.length = l.length ∧ ∀ a ∈ q, Rg a := by
  have := loopd (xs := l) (F := fun n i w => fold_facts_replaced.l0 num cop l n w i) (P := fun ys f => ∀ w : List Int, w.length = l.length → (∀ a ∈ w, Rg a) → ∃ q, f w = some q ∧ q.length = l.length ∧ ∀ a ∈ q, Rg a) (by omega) (fun n w h1 h2 => ⟨w, by simp [fold_facts_replaced.l0], h1, h2⟩) (fun n i y ys hd hlt hat hm hw ih w h1 h2 => by
    have hi : i < w.length := by omega
    have hg : at? w (i : Int) = some w[i] := by unfold at?; rw [if_pos (by omega), Int.toNat_natCast, List.getElem?_eq_getElem hi]
    obtain ⟨v, v1, v2⟩ := held_f h (h2 _ (List.getElem_mem hi))
    show ∃ q, fold_facts_replaced.l0 num cop l (n + 1) w i = some q ∧ _
    rw [fold_facts_replaced.l0, if_pos hlt, hg, Option.bind_some, v1, Option.bind_some, Option.bind_some, Int.toNat_natCast, hw]
    exact ih _ (by simpa using h1) (fun a ha => by rcases List.mem_or_eq_of_mem_set ha with h | rfl; exact h2 a h; exact v2)) (l.length + 1) (by omega)
  exact this l rfl hr
theorem eta1 {o : S37} {n : Int} (e : o.f0 = n) : (⟨n, o.f1, o.f2, o.f3, o.f4, o.f5⟩ : S37) = o := by cases o; simp only at e; subst e; rfl
theorem ra_iff {o : S37} : Ra o = true ↔ ∀ a ∈ o.f5, Rg a := by unfold Ra; simp [List.all_eq_true]
theorem repl_f {k : Nat} {num cop : MpS} (h : Kn k num cop) {o : S37} (hl : o.f5.length ≤ 20) (hok : okOp o 256 = true) : ∃ q, fold_facts_replaced.f num cop o = some q ∧ okOp q 256 = true ∧ q.f5.length = o.f5.length ∧ q.f0 = o.f0 ∧ q.f1 = o.f1 ∧ q.f4 = o.f4 ∧ (o.f0 = 1 → q = o) := by
  have hk : 1 ≤ o.f0 ∧ o.f0 ≤ 9 := by
    apply Classical.byContradiction; intro hn
    unfold okOp at hok; simp [hn] at hok
  have hok' := hok
  unfold okOp at hok'
  unfold fold_facts_replaced.f
  simp only [jn]
  rcases nine hk.1 hk.2 with e | e | e | e | e | e | e | e | e <;> simp only [e] at hok' ⊢ <;> simp at hok'
  · exact ⟨⟨1, o.f1, o.f2, o.f3, o.f4, o.f5⟩, by simp, by rw [eta1 e]; exact hok, rfl, rfl, rfl, rfl, fun _ => eta1 e⟩
  · obtain ⟨a, a1, a2⟩ := held_f h (r := o.f2) (by omega)
    obtain ⟨b, b1, b2⟩ := held_f h (r := o.f3) (by omega)
    exact ⟨⟨2, o.f1, a, b, o.f4, o.f5⟩, by simp [a1, b1], by simp [okOp, hok'.2]; omega, rfl, rfl, rfl, rfl, fun h1 => absurd h1 (by decide)⟩
  · obtain ⟨a, a1, a2⟩ := held_f h (r := o.f2) (by omega)
    exact ⟨⟨3, o.f1, a, o.f3, o.f4, o.f5⟩, by simp [a1], by simp [okOp, hok'.2]; omega, rfl, rfl, rfl, rfl, fun h1 => absurd h1 (by decide)⟩
  · obtain ⟨a, a1, a2⟩ := held_f h (r := o.f2) (by omega)
    exact ⟨⟨4, o.f1, a, o.f3, o.f4, o.f5⟩, by simp [a1], by simp [okOp, hok'.2]; omega, rfl, rfl, rfl, rfl, fun h1 => absurd h1 (by decide)⟩
  · obtain ⟨a, a1, a2⟩ := held_f h (r := o.f2) (by omega)
    obtain ⟨b, b1, b2⟩ := held_f h (r := o.f3) (by omega)
    exact ⟨⟨5, o.f1, a, b, o.f4, o.f5⟩, by simp [a1, b1], by simp [okOp, hok'.2]; omega, rfl, rfl, rfl, rfl, fun h1 => absurd h1 (by decide)⟩
  · exact ⟨⟨6, o.f1, o.f2, o.f3, o.f4, o.f5⟩, by simp, by rw [eta1 e]; exact hok, rfl, rfl, rfl, rfl, fun _ => eta1 e⟩
  · obtain ⟨q, q1, q2, q3⟩ := args_h h (l := o.f5) (by omega) (ra_iff.1 hok'.2.2)
    have hra : Ra (⟨7, o.f1, o.f2, o.f3, o.f4, q⟩ : S37) = true := ra_iff.2 q3
    exact ⟨⟨7, o.f1, o.f2, o.f3, o.f4, q⟩, by simp [clone_i (l := o.f5) (by omega), q1], by simp [okOp, hra]; omega, q2, rfl, rfl, rfl, fun h1 => absurd h1 (by decide)⟩
  · exact ⟨⟨8, o.f1, o.f2, o.f3, o.f4, o.f5⟩, by simp, by rw [eta1 e]; exact hok, rfl, rfl, rfl, rfl, fun _ => eta1 e⟩
  · obtain ⟨a, a1, a2⟩ := held_f h (r := o.f2) (by omega)
    exact ⟨⟨9, o.f1, a, o.f3, o.f4, o.f5⟩, by simp [a1], by simp [okOp, hok'.2]; omega, rfl, rfl, rfl, rfl, fun h1 => absurd h1 (by decide)⟩
theorem neu_t (a b : Int) : ∃ q, fold_Neutral.f a b = some q := by
  unfold fold_Neutral.f
  simp only [jn]
  repeat' (first | exact ⟨_, rfl⟩ | split)
theorem neutral_t {num : MpS} (op : Int) {r : Int} (hr : Rg r) : ∃ q, fold_numbers_neutral.f num op r = some q := by
  unfold fold_numbers_neutral.f
  rw [if_pos (rg_wf hr)]
  obtain ⟨q, hq⟩ := neu_t op (mget num r)
  split
  · rw [hq]; exact ⟨_, rfl⟩
  · exact ⟨_, rfl⟩
theorem zero_t {num : MpS} {r : Int} (hr : Rg r) : ∃ q, fold_numbers_zero.f num r = some q := by
  unfold fold_numbers_zero.f
  rw [if_pos (rg_wf hr)]
  split <;> exact ⟨_, rfl⟩
theorem both_t {num : MpS} (h : ∀ r v, num.2 r = some v → wfi v) {o : S37} (ha : Rg o.f2) (hb : Rg o.f3) : ∃ q, fold_numbers_both.f num o = some q ∧ wfi q.1 := by
  obtain ⟨n, e, h1, h2⟩ := do_w o.f4 (mget num o.f2) (mget num o.f3) (get_w h _)
  unfold fold_numbers_both.f
  rw [if_pos (rg_wf ha), if_pos (rg_wf hb)]
  simp only [jn, h1, Option.bind_some]
  repeat' (first | exact ⟨_, rfl, h2⟩ | exact ⟨_, rfl, by decide⟩ | split)
theorem turned_t (k : Int) : ∃ q, word_Turned.f k = some q := by
  unfold word_Turned.f
  simp only [jn]
  repeat' (first | exact ⟨_, rfl⟩ | split)
theorem fold_t (k : Int) : ∃ q, word_Fold.f k 0 = some q ∧ wfi q.1 := by
  unfold word_Fold.f
  simp only [jn]
  repeat' (first | exact ⟨_, rfl, by decide⟩ | split)
/-- What an operation becomes. -/
def Bc (o q : S37) : Prop := (∃ n, wfi n ∧ q = ⟨1, o.f1, 0, 0, n, []⟩) ∨ (∃ a, Rg a ∧ q = ⟨3, o.f1, a, 0, 0, []⟩) ∨ q = o
def Bx (o : S37) (x : Option S37) : Prop := ∃ q, x = some q ∧ Bc o q
theorem bx_ite {o : S37} {c : Prop} [Decidable c] {a b : Option S37} (ha : Bx o a) (hb : Bx o b) : Bx o (if c then a else b) := by split <;> assumption
theorem reckon_t {num : MpS} (h : ∀ r v, num.2 r = some v → wfi v) {o : S37} (ha : Rg o.f2) (hb : Rg o.f3) : ∃ q, fold_numbers_reckon.f num o = some q ∧ Bc o q := by
  obtain ⟨b, b1, b2⟩ := both_t h ha hb
  obtain ⟨t, t1⟩ := turned_t o.f4
  obtain ⟨f, f1, f2⟩ := fold_t o.f4
  obtain ⟨n1, e1⟩ := neutral_t (num := num) o.f4 ha
  obtain ⟨n2, e2⟩ := neutral_t (num := num) o.f4 hb
  obtain ⟨z1, e3⟩ := zero_t (num := num) ha
  obtain ⟨z2, e4⟩ := zero_t (num := num) hb
  unfold fold_numbers_reckon.f fold_constant.f fold_move.f
  simp only [jn, b1, t1, f1, e1, e2, e3, e4, Option.bind_some]
  show Bx o _
  repeat' (first | exact ⟨_, rfl, .inl ⟨_, b2, rfl⟩⟩ | exact ⟨_, rfl, .inl ⟨_, f2, rfl⟩⟩ | exact ⟨_, rfl, .inl ⟨0, by decide, rfl⟩⟩ | exact ⟨_, rfl, .inr (.inl ⟨_, ha, rfl⟩)⟩ | exact ⟨_, rfl, .inr (.inl ⟨_, hb, rfl⟩)⟩ | exact ⟨_, rfl, .inr (.inr rfl)⟩ | apply bx_ite)
theorem ok_kind {o : S37} (hok : okOp o 256 = true) : 1 ≤ o.f0 ∧ o.f0 ≤ 9 := by
  apply Classical.byContradiction; intro hn
  unfold okOp at hok; simp [hn] at hok
theorem ok_regs {o : S37} (hok : okOp o 256 = true) : ((o.f0 = 2 ∨ o.f0 = 3) → Rg o.f1 ∧ Rg o.f2) ∧ (o.f0 = 2 → Rg o.f3) ∧ wfi o.f2 := by
  have hk := ok_kind hok
  rw [wfi_iff]
  unfold okOp at hok
  rcases nine hk.1 hk.2 with e | e | e | e | e | e | e | e | e <;> simp only [e] at hok ⊢ <;> simp at hok <;> exact ⟨fun h => by omega, fun h => by omega, by omega⟩
theorem bc_ok {o q : S37} (h : Bc o q) (hok : okOp o 256 = true) (hr : Rg o.f1) : okOp q 256 = true := by
  rcases h with ⟨n, hn, rfl⟩ | ⟨a, ha, rfl⟩ | rfl
  · simp [okOp]; omega
  · simp [okOp]; omega
  · exact hok
theorem op_t {num : MpS} (h : ∀ r v, num.2 r = some v → wfi v) {o : S37} (hl : o.f5.length ≤ 20) (hok : okOp o 256 = true) : ∃ q, fold_numbers_op.f num o = some q ∧ okOp q 256 = true ∧ (q = o ∨ (o.f0 = 2 ∨ o.f0 = 3) ∧ Bc o q) := by
  obtain ⟨h1, h2, h3⟩ := ok_regs hok
  have hc := clone_i (l := o.f5) (by omega)
  unfold fold_numbers_op.f fold_constant.f
  rw [if_pos h3]
  simp only [jn]
  by_cases e3 : o.f0 = 3
  · have ho : okOp (⟨1, o.f1, 0, 0, mget num o.f2, []⟩ : S37) 256 = true := bc_ok (.inl ⟨_, get_w h _, rfl⟩) hok (h1 (.inr e3)).1
    simp only [e3, if_true]
    cases hm : mhas num o.f2 with
    | true => exact ⟨_, by simp, ho, .inr ⟨.inr trivial, .inl ⟨_, get_w h _, rfl⟩⟩⟩
    | false => exact ⟨o, by simp [hc]; exact eta1 e3, hok, .inl rfl⟩
  · by_cases e2 : o.f0 = 2
    · obtain ⟨q, q1, q2⟩ := reckon_t h (h1 (.inl e2)).2 (h2 e2)
      have hk : word_Known.f o.f4 = some (decide (1 ≤ o.f4 ∧ o.f4 ≤ 14)) := known_b _
      have hq := bc_ok q2 hok (h1 (.inl e2)).1
      simp only [e2, q1, hk, Option.bind_some]
      by_cases hkk : 1 ≤ o.f4 ∧ o.f4 ≤ 14
      · have hql : q.f5.length ≤ 1000 := by rcases q2 with ⟨n, _, rfl⟩ | ⟨a, _, rfl⟩ | rfl <;> first | (simp; done) | omega
        exact ⟨q, by simp [hkk, clone_i hql], hq, .inr ⟨.inl trivial, q2⟩⟩
      · exact ⟨o, by simp [hkk, hc]; exact eta1 e2, hok, .inl rfl⟩
    · exact ⟨o, by simp [e2, e3, hc], hok, .inl rfl⟩
theorem sets_ok {o : S37} (hok : okOp o 256 = true) : code_Sets.f o = some o.f1 := by
  have hk := ok_kind hok
  unfold okOp at hok
  unfold code_Sets.f
  rw [shape_f, Option.bind_some]
  rcases nine hk.1 hk.2 with e | e | e | e | e | e | e | e | e <;> simp only [e] at hok ⊢ <;> simp at hok <;> simp <;> omega
theorem dst_ok {o : S37} (hok : okOp o 256 = true) : o.f1 = 0 ∨ Rg o.f1 := by
  unfold okOp at hok
  by_cases h : o.f0 = 5 ∨ o.f0 = 9
  · rw [if_pos h] at hok; simp at hok; omega
  · rw [if_neg h] at hok; simp at hok; omega
theorem learn_t {k : Nat} {num cop : MpS} (h : Kn k num cop) (hk : k < 1000) {o : S37} (hok : okOp o 256 = true) (hw : wfi o.f4) : ∃ q, fold_facts_learn.f num cop o = some q ∧ Kn (k + 1) q.1 q.2 := by
  obtain ⟨g1, g2, g3⟩ := ok_regs hok
  unfold fold_facts_learn.f
  rw [sets_ok hok, Option.bind_some]
  by_cases h0 : o.f1 = 0
  · rw [if_pos h0]; exact ⟨_, rfl, ⟨by have := h.n1; show num.1 ≤ k + 1; omega, by have := h.c1; show cop.1 ≤ k + 1; omega, h.nv, h.cv⟩⟩
  · have hr : Rg o.f1 := by rcases dst_ok hok with e | e; exact absurd e h0; exact e
    have hwf := rg_wf hr
    have n1 := h.n1; have c1 := h.c1
    rw [if_neg h0, if_pos hwf, if_pos hwf]
    have kd : Kn (k + 1) (mdel num o.f1) (mdelf (mdel cop o.f1) (fun _ v => decide (v = o.f1))) := ⟨by show num.1 ≤ k + 1; omega, by show cop.1 ≤ k + 1; omega, fun r v hv => by
        simp only [mdel] at hv
        split at hv
        · cases hv
        · exact h.nv r v hv, fun r v hv => by
        simp only [mdel, mdelf] at hv
        by_cases hro : r = o.f1
        · simp [hro] at hv
        · simp only [hro, if_false] at hv
          cases hc : cop.2 r with
          | none => rw [hc] at hv; cases hv
          | some w =>
            rw [hc] at hv
            simp only at hv
            split at hv
            · cases hv
            · cases hv; exact h.cv r _ hc⟩
    by_cases e1 : o.f0 = 1
    · rw [if_pos e1, if_pos ⟨by show num.1 < _; omega, hwf, hw⟩]
      refine ⟨_, rfl, ⟨by show num.1 + 1 ≤ k + 1; omega, kd.c1, fun r v hv => ?_, kd.cv⟩⟩
      simp only [mput] at hv
      split at hv
      · cases hv; exact hw
      · exact kd.nv r v hv
    · rw [if_neg e1]
      simp only [jn]
      by_cases e3 : o.f0 = 3
      · rw [if_pos e3]
        by_cases e4 : o.f2 = o.f1
        · rw [if_neg (by simp [e4])]; exact ⟨_, rfl, kd⟩
        · rw [if_pos (by simp [e4]), if_pos ⟨by show cop.1 < _; omega, hwf, rg_wf (g1 (.inr e3)).2⟩]
          refine ⟨_, rfl, ⟨kd.n1, by show cop.1 + 1 ≤ k + 1; omega, kd.nv, fun r v hv => ?_⟩⟩
          simp only [mput] at hv
          split at hv
          · cases hv; exact (g1 (.inr e3)).2
          · exact kd.cv r v hv
      · rw [if_neg e3, if_neg (by simp)]; exact ⟨_, rfl, kd⟩
theorem term_t {k : Nat} {num cop : MpS} (h : Kn k num cop) {t : S40} {n : Nat} (hn : (n : Int) ≤ 4096) (ht : okTerm t n = true) : ∃ q, fold_facts_term.f num cop t = some q ∧ okTerm q n = true := by
  unfold okTerm at ht
  unfold fold_facts_term.f code_TermUses.f
  simp only [jn]
  by_cases e2 : t.f0 = 2
  · simp [e2] at ht
    obtain ⟨a, a1, a2⟩ := held_f h (r := t.f1) (by omega)
    have hw := rg_wf a2
    simp only [e2, if_true, Option.bind_some, List.length_singleton, a1]
    cases hm : mhas num a with
    | false => exact ⟨⟨2, a, t.f2, t.f3⟩, by simp [hw], by simp [okTerm]; omega⟩
    | true =>
      by_cases hz : mget num a = 0
      · exact ⟨⟨1, 0, t.f3, 0⟩, by simp [hw, hz], by simp [okTerm]; omega⟩
      · exact ⟨⟨1, 0, t.f2, 0⟩, by simp [hw, hz], by simp [okTerm]; omega⟩
  · by_cases e3 : t.f0 = 3
    · simp [e3] at ht
      obtain ⟨a, a1, a2⟩ := held_f h (r := t.f1) (by omega)
      exact ⟨⟨3, a, t.f2, t.f3⟩, by simp [e3, a1, rg_wf a2], by simp [okTerm]; omega⟩
    · have hw : wfi t.f1 := by
        rw [wfi_iff]
        by_cases k1 : t.f0 = 1
        · simp [k1] at ht; omega
        · by_cases k4 : t.f0 = 4
          · simp [k4] at ht; omega
          · simp [k1, e2, e3, k4] at ht
      refine ⟨t, ?_, by unfold okTerm; exact ht⟩
      simp [e2, e3, hw]
/-- An operation beside what became of it. -/
structure Rr (x y : S37) : Prop where
  ok : okOp y 256 = true
  args : y.f5.length ≤ 20
  dst : y.f1 = x.f1
  one : x.f0 = 1 → y = x
  kind : (y.f0 = x.f0 ∧ y.f4 = x.f4) ∨ ((y.f0 = 1 ∨ y.f0 = 3) ∧ (x.f0 = 2 ∨ x.f0 = 3))
  al : x.f0 = 7 → y.f5.length = x.f5.length
def RL : List S37 → List S37 → Prop
  | [], [] => True
  | x :: xs, y :: ys => Rr x y ∧ RL xs ys
  | _, _ => False
theorem RL.len : ∀ {xs ys : List S37}, RL xs ys → ys.length = xs.length
  | [], [], _ => rfl
  | x :: xs, y :: ys, h => by simp [RL.len h.2]
theorem RL.get {xs ys : List S37} {i : Nat} {x : S37} (h : RL xs ys) (hx : xs[i]? = some x) : ∃ y, ys[i]? = some y ∧ Rr x y := by
  induction xs generalizing ys i with
  | nil => simp at hx
  | cons z zs ih =>
    cases ys with
    | nil => exact h.elim
    | cons y ys =>
      cases i with
      | zero => simp at hx; subst hx; exact ⟨y, rfl, h.1⟩
      | succ i => simpa using ih h.2 (i := i) (by simpa using hx)
theorem RL.mem : ∀ {xs ys : List S37}, RL xs ys → ∀ y ∈ ys, ∃ x, Rr x y
  | [], [], _, _, hz => by cases hz
  | x :: xs, y :: ys, h, z, hz => by
    rcases List.mem_cons.1 hz with rfl | hz
    · exact ⟨x, h.1⟩
    · exact RL.mem h.2 z hz
/-- What a block's operations bear. -/
def Bo (l : List S37) : Prop := ∀ o ∈ l, okOp o 256 = true ∧ o.f5.length ≤ 20 ∧ wfi o.f4
theorem one_t {k : Nat} {num cop : MpS} (h : Kn k num cop) (hk : k < 1000) {o : S37} (hok : okOp o 256 = true) (hl : o.f5.length ≤ 20) (hw : wfi o.f4) : ∃ p q, fold_facts_replaced.f num cop o = some p ∧ fold_numbers_op.f num p = some q ∧ Rr o q ∧ ∃ z, fold_facts_learn.f num cop q = some z ∧ Kn (k + 1) z.1 z.2 := by
  obtain ⟨p, p1, p2, p3, p4, p5, p6, p7⟩ := repl_f h hl hok
  obtain ⟨q, q1, q2, q3⟩ := op_t h.nv (o := p) (by omega) p2
  have hR : Rr o q ∧ wfi q.f4 := by
    rcases q3 with rfl | ⟨hk2, q3⟩
    · exact ⟨⟨q2, by omega, p5, p7, .inl ⟨p4, p6⟩, fun _ => p3⟩, by rw [p6]; exact hw⟩
    · rcases q3 with ⟨n, hn, rfl⟩ | ⟨a, ha, rfl⟩ | rfl
      · exact ⟨⟨q2, by simp, p5, fun h1 => by omega, .inr ⟨.inl rfl, by omega⟩, fun h7 => by omega⟩, hn⟩
      · exact ⟨⟨q2, by simp, p5, fun h1 => by omega, .inr ⟨.inr rfl, by omega⟩, fun h7 => by omega⟩, (by decide : wfi 0)⟩
      · exact ⟨⟨q2, by omega, p5, fun h1 => by omega, .inl ⟨p4, p6⟩, fun _ => p3⟩, by rw [p6]; exact hw⟩
  exact ⟨p, q, p1, q1, hR.1, learn_t h hk q2 hR.2⟩
theorem block_t {b : S42} (hl : b.f0.length ≤ 250) (hb : Bo b.f0) {n : Nat} (hn : (n : Int) ≤ 4096) (ht : okTerm b.f1 n = true) : ∃ q, fold_Block.f b = some q ∧ RL b.f0 q.f0 ∧ okTerm q.f1 n = true := by
  have := loopd (xs := b.f0) (F := fun n i acc num cop => fold_Block.l0 b n i acc num cop) (P := fun os f => ∀ (k : Nat) (acc : List S37) (num cop : MpS), Kn k num cop → k + os.length ≤ 900 → acc.length + os.length ≤ 900 → ∃ l num' cop' k', f acc num cop = some (acc ++ l, num', cop') ∧ Kn k' num' cop' ∧ RL os l) (by omega)
    (fun n k acc num cop h _ _ => ⟨[], num, cop, k, by simp [fold_Block.l0], h, trivial⟩)
    (fun n i o os hd hlt hat hm hw ih k acc num cop h h1 h2 => by
      obtain ⟨g1, g2, g3⟩ := hb o hm
      simp only [List.length_cons] at h1 h2
      obtain ⟨p, q, p1, q1, hR, z, z1, z2⟩ := one_t h (by omega) g1 g2 g3
      obtain ⟨l, num', cop', k', e1, e2, e3⟩ := ih (k + 1) (acc ++ [q]) z.1 z.2 z2 (by omega) (by simp; omega)
      refine ⟨q :: l, num', cop', k', ?_, e2, hR, e3⟩
      show fold_Block.l0 b (n + 1) i acc num cop = _
      rw [fold_Block.l0, if_pos hlt, hat, Option.bind_some, p1, Option.bind_some, q1, Option.bind_some, z1, Option.bind_some, if_pos (by omega), hw]
      have e1' : fold_Block.l0 b n ((i + 1 : Nat) : Int) (acc ++ [q]) z.1 z.2 = _ := e1
      rw [e1']; simp) (b.f0.length + 1) (by omega)
  obtain ⟨l, num, cop, k, e1, e2, e3⟩ := this 0 [] mnil mnil ⟨Nat.le_refl _, Nat.le_refl _, (fun r v hv => by cases hv), (fun r v hv => by cases hv)⟩ (by omega) (by simp; omega)
  obtain ⟨t, t1, t2⟩ := term_t e2 hn ht
  have e1' : fold_Block.l0 b (b.f0.length + 1) 0 [] mnil mnil = _ := e1
  unfold fold_Block.f
  rw [e1', Option.bind_some]
  simp only [List.nil_append]
  rw [t1, Option.bind_some]
  exact ⟨_, rfl, e3, t2⟩
/-- Blocks beside what became of them. -/
def Bb (n : Nat) : List S42 → List S42 → Prop
  | [], [] => True
  | x :: xs, y :: ys => (RL x.f0 y.f0 ∧ okTerm y.f1 n = true) ∧ Bb n xs ys
  | _, _ => False
theorem Bb.len {n : Nat} : ∀ {xs ys : List S42}, Bb n xs ys → ys.length = xs.length
  | [], [], _ => rfl
  | x :: xs, y :: ys, h => by simp [Bb.len h.2]
theorem Bb.get {n : Nat} {xs ys : List S42} {i : Nat} {x : S42} (h : Bb n xs ys) (hx : xs[i]? = some x) : ∃ y, ys[i]? = some y ∧ RL x.f0 y.f0 ∧ okTerm y.f1 n = true := by
  induction xs generalizing ys i with
  | nil => simp at hx
  | cons z zs ih =>
    cases ys with
    | nil => exact h.elim
    | cons y ys =>
      cases i with
      | zero => simp at hx; subst hx; exact ⟨y, rfl, h.1⟩
      | succ i => simpa using ih h.2 (i := i) (by simpa using hx)
theorem Bb.mem {n : Nat} : ∀ {xs ys : List S42}, Bb n xs ys → ∀ y ∈ ys, ∃ x ∈ xs, RL x.f0 y.f0 ∧ okTerm y.f1 n = true
  | [], [], _, _, hz => by cases hz
  | x :: xs, y :: ys, h, z, hz => by
    rcases List.mem_cons.1 hz with rfl | hz
    · exact ⟨x, List.mem_cons_self, h.1⟩
    · obtain ⟨w, w1, w2⟩ := Bb.mem h.2 z hz
      exact ⟨w, List.mem_cons_of_mem _ w1, w2⟩
theorem Bb.ops {n : Nat} : ∀ {xs ys : List S42}, Bb n xs ys → opsN ys = opsN xs
  | [], [], _ => rfl
  | x :: xs, y :: ys, h => by
    have h1 := Bb.ops h.2
    have h2 := RL.len h.1.1
    simp only [opsN, List.map_cons, List.sum_cons] at h1 ⊢
    rw [h1, h2]
theorem func_t {f : S45} (hf : Fewp f) (hb : ∀ b ∈ f.f1, Bo b.f0) (ht : ∀ b ∈ f.f1, okTerm b.f1 f.f1.length = true) : ∃ q, fold_Func.f f = some q ∧ q.f0 = f.f0 ∧ Bb f.f1.length f.f1 q.f1 := by
  obtain ⟨f1, f2, f3⟩ := hf
  have hc : slices_Clone_api_Block_api_Block.f f.f1 = some f.f1 := by unfold slices_Clone_api_Block_api_Block.f; rw [if_pos (by simp; omega)]; simp
  have := loopd (xs := f.f1) (F := fun n i w => fold_Func.l0 f.f1 n w i) (P := fun bs g => ∀ pre : List S42, pre.length + bs.length = f.f1.length → ∃ r, g (pre ++ bs) = some (pre ++ r) ∧ Bb f.f1.length bs r) (by omega)
    (fun n pre h => ⟨[], by simp [fold_Func.l0], trivial⟩)
    (fun n i b bs hd hlt hat hm hw ih pre h => by
      obtain ⟨q, q1, q2, q3⟩ := block_t (f3 b hm).1 (hb b hm) (n := f.f1.length) (by omega) (ht b hm)
      have hi : pre.length = i := by
        have := congrArg List.length hd
        rw [List.length_drop] at this
        simp only [List.length_cons] at this h
        omega
      have hg : at? (pre ++ b :: bs) (i : Int) = some b := by
        unfold at?; rw [if_pos (by omega), Int.toNat_natCast, ← hi]; simp
      obtain ⟨r, r1, r2⟩ := ih (pre ++ [q]) (by simp at h ⊢; omega)
      refine ⟨q :: r, ?_, ⟨q2, q3⟩, r2⟩
      show fold_Func.l0 f.f1 (n + 1) (pre ++ b :: bs) i = _
      rw [fold_Func.l0, if_pos hlt, hg, Option.bind_some, q1, Option.bind_some, Option.bind_some, Int.toNat_natCast, hw]
      have hset : (pre ++ b :: bs).set i q = pre ++ [q] ++ bs := by rw [← hi]; simp
      rw [hset]
      have r1' : fold_Func.l0 f.f1 n (pre ++ [q] ++ bs) ((i + 1 : Nat) : Int) = _ := r1
      rw [r1']; simp) (f.f1.length + 1) (by omega)
  obtain ⟨r, r1, r2⟩ := this [] (by simp)
  unfold fold_Func.f
  have r1' : fold_Func.l0 f.f1 (f.f1.length + 1) f.f1 0 = some r := by simpa using r1
  rw [hc, Option.bind_some, r1', Option.bind_some]
  exact ⟨_, rfl, rfl, r2⟩
structure Kw (k : Nat) (num cop : MpS) : Prop where
  n1 : num.1 ≤ k
  c1 : cop.1 ≤ k
  nv : ∀ r v, num.2 r = some v → wfi v
  cv : ∀ r v, cop.2 r = some v → wfi v
structure Wo (o : S37) : Prop where
  f1 : wfi o.f1
  f2 : wfi o.f2
  f3 : wfi o.f3
  f4 : wfi o.f4
  f5 : ∀ a ∈ o.f5, wfi a
  len : o.f5.length ≤ 20
theorem held_w {k : Nat} {num cop : MpS} (h : Kw k num cop) {r : Int} (hr : wfi r) : ∃ q, fold_facts_held.f num cop r = some q ∧ wfi q := by
  unfold fold_facts_held.f
  rw [if_pos hr]
  cases hm : cop.2 r with
  | none => exact ⟨r, by simp [mhas, hm], hr⟩
  | some v => exact ⟨v, by simp [mhas, mget, hm], h.cv r v hm⟩
theorem args_w {k : Nat} {num cop : MpS} (h : Kw k num cop) {l : List Int} (hl : l.length ≤ 1000) (hr : ∀ a ∈ l, wfi a) : ∃ q, fold_facts_replaced.l0 num cop l (l.length + 1) l 0 = some q ∧ q.length = l.length ∧ ∀ a ∈ q, wfi a := by
  have := loopd (xs := l) (F := fun n i w => fold_facts_replaced.l0 num cop l n w i) (P := fun ys f => ∀ w : List Int, w.length = l.length → (∀ a ∈ w, wfi a) → ∃ q, f w = some q ∧ q.length = l.length ∧ ∀ a ∈ q, wfi a) (by omega) (fun n w h1 h2 => ⟨w, by simp [fold_facts_replaced.l0], h1, h2⟩) (fun n i y ys hd hlt hat hm hw ih w h1 h2 => by
    have hi : i < w.length := by omega
    have hg : at? w (i : Int) = some w[i] := by unfold at?; rw [if_pos (by omega), Int.toNat_natCast, List.getElem?_eq_getElem hi]
    obtain ⟨v, v1, v2⟩ := held_w h (h2 _ (List.getElem_mem hi))
    show ∃ q, fold_facts_replaced.l0 num cop l (n + 1) w i = some q ∧ _
    rw [fold_facts_replaced.l0, if_pos hlt, hg, Option.bind_some, v1, Option.bind_some, Option.bind_some, Int.toNat_natCast, hw]
    exact ih _ (by simpa using h1) (fun a ha => by rcases List.mem_or_eq_of_mem_set ha with h | rfl; exact h2 a h; exact v2)) (l.length + 1) (by omega)
  exact this l rfl hr
theorem repl_w {k : Nat} {num cop : MpS} (h : Kw k num cop) {o : S37} (ho : Wo o) : ∃ q, fold_facts_replaced.f num cop o = some q ∧ Wo q := by
  obtain ⟨a, a1, a2⟩ := held_w h ho.f2
  obtain ⟨b, b1, b2⟩ := held_w h ho.f3
  have hl := ho.len
  obtain ⟨l, l1, l2, l3⟩ := args_w h (l := o.f5) (by omega) ho.f5
  have hl2 : l.length ≤ 20 := by omega
  have hc := clone_i (l := o.f5) (by omega)
  unfold fold_facts_replaced.f
  simp only [jn, a1, b1, hc, l1, Option.bind_some]
  repeat' (first | exact ⟨_, rfl, ⟨ho.f1, a2, b2, ho.f4, ho.f5, hl⟩⟩ | exact ⟨_, rfl, ⟨ho.f1, a2, ho.f3, ho.f4, ho.f5, hl⟩⟩ | exact ⟨_, rfl, ⟨ho.f1, ho.f2, ho.f3, ho.f4, l3, hl2⟩⟩ | exact ⟨_, rfl, ⟨ho.f1, ho.f2, ho.f3, ho.f4, ho.f5, hl⟩⟩ | split)
theorem neutral_w {num : MpS} (op : Int) {r : Int} (hr : wfi r) : ∃ q, fold_numbers_neutral.f num op r = some q := by
  unfold fold_numbers_neutral.f
  rw [if_pos hr]
  obtain ⟨q, hq⟩ := neu_t op (mget num r)
  split
  · rw [hq]; exact ⟨_, rfl⟩
  · exact ⟨_, rfl⟩
theorem zero_w {num : MpS} {r : Int} (hr : wfi r) : ∃ q, fold_numbers_zero.f num r = some q := by
  unfold fold_numbers_zero.f
  rw [if_pos hr]
  split <;> exact ⟨_, rfl⟩
theorem both_w {num : MpS} (h : ∀ r v, num.2 r = some v → wfi v) {o : S37} (ha : wfi o.f2) (hb : wfi o.f3) : ∃ q, fold_numbers_both.f num o = some q ∧ wfi q.1 := by
  obtain ⟨n, e, h1, h2⟩ := do_w o.f4 (mget num o.f2) (mget num o.f3) (get_w h _)
  unfold fold_numbers_both.f
  rw [if_pos ha, if_pos hb]
  simp only [jn, h1, Option.bind_some]
  repeat' (first | exact ⟨_, rfl, h2⟩ | exact ⟨_, rfl, by decide⟩ | split)
def Bw (x : Option S37) : Prop := ∃ q, x = some q ∧ Wo q
theorem bw_ite {c : Prop} [Decidable c] {a b : Option S37} (ha : Bw a) (hb : Bw b) : Bw (if c then a else b) := by split <;> assumption
theorem wo_const {o : S37} (ho : Wo o) {n : Int} (hn : wfi n) : Wo ⟨1, o.f1, 0, 0, n, []⟩ := ⟨ho.f1, (by decide : wfi 0), (by decide : wfi 0), hn, by simp, by simp⟩
theorem wo_move {o : S37} (ho : Wo o) {a : Int} (ha : wfi a) : Wo ⟨3, o.f1, a, 0, 0, []⟩ := ⟨ho.f1, ha, (by decide : wfi 0), (by decide : wfi 0), by simp, by simp⟩
theorem reckon_w {num : MpS} (h : ∀ r v, num.2 r = some v → wfi v) {o : S37} (ho : Wo o) : ∃ q, fold_numbers_reckon.f num o = some q ∧ Wo q := by
  obtain ⟨b, b1, b2⟩ := both_w h ho.f2 ho.f3
  obtain ⟨t, t1⟩ := turned_t o.f4
  obtain ⟨f, f1, f2⟩ := fold_t o.f4
  obtain ⟨n1, e1⟩ := neutral_w (num := num) o.f4 ho.f2
  obtain ⟨n2, e2⟩ := neutral_w (num := num) o.f4 ho.f3
  obtain ⟨z1, e3⟩ := zero_w (num := num) ho.f2
  obtain ⟨z2, e4⟩ := zero_w (num := num) ho.f3
  have w1 := wo_const ho b2
  have w2 := wo_const ho f2
  have w3 := wo_const ho (n := 0) (by decide)
  have w4 := wo_move ho ho.f2
  have w5 := wo_move ho ho.f3
  unfold fold_numbers_reckon.f fold_constant.f fold_move.f
  simp only [jn, b1, t1, f1, e1, e2, e3, e4, Option.bind_some]
  show Bw _
  repeat' (first | exact ⟨_, rfl, w1⟩ | exact ⟨_, rfl, w2⟩ | exact ⟨_, rfl, w3⟩ | exact ⟨_, rfl, w4⟩ | exact ⟨_, rfl, w5⟩ | exact ⟨_, rfl, ho⟩ | apply bw_ite)
theorem op_w {num : MpS} (h : ∀ r v, num.2 r = some v → wfi v) {o : S37} (ho : Wo o) : ∃ q, fold_numbers_op.f num o = some q ∧ Wo q := by
  have hl := ho.len
  have hc := clone_i (l := o.f5) (by omega)
  obtain ⟨q, q1, q2⟩ := reckon_w h ho
  have hcq := clone_i (l := q.f5) (by have := q2.len; omega)
  have w1 := wo_const ho (get_w h o.f2)
  have hk : word_Known.f o.f4 = some (decide (1 ≤ o.f4 ∧ o.f4 ≤ 14)) := known_b _
  unfold fold_numbers_op.f fold_constant.f
  rw [if_pos ho.f2]
  simp only [jn, hk, q1, hc, hcq, Option.bind_some]
  show Bw _
  repeat' (first | exact ⟨_, rfl, w1⟩ | exact ⟨_, rfl, q2⟩ | exact ⟨_, rfl, ho⟩ | apply bw_ite)
theorem sets_w {o : S37} (ho : Wo o) : ∃ s, code_Sets.f o = some s ∧ wfi s := by
  obtain ⟨z, hz⟩ : ∃ z, code_shapeOf.f o.f0 = some z := ⟨_, shape_f _⟩
  unfold code_Sets.f
  rw [hz, Option.bind_some]
  split
  · exact ⟨0, rfl, by decide⟩
  · exact ⟨_, rfl, ho.f1⟩
theorem learn_w {k : Nat} {num cop : MpS} (h : Kw k num cop) (hk : k < 1000) {o : S37} (ho : Wo o) : ∃ q, fold_facts_learn.f num cop o = some q ∧ Kw (k + 1) q.1 q.2 := by
  obtain ⟨s, s1, s2⟩ := sets_w ho
  unfold fold_facts_learn.f
  rw [s1, Option.bind_some]
  have n1 := h.n1; have c1 := h.c1
  by_cases h0 : s = 0
  · rw [if_pos h0]; exact ⟨_, rfl, ⟨by show num.1 ≤ k + 1; omega, by show cop.1 ≤ k + 1; omega, h.nv, h.cv⟩⟩
  · rw [if_neg h0, if_pos s2, if_pos s2]
    have kd : Kw (k + 1) (mdel num s) (mdelf (mdel cop s) (fun _ v => decide (v = s))) := ⟨by show num.1 ≤ k + 1; omega, by show cop.1 ≤ k + 1; omega, fun r v hv => by
        simp only [mdel] at hv
        split at hv
        · cases hv
        · exact h.nv r v hv, fun r v hv => by
        simp only [mdel, mdelf] at hv
        by_cases hro : r = s
        · simp [hro] at hv
        · simp only [hro, if_false] at hv
          cases hc : cop.2 r with
          | none => rw [hc] at hv; cases hv
          | some w =>
            rw [hc] at hv
            simp only at hv
            split at hv
            · cases hv
            · cases hv; exact h.cv r _ hc⟩
    by_cases e1 : o.f0 = 1
    · rw [if_pos e1, if_pos ⟨by show num.1 < _; omega, s2, ho.f4⟩]
      refine ⟨_, rfl, ⟨by show num.1 + 1 ≤ k + 1; omega, kd.c1, fun r v hv => ?_, kd.cv⟩⟩
      simp only [mput] at hv
      split at hv
      · cases hv; exact ho.f4
      · exact kd.nv r v hv
    · rw [if_neg e1]
      simp only [jn]
      by_cases e3 : o.f0 = 3
      · rw [if_pos e3]
        by_cases e4 : o.f2 = s
        · rw [if_neg (by simp [e4])]; exact ⟨_, rfl, kd⟩
        · rw [if_pos (by simp [e4]), if_pos ⟨by show cop.1 < _; omega, s2, ho.f2⟩]
          refine ⟨_, rfl, ⟨kd.n1, by show cop.1 + 1 ≤ k + 1; omega, kd.nv, fun r v hv => ?_⟩⟩
          simp only [mput] at hv
          split at hv
          · cases hv; exact ho.f2
          · exact kd.cv r v hv
      · rw [if_neg e3, if_neg (by simp)]; exact ⟨_, rfl, kd⟩
theorem term_w {k : Nat} {num cop : MpS} (h : Kw k num cop) {t : S40} (ht : wfi t.f1) : ∃ q, fold_facts_term.f num cop t = some q := by
  obtain ⟨a, a1, a2⟩ := held_w h ht
  unfold fold_facts_term.f code_TermUses.f
  simp only [jn, a1]
  by_cases e2 : t.f0 = 2
  · simp [e2, a1]; split <;> (try split) <;> exact ⟨a2, _, rfl⟩
  · by_cases e3 : t.f0 = 3
    · simp [e3, a1]; exact a2
    · simp [e2, e3]; exact ht
theorem block_w {b : S42} (hl : b.f0.length ≤ 250) (hb : ∀ o ∈ b.f0, Wo o) (ht : wfi b.f1.f1) : ∃ q, fold_Block.f b = some q := by
  have := loopd (xs := b.f0) (F := fun n i acc num cop => fold_Block.l0 b n i acc num cop) (P := fun os f => ∀ (k : Nat) (acc : List S37) (num cop : MpS), Kw k num cop → k + os.length ≤ 900 → acc.length + os.length ≤ 900 → ∃ l num' cop' k', f acc num cop = some (l, num', cop') ∧ Kw k' num' cop') (by omega)
    (fun n k acc num cop h _ _ => ⟨acc, num, cop, k, by simp [fold_Block.l0], h⟩)
    (fun n i o os hd hlt hat hm hw ih k acc num cop h h1 h2 => by
      simp only [List.length_cons] at h1 h2
      obtain ⟨p, p1, p2⟩ := repl_w h (hb o hm)
      obtain ⟨q, q1, q2⟩ := op_w h.nv p2
      obtain ⟨z, z1, z2⟩ := learn_w h (by omega) q2
      obtain ⟨l, num', cop', k', e1, e2⟩ := ih (k + 1) (acc ++ [q]) z.1 z.2 z2 (by omega) (by simp; omega)
      refine ⟨l, num', cop', k', ?_, e2⟩
      show fold_Block.l0 b (n + 1) i acc num cop = _
      rw [fold_Block.l0, if_pos hlt, hat, Option.bind_some, p1, Option.bind_some, q1, Option.bind_some, z1, Option.bind_some, if_pos (by omega), hw]
      exact e1) (b.f0.length + 1) (by omega)
  obtain ⟨l, num, cop, k, e1, e2⟩ := this 0 [] mnil mnil ⟨Nat.le_refl _, Nat.le_refl _, (fun r v hv => by cases hv), (fun r v hv => by cases hv)⟩ (by omega) (by simp; omega)
  obtain ⟨t, t1⟩ := term_w e2 ht
  have e1' : fold_Block.l0 b (b.f0.length + 1) 0 [] mnil mnil = _ := e1
  unfold fold_Block.f
  rw [e1', Option.bind_some]
  simp only []
  rw [t1, Option.bind_some]
  exact ⟨_, rfl⟩
theorem wo_of {o : S37} (h : ok37 o) (hl : o.f5.length ≤ 20) : Wo o := ⟨h.2.1, h.2.2.1, h.2.2.2.1, h.2.2.2.2.1, h.2.2.2.2.2.2, hl⟩
theorem func_w {f : S45} (hf : Fewp f) (h : ok45 f) : ∃ q, fold_Func.f f = some q := by
  obtain ⟨f1, f2, f3⟩ := hf
  have hc : slices_Clone_api_Block_api_Block.f f.f1 = some f.f1 := by unfold slices_Clone_api_Block_api_Block.f; rw [if_pos (by simp; omega)]; simp
  have := loopd (xs := f.f1) (F := fun n i w => fold_Func.l0 f.f1 n w i) (P := fun bs g => ∀ pre : List S42, pre.length + bs.length = f.f1.length → ∃ r, g (pre ++ bs) = some r) (by omega)
    (fun n pre h => ⟨_, by simp [fold_Func.l0]; rfl⟩)
    (fun n i b bs hd hlt hat hm hw ih pre hp => by
      obtain ⟨q, q1⟩ := block_w (f3 b hm).1 (fun o ho => wo_of ((h.2.2 b hm).1.2 o ho) ((f3 b hm).2 o ho)) (h.2.2 b hm).2.2.1
      have hi : pre.length = i := by
        have := congrArg List.length hd
        rw [List.length_drop] at this
        simp only [List.length_cons] at this hp
        omega
      have hg : at? (pre ++ b :: bs) (i : Int) = some b := by
        unfold at?; rw [if_pos (by omega), Int.toNat_natCast, ← hi]; simp
      obtain ⟨r, r1⟩ := ih (pre ++ [q]) (by simp at hp ⊢; omega)
      refine ⟨r, ?_⟩
      show fold_Func.l0 f.f1 (n + 1) (pre ++ b :: bs) i = _
      rw [fold_Func.l0, if_pos hlt, hg, Option.bind_some, q1, Option.bind_some, Option.bind_some, Int.toNat_natCast, hw]
      have hset : (pre ++ b :: bs).set i q = pre ++ [q] ++ bs := by rw [← hi]; simp
      rw [hset]
      exact r1) (f.f1.length + 1) (by omega)
  obtain ⟨r, r1⟩ := this [] (by simp)
  unfold fold_Func.f
  have r1' : fold_Func.l0 f.f1 (f.f1.length + 1) f.f1 0 = some r := by simpa using r1
  rw [hc, Option.bind_some, r1', Option.bind_some]
  exact ⟨_, rfl⟩
/-- Functions beside the folded ones. -/
def Ff : List S45 → List S45 → Prop
  | [], [] => True
  | x :: xs, y :: ys => fold_Func.f x = some y ∧ Ff xs ys
  | _, _ => False
theorem folds_t {l : List S45} (h8 : l.length ≤ 8) (hf : ∀ t ∈ l, Fewp t) (h : ∀ t ∈ l, ok45 t) : ∃ m, swagelaw24_FoldRuns.l0 l (l.length + 1) [] 0 = some m ∧ Ff l m := by
  have := loopd (xs := l) (F := fun n i w => swagelaw24_FoldRuns.l0 l n w i) (P := fun ts g => ∀ acc : List S45, acc.length + ts.length ≤ 100 → ∃ m, g acc = some (acc ++ m) ∧ Ff ts m) (by omega)
    (fun n acc h => ⟨[], by simp [swagelaw24_FoldRuns.l0], trivial⟩)
    (fun n i t ts hd hlt hat hm hw ih acc hp => by
      obtain ⟨q, q1⟩ := func_w (hf t hm) (h t hm)
      simp only [List.length_cons] at hp
      obtain ⟨m, m1, m2⟩ := ih (acc ++ [q]) (by simp; omega)
      refine ⟨q :: m, ?_, q1, m2⟩
      show swagelaw24_FoldRuns.l0 l (n + 1) acc i = _
      rw [swagelaw24_FoldRuns.l0, if_pos hlt, hat, Option.bind_some, q1, Option.bind_some, if_pos (by omega), hw]
      have m1' : swagelaw24_FoldRuns.l0 l n (acc ++ [q]) ((i + 1 : Nat) : Int) = _ := m1
      rw [m1']; simp) (l.length + 1) (by omega)
  obtain ⟨m, m1, m2⟩ := this [] (by simp; omega)
  exact ⟨m, by simpa using m1, m2⟩
theorem small24 : swagelaw24_small.f = some true := by decide +kernel
theorem Ff.len : ∀ {xs ys : List S45}, Ff xs ys → ys.length = xs.length
  | [], [], _ => rfl
  | x :: xs, y :: ys, h => by simp [Ff.len h.2]
theorem Ff.get {xs ys : List S45} {i : Nat} {x : S45} (h : Ff xs ys) (hx : xs[i]? = some x) : ∃ y, ys[i]? = some y ∧ fold_Func.f x = some y := by
  induction xs generalizing ys i with
  | nil => simp at hx
  | cons z zs ih =>
    cases ys with
    | nil => exact h.elim
    | cons y ys =>
      cases i with
      | zero => simp at hx; subst hx; exact ⟨y, rfl, h.1⟩
      | succ i => simpa using ih h.2 (i := i) (by simpa using hx)
theorem Ff.mem : ∀ {xs ys : List S45}, Ff xs ys → ∀ y ∈ ys, ∃ x ∈ xs, fold_Func.f x = some y
  | [], [], _, _, hz => by cases hz
  | x :: xs, y :: ys, h, z, hz => by
    rcases List.mem_cons.1 hz with rfl | hz
    · exact ⟨x, List.mem_cons_self, h.1⟩
    · obtain ⟨w, w1, w2⟩ := Ff.mem h.2 z hz
      exact ⟨w, List.mem_cons_of_mem _ w1, w2⟩
theorem okOp_to {o : S37} {k k' : Int} (h : okOp o k = true) (h7 : o.f0 = 7 → o.f4 < k') : okOp o k' = true := by
  have hk : 1 ≤ o.f0 ∧ o.f0 ≤ 9 := by
    apply Classical.byContradiction; intro hn
    unfold okOp at h; simp [hn] at h
  unfold okOp at *
  rcases nine hk.1 hk.2 with e | e | e | e | e | e | e | e | e <;> simp only [e] at h h7 ⊢ <;> simp at h h7 ⊢ <;> first | exact h | (refine ⟨⟨⟨h.1.1.1, h.1.1.2⟩, ⟨h.1.2.1, h7⟩⟩, h.2⟩) | (obtain ⟨⟨⟨h1, h2⟩, h3⟩, h4⟩ := h; exact ⟨⟨⟨h1, h2⟩, ⟨h3.1, h7⟩⟩, h4⟩)
theorem okOp_call {o : S37} {k : Int} (h : okOp o k = true) (h7 : o.f0 = 7) : 0 ≤ o.f4 ∧ o.f4 < k := by
  unfold okOp at h
  simp only [h7] at h
  simp at h
  omega
theorem fn_ff {l : List S45} {x y : S45} (h8 : l.length ≤ 8) (hf : Fewp x) (hw : ok45 x) (hok : okFn x l.length = true) (hy : fold_Func.f x = some y) : Fewp y ∧ okFn y l.length = true ∧ y.f0 = x.f0 ∧ Bb x.f1.length x.f1 y.f1 := by
  have hf' := hf
  obtain ⟨f1, f2, f3⟩ := hf'
  unfold okFn at hok
  simp only [Bool.and_eq_true, decide_eq_true_eq, List.all_eq_true] at hok
  obtain ⟨⟨⟨r1, r2⟩, r3⟩, r4⟩ := hok
  have hB : ∀ b ∈ x.f1, Bo b.f0 := fun b hb o ho => ⟨okOp_to (r4 b hb o ho) (fun h7 => by have := (okOp_call (r4 b hb o ho) h7).2; omega), (f3 b hb).2 o ho, ((hw.2.2 b hb).1.2 o ho).2.2.2.2.1⟩
  obtain ⟨q, y1, y2, y3⟩ := func_t hf hB r3
  obtain rfl := Option.some.inj (y1.symm.trans hy)
  have hlen := Bb.len y3
  have hsrc : ∀ z ∈ q.f1, ∀ o ∈ z.f0, ∃ w ∈ x.f1, ∃ p ∈ w.f0, Rr p o := fun z hz o ho => by
    obtain ⟨w, w1, w2, w3⟩ := Bb.mem y3 z hz
    obtain ⟨j, hj⟩ := List.getElem?_of_mem ho
    have hjl : j < w.f0.length := by rw [← RL.len w2]; exact (List.getElem?_eq_some_iff.1 hj).1
    obtain ⟨v, v1, v2⟩ := RL.get w2 (List.getElem?_eq_getElem hjl)
    rw [hj] at v1
    obtain rfl := Option.some.inj v1
    exact ⟨w, w1, _, List.getElem_mem hjl, v2⟩
  refine ⟨⟨by omega, by rw [Bb.ops y3]; exact f2, fun z hz => ?_⟩, ?_, y2, y3⟩
  · obtain ⟨w, w1, w2, w3⟩ := Bb.mem y3 z hz
    refine ⟨by rw [RL.len w2]; exact (f3 w w1).1, fun o ho => ?_⟩
    obtain ⟨v, hv⟩ := RL.mem w2 o ho
    exact hv.args
  · unfold okFn
    simp only [Bool.and_eq_true, decide_eq_true_eq, List.all_eq_true]
    refine ⟨⟨⟨by omega, by omega⟩, fun z hz => ?_⟩, fun z hz o ho => ?_⟩
    · obtain ⟨w, w1, w2, w3⟩ := Bb.mem y3 z hz
      rw [hlen]; exact w3
    · obtain ⟨w, w1, p, p1, p2⟩ := hsrc z hz o ho
      refine okOp_to p2.ok (fun h7 => ?_)
      rcases p2.kind with ⟨k1, k2⟩ | ⟨k1, k2⟩
      · have := okOp_call (r4 w w1 p p1) (by omega)
        omega
      · omega
theorem prog_ff {l m : List S45} (h8 : l.length ≤ 8) (hf : ∀ t ∈ l, Fewp t) (hw : ∀ t ∈ l, ok45 t) (hp : okProg l = true) (hF : Ff l m) : okProg m = true ∧ ∀ t ∈ m, Fewp t := by
  have hlen := hF.len
  have hk : ∀ t ∈ l, okFn t l.length = true ∧ (∀ y ∈ t.f1, ∀ o ∈ y.f0, okCall l o = true) := fun t ht => by
    have := List.all_eq_true.1 hp t ht
    obtain ⟨h1, h2⟩ := (Bool.and_eq_true _ _).mp this
    exact ⟨h1, fun y hy o ho => List.all_eq_true.1 (List.all_eq_true.1 h2 y hy) o ho⟩
  refine ⟨?_, fun y hy => ?_⟩
  · unfold okProg
    rw [List.all_eq_true]
    intro y hy
    obtain ⟨x, x1, x2⟩ := hF.mem y hy
    obtain ⟨g1, g2, g3, g4⟩ := fn_ff h8 (hf x x1) (hw x x1) (hk x x1).1 x2
    rw [Bool.and_eq_true]
    refine ⟨by rw [hlen]; exact g2, ?_⟩
    rw [List.all_eq_true]
    intro z hz
    rw [List.all_eq_true]
    intro o ho
    obtain ⟨w, w1, w2, w3⟩ := Bb.mem g4 z hz
    obtain ⟨j, hj⟩ := List.getElem?_of_mem ho
    have hjl : j < w.f0.length := by rw [← RL.len w2]; exact (List.getElem?_eq_some_iff.1 hj).1
    obtain ⟨v, v1, v2⟩ := RL.get w2 (List.getElem?_eq_getElem hjl)
    rw [hj] at v1
    obtain rfl := Option.some.inj v1
    have hcl := (hk x x1).2 w w1 _ (List.getElem_mem hjl)
    unfold okCall at hcl ⊢
    by_cases h7 : o.f0 = 7
    · rw [if_pos h7]
      have hk7 : (w.f0[j]).f0 = 7 ∧ (w.f0[j]).f4 = o.f4 := by
        rcases v2.kind with ⟨k1, k2⟩ | ⟨k1, k2⟩
        · exact ⟨by omega, k2.symm⟩
        · omega
      rw [if_pos hk7.1, hk7.2] at hcl
      cases hg : at? l o.f4 with
      | none => rw [hg] at hcl; cases hcl
      | some g =>
        rw [hg] at hcl
        have hcl' : ((w.f0[j]).f5.length : Int) = g.f0 := of_decide_eq_true hcl
        have h0 : 0 ≤ o.f4 := by
          unfold at? at hg
          split at hg
          · assumption
          · cases hg
        have e4 : ((o.f4.toNat : Nat) : Int) = o.f4 := by omega
        rw [← e4] at hg ⊢
        obtain ⟨g', q1, q2⟩ := hF.get (at_nat.1 hg)
        rw [at_nat.2 q1]
        have hgm := List.mem_of_getElem? (at_nat.1 hg)
        obtain ⟨_, _, q3, _⟩ := fn_ff h8 (hf g hgm) (hw g hgm) (hk g hgm).1 q2
        have hal := v2.al hk7.1
        exact decide_eq_true (by rw [hal, q3]; exact hcl')
    · rw [if_neg h7]
  · obtain ⟨x, x1, x2⟩ := hF.mem y hy
    exact (fn_ff h8 (hf x x1) (hw x x1) (hk x x1).1 x2).1
/-- What is known of registers is so. -/
structure Kr (r : List Int) (num cop : MpS) : Prop where
  nu : ∀ g v, num.2 g = some v → at? r g = some v
  co : ∀ g o, cop.2 g = some o → at? r g = at? r o
theorem kr_nil (r : List Int) : Kr r mnil mnil := ⟨(fun g v h => by cases h), (fun g v h => by cases h)⟩
theorem held_r {r : List Int} {num cop : MpS} (h : Kr r num cop) {a b : Int} (hh : fold_facts_held.f num cop a = some b) : at? r b = at? r a := by
  unfold fold_facts_held.f at hh
  split at hh
  · cases hm : cop.2 a with
    | none => simp [mhas, hm] at hh; rw [hh]
    | some o => simp [mhas, mget, hm] at hh; rw [← hh]; exact (h.co a o hm).symm
  · cases hh
theorem at_set {r : List Int} {d g v : Int} (h0 : 0 ≤ d) (h1 : d < (r.length : Int)) : at? (r.set d.toNat v) g = if g = d then some v else at? r g := by
  unfold at?
  by_cases hg : 0 ≤ g
  · rw [if_pos hg, if_pos hg]
    by_cases he : g = d
    · rw [if_pos he, he, List.getElem?_set_self (by omega)]
    · rw [if_neg he, List.getElem?_set_ne (by omega)]
  · rw [if_neg hg, if_neg hg, if_neg (by omega)]
/-- A register is set: what was known of it is forgotten. -/
theorem kr_set {r : List Int} {num cop : MpS} (h : Kr r num cop) {d v : Int} (h0 : 0 ≤ d) (h1 : d < (r.length : Int)) : Kr (r.set d.toNat v) (mdel num d) (mdelf (mdel cop d) (fun _ w => decide (w = d))) := by
  refine ⟨fun g w hg => ?_, fun g o hg => ?_⟩
  · simp only [mdel] at hg
    split at hg
    · cases hg
    · rename_i hne
      rw [at_set h0 h1, if_neg hne]; exact h.nu g w hg
  · simp only [mdel, mdelf] at hg
    by_cases hgd : g = d
    · simp [hgd] at hg
    · simp only [hgd, if_false] at hg
      cases hc : cop.2 g with
      | none => rw [hc] at hg; cases hg
      | some w =>
        rw [hc] at hg
        simp only at hg
        split at hg
        · cases hg
        · rename_i hwd
          cases hg
          have hwd' : ¬ o = d := by simpa using hwd
          rw [at_set h0 h1, at_set h0 h1, if_neg hgd, if_neg hwd']; exact h.co g o hc
theorem wfw {a : Int} (h : wfi a) : IntKind.i64.wrap a = a := by rw [wfi_iff] at h; exact w64 h.1 h.2
theorem bvw {a : Int} (h : wfi a) : IntKind.i64.wrap ((BitVec.ofInt IntKind.i64.bits a).toNat : Int) = a := by
  rw [wfi_iff] at h
  rw [BitVec.toNat_ofInt, IntKind.wrap_i64]
  show _ = a
  have : IntKind.i64.bits = 64 := rfl
  rw [this]
  omega
theorem cmp_same (a : Int) : cmp_Compare_int.f a a = some 0 := by
  unfold cmp_Compare_int.f
  simp [cmp_isNaN_int.f]
theorem u0 : IntKind.u64.wrap 0 = 0 := by decide
theorem neu_c {op n : Int} (h : fold_Neutral.f op n = some true) : ((op = 1 ∨ op = 2 ∨ op = 7 ∨ op = 8 ∨ op = 9 ∨ op = 10) ∧ n = 0) ∨ ((op = 3 ∨ op = 4) ∧ n = 1) ∨ (op = 6 ∧ n = -1) := by
  unfold fold_Neutral.f at h
  simp only [jn] at h
  repeat' (split at h)
  all_goals (simp at h)
  all_goals (try simp_all)
theorem fold_c {op n : Int} (h : word_Fold.f op 0 = some (n, true)) : ((op = 2 ∨ op = 8 ∨ op = 11 ∨ op = 14) ∧ n = 0) ∨ ((op = 12 ∨ op = 13) ∧ n = 1) := by
  unfold word_Fold.f at h
  simp only [jn] at h
  repeat' (split at h)
  all_goals (simp at h)
  all_goals (try simp_all)
theorem do_r {op a n : Int} (ha : wfi a) (hn : fold_Neutral.f op n = some true) : word_Do.f op a n = some (a, 0) := by
  have hc := neu_c hn
  clear hn
  have h1 := wfw ha
  have h2 := bvw ha
  simp at h2
  rcases hc with ⟨h | h | h | h | h | h, rfl⟩ | ⟨h | h, rfl⟩ | ⟨h, rfl⟩ <;> subst h
  · simp [word_Do.f, word_plain.f, word_Known.f, jn, h1]
  · simp [word_Do.f, word_plain.f, word_Known.f, jn, h1]
  · simp [word_Do.f, word_plain.f, word_Known.f, jn, h2]
  · simp [word_Do.f, word_plain.f, word_Known.f, jn, h2]
  · simp [word_Do.f, word_moved.f, jn, h1, u0]
  · simp [word_Do.f, word_moved.f, jn, u0]
  · simp [word_Do.f, word_plain.f, word_Known.f, jn, h1]
  · simp [word_Do.f, word_divided.f, jn, h1]
  · have : BitVec.ofInt IntKind.i64.bits (-1) = BitVec.allOnes IntKind.i64.bits := by decide
    simp [word_Do.f, word_plain.f, word_Known.f, jn, this, h2]
theorem do_l {op b n t : Int} (hb : wfi b) (hn : fold_Neutral.f op n = some true) (ht : word_Turned.f op = some (t, true)) : word_Do.f op n b = some (b, 0) := by
  have hc := neu_c hn
  clear hn
  unfold word_Turned.f at ht
  simp only [jn] at ht
  have h1 := wfw hb
  have h2 := bvw hb
  simp at h2
  rcases hc with ⟨h | h | h | h | h | h, rfl⟩ | ⟨h | h, rfl⟩ | ⟨h, rfl⟩ <;> subst h
  · simp [word_Do.f, word_plain.f, word_Known.f, jn, h1]
  · simp at ht
  · simp [word_Do.f, word_plain.f, word_Known.f, jn, h2]
  · simp [word_Do.f, word_plain.f, word_Known.f, jn, h2]
  · simp at ht
  · simp at ht
  · simp [word_Do.f, word_plain.f, word_Known.f, jn, h1]
  · simp at ht
  · have : BitVec.ofInt IntKind.i64.bits (-1) = BitVec.allOnes IntKind.i64.bits := by decide
    simp [word_Do.f, word_plain.f, word_Known.f, jn, this, h2]
theorem do_z {op y w : Int} (h : op = 3 ∨ op = 6) (hz : y = 0 ∨ w = 0) : word_Do.f op y w = some (0, 0) := by
  have w0 : IntKind.i64.wrap 0 = 0 := rfl
  rcases h with rfl | rfl <;> rcases hz with rfl | rfl <;> simp [word_Do.f, word_plain.f, word_Known.f, jn, w0]
theorem do_a {op y : Int} (hy : wfi y) (h : op = 6 ∨ op = 7) : word_Do.f op y y = some (y, 0) := by
  have h2 := bvw hy
  simp at h2
  rcases h with rfl | rfl <;> simp [word_Do.f, word_plain.f, word_Known.f, jn, h2]
theorem do_s {op y n : Int} (hf : word_Fold.f op 0 = some (n, true)) : word_Do.f op y y = some (n, 0) := by
  have hc := fold_c hf
  clear hf
  have w0 : IntKind.i64.wrap 0 = 0 := rfl
  rcases hc with ⟨h | h | h | h, rfl⟩ | ⟨h | h, rfl⟩ <;> subst h
  · simp [word_Do.f, word_plain.f, word_Known.f, jn, w0]
  · simp [word_Do.f, word_plain.f, word_Known.f, jn, w0]
  · simp [word_Do.f, word_plain.f, word_Known.f, jn, word_ordered_int.f, cmp_same, word_flag.f]
  · simp [word_Do.f, word_plain.f, word_Known.f, jn, word_ordered_int.f, cmp_same, word_flag.f]
  · simp [word_Do.f, word_plain.f, word_Known.f, jn, word_ordered_int.f, cmp_same, word_flag.f]
  · simp [word_Do.f, word_plain.f, word_Known.f, jn, word_ordered_int.f, cmp_same, word_flag.f]
/-- What an operation on two becomes, beside registers. -/
def Rk (r : List Int) (o : S37) (k e : Int) (x : Option S37) : Prop := ∃ q, x = some q ∧ ((q = ⟨1, o.f1, 0, 0, k, []⟩ ∧ e = 0) ∨ (∃ A, q = ⟨3, o.f1, A, 0, 0, []⟩ ∧ e = 0 ∧ at? r A = some k) ∨ q = o)
theorem rk_ite {r : List Int} {o : S37} {k e : Int} {c : Prop} [Decidable c] {a b : Option S37} (ha : c → Rk r o k e a) (hb : Rk r o k e b) : Rk r o k e (if c then a else b) := by
  split
  · exact ha (by assumption)
  · exact hb
theorem reckon_r {num : MpS} {r : List Int} {o : S37} {y w k e : Int} (hn : ∀ r v, num.2 r = some v → wfi v) (hK : ∀ g v, num.2 g = some v → at? r g = some v) (ha : Rg o.f2) (hb : Rg o.f3) (hy : at? r o.f2 = some y) (hw : at? r o.f3 = some w) (wy : wfi y) (ww : wfi w) (hk : 1 ≤ o.f4 ∧ o.f4 ≤ 14) (hd : word_Do.f o.f4 y w = some (k, e)) : Rk r o k e (fold_numbers_reckon.f num o) := by
  obtain ⟨b, b1, b2⟩ := both_t hn ha hb
  obtain ⟨t, t1⟩ := turned_t o.f4
  obtain ⟨f, f1, f2⟩ := fold_t o.f4
  obtain ⟨n1, e1⟩ := neutral_t (num := num) o.f4 ha
  obtain ⟨n2, e2⟩ := neutral_t (num := num) o.f4 hb
  obtain ⟨z1, e3⟩ := zero_t (num := num) ha
  obtain ⟨z2, e4⟩ := zero_t (num := num) hb
  have ga : ∀ v, num.2 o.f2 = some v → v = y := fun v hv => by have := hK _ _ hv; rw [hy] at this; exact (Option.some.inj this).symm
  have gb : ∀ v, num.2 o.f3 = some v → v = w := fun v hv => by have := hK _ _ hv; rw [hw] at this; exact (Option.some.inj this).symm
  have p1 : b.2 = true → b.1 = k ∧ e = 0 := by
    intro h
    unfold fold_numbers_both.f at b1
    rw [if_pos (rg_wf ha), if_pos (rg_wf hb)] at b1
    simp only [jn] at b1
    cases ma : num.2 o.f2 with
    | none => simp [mhas, ma] at b1; rw [← b1] at h; cases h
    | some va =>
      cases mb : num.2 o.f3 with
      | none => simp [mhas, ma, mb] at b1; rw [← b1] at h; cases h
      | some vb =>
        obtain rfl := ga va ma
        obtain rfl := gb vb mb
        simp [mhas, mget, ma, mb, hd] at b1
        rw [← b1] at h ⊢
        exact ⟨rfl, of_decide_eq_true h⟩
  have p2 : n2 = true → k = y ∧ e = 0 := by
    intro h
    subst h
    unfold fold_numbers_neutral.f at e2
    rw [if_pos (rg_wf hb)] at e2
    cases mb : num.2 o.f3 with
    | none => simp [mhas, mb] at e2
    | some vb =>
      obtain rfl := gb vb mb
      simp [mhas, mget, mb] at e2
      have := do_r wy e2
      rw [hd] at this
      simpa using this
  have p3 : n1 = true → t.2 = true → k = w ∧ e = 0 := by
    intro h h'
    subst h
    unfold fold_numbers_neutral.f at e1
    rw [if_pos (rg_wf ha)] at e1
    cases mb : num.2 o.f2 with
    | none => simp [mhas, mb] at e1
    | some vb =>
      obtain rfl := ga vb mb
      simp [mhas, mget, mb] at e1
      obtain ⟨t, t'⟩ := t
      simp at h'
      subst h'
      have := do_l ww e1 t1
      rw [hd] at this
      simpa using this
  have p4 : o.f4 = 3 ∨ o.f4 = 6 → (z1 = true ∨ z2 = true) → k = 0 ∧ e = 0 := by
    intro h hz
    have hz' : y = 0 ∨ w = 0 := by
      rcases hz with rfl | rfl
      · unfold fold_numbers_zero.f at e3
        rw [if_pos (rg_wf ha)] at e3
        cases mb : num.2 o.f2 with
        | none => simp [mhas, mb] at e3
        | some vb => obtain rfl := ga vb mb; simp [mhas, mget, mb] at e3; exact .inl e3
      · unfold fold_numbers_zero.f at e4
        rw [if_pos (rg_wf hb)] at e4
        cases mb : num.2 o.f3 with
        | none => simp [mhas, mb] at e4
        | some vb => obtain rfl := gb vb mb; simp [mhas, mget, mb] at e4; exact .inr e4
    have := do_z h hz'
    rw [hd] at this
    simpa using this
  have p5 : o.f2 = o.f3 → (o.f4 = 6 ∨ o.f4 = 7) → k = y ∧ e = 0 := by
    intro h h'
    rw [h, hw] at hy
    obtain rfl := Option.some.inj hy
    have := do_a wy h'
    rw [hd] at this
    simpa using this
  have p6 : o.f2 = o.f3 → f.2 = true → k = f.1 ∧ e = 0 := by
    intro h h'
    rw [h, hw] at hy
    obtain rfl := Option.some.inj hy
    obtain ⟨f, f'⟩ := f
    simp at h'
    subst h'
    have := do_s (y := w) f1
    rw [hd] at this
    simpa using this
  clear hd hK hn b2 f2
  unfold fold_numbers_reckon.f fold_constant.f fold_move.f
  simp only [jn, b1, t1, f1, e1, e2, e3, e4, Option.bind_some]
  have k1 : ∀ n, n = k → e = 0 → Rk r o k e (some ⟨1, o.f1, 0, 0, n, []⟩) := fun n h h0 => by subst h; exact ⟨_, rfl, .inl ⟨rfl, h0⟩⟩
  have k2 : k = y → e = 0 → Rk r o k e (some ⟨3, o.f1, o.f2, 0, 0, []⟩) := fun h h0 => by subst h; exact ⟨_, rfl, .inr (.inl ⟨_, rfl, h0, hy⟩)⟩
  have k3 : k = w → e = 0 → Rk r o k e (some ⟨3, o.f1, o.f3, 0, 0, []⟩) := fun h h0 => by subst h; exact ⟨_, rfl, .inr (.inl ⟨_, rfl, h0, hw⟩)⟩
  have k4 : Rk r o k e (some o) := ⟨_, rfl, .inr (.inr rfl)⟩
  have tail2 : Rk r o k e (if o.f2 = o.f3 then (if f.2 = true then some ⟨1, o.f1, 0, 0, f.1, []⟩ else some o) else (if false = true then some ⟨1, o.f1, 0, 0, f.1, []⟩ else some o)) := by
    split
    · rename_i h
      refine rk_ite (fun h' => ?_) k4
      exact k1 _ (p6 h h').1.symm (p6 h h').2
    · simpa using k4
  by_cases q1 : b.2 = true
  · rw [if_pos q1]; exact k1 _ (p1 q1).1 (p1 q1).2
  rw [if_neg q1]
  by_cases q2 : n2 = true
  · rw [if_pos q2]; exact k2 (p2 q2).1 (p2 q2).2
  rw [if_neg q2]
  have tail1 : Rk r o k e (if o.f2 = o.f3 then (if o.f4 = 6 then (if true = true then some ⟨3, o.f1, o.f2, 0, 0, []⟩ else (if o.f2 = o.f3 then (if f.2 = true then some ⟨1, o.f1, 0, 0, f.1, []⟩ else some o) else (if false = true then some ⟨1, o.f1, 0, 0, f.1, []⟩ else some o))) else (if decide (o.f4 = 7) = true then some ⟨3, o.f1, o.f2, 0, 0, []⟩ else (if o.f2 = o.f3 then (if f.2 = true then some ⟨1, o.f1, 0, 0, f.1, []⟩ else some o) else (if false = true then some ⟨1, o.f1, 0, 0, f.1, []⟩ else some o)))) else (if false = true then some ⟨3, o.f1, o.f2, 0, 0, []⟩ else (if o.f2 = o.f3 then (if f.2 = true then some ⟨1, o.f1, 0, 0, f.1, []⟩ else some o) else (if false = true then some ⟨1, o.f1, 0, 0, f.1, []⟩ else some o)))) := by
    by_cases h : o.f2 = o.f3
    · rw [if_pos h]
      by_cases h6 : o.f4 = 6
      · rw [if_pos h6, if_pos rfl]; exact k2 (p5 h (.inl h6)).1 (p5 h (.inl h6)).2
      · rw [if_neg h6]
        by_cases h7 : o.f4 = 7
        · rw [if_pos (decide_eq_true h7)]; exact k2 (p5 h (.inr h7)).1 (p5 h (.inr h7)).2
        · rw [if_neg (by simpa using h7)]; exact tail2
    · rw [if_neg h, if_neg (by decide)]; exact tail2
  have tail0 : ∀ X : Option S37, Rk r o k e X → Rk r o k e (if o.f4 = 3 then (if z1 = true then (if true = true then some ⟨1, o.f1, 0, 0, 0, []⟩ else X) else (if z2 = true then some ⟨1, o.f1, 0, 0, 0, []⟩ else X)) else (if o.f4 = 6 then (if z1 = true then (if true = true then some ⟨1, o.f1, 0, 0, 0, []⟩ else X) else (if z2 = true then some ⟨1, o.f1, 0, 0, 0, []⟩ else X)) else (if false = true then some ⟨1, o.f1, 0, 0, 0, []⟩ else X))) := by
    intro X hX
    by_cases h3 : o.f4 = 3
    · rw [if_pos h3]
      by_cases hz1 : z1 = true
      · rw [if_pos hz1, if_pos rfl]; exact k1 _ (p4 (.inl h3) (.inl hz1)).1.symm (p4 (.inl h3) (.inl hz1)).2
      · rw [if_neg hz1]
        by_cases hz2 : z2 = true
        · rw [if_pos hz2]; exact k1 _ (p4 (.inl h3) (.inr hz2)).1.symm (p4 (.inl h3) (.inr hz2)).2
        · rw [if_neg hz2]; exact hX
    · rw [if_neg h3]
      by_cases h6 : o.f4 = 6
      · rw [if_pos h6]
        by_cases hz1 : z1 = true
        · rw [if_pos hz1, if_pos rfl]; exact k1 _ (p4 (.inr h6) (.inl hz1)).1.symm (p4 (.inr h6) (.inl hz1)).2
        · rw [if_neg hz1]
          by_cases hz2 : z2 = true
          · rw [if_pos hz2]; exact k1 _ (p4 (.inr h6) (.inr hz2)).1.symm (p4 (.inr h6) (.inr hz2)).2
          · rw [if_neg hz2]; exact hX
      · rw [if_neg h6, if_neg (by decide)]; exact hX
  by_cases q3 : t.2 = true
  · rw [if_pos q3]
    by_cases q4 : n1 = true
    · rw [if_pos q4]; exact k3 (p3 q4 q3).1 (p3 q4 q3).2
    · rw [if_neg q4]; exact tail0 _ tail1
  · rw [if_neg q3, if_neg (by decide)]; exact tail0 _ tail1
/-- What an operation becomes, beside registers. -/
def Opq (r : List Int) (o q : S37) : Prop :=
  (o.f0 = 1 ∧ q.f0 = 1 ∧ q.f4 = o.f4) ∨
  (o.f0 = 2 ∧ ∃ y w k e, at? r o.f2 = some y ∧ at? r o.f3 = some w ∧ word_Do.f o.f4 y w = some (k, e) ∧ wfi k ∧ ((q.f0 = 1 ∧ q.f4 = k ∧ e = 0) ∨ (q.f0 = 3 ∧ at? r q.f2 = some k ∧ e = 0) ∨ (q.f0 = 2 ∧ q.f4 = o.f4 ∧ at? r q.f2 = some y ∧ at? r q.f3 = some w))) ∨
  (o.f0 = 3 ∧ ∃ y, at? r o.f2 = some y ∧ ((q.f0 = 1 ∧ q.f4 = y) ∨ (q.f0 = 3 ∧ at? r q.f2 = some y))) ∨
  (o.f0 = 4 ∧ q.f0 = 4 ∧ q.f4 = o.f4 ∧ ∃ y, at? r o.f2 = some y ∧ at? r q.f2 = some y) ∨
  (o.f0 = 5 ∧ q.f0 = 5 ∧ q.f4 = o.f4 ∧ ∃ y w, at? r o.f2 = some y ∧ at? r q.f2 = some y ∧ at? r o.f3 = some w ∧ at? r q.f3 = some w) ∨
  (o.f0 = 6 ∧ q.f0 = 6 ∧ q.f4 = o.f4) ∨
  (o.f0 = 7 ∧ q.f0 = 7 ∧ q.f4 = o.f4 ∧ q.f5.map (at? r) = o.f5.map (at? r)) ∨
  (o.f0 = 8 ∧ q.f0 = 8) ∨
  (o.f0 = 9 ∧ q.f0 = 9 ∧ ∃ y, at? r o.f2 = some y ∧ at? r q.f2 = some y)
theorem args_r {k : Nat} {num cop : MpS} {r : List Int} (h : Kn k num cop) (hK : Kr r num cop) {l : List Int} (hl : l.length ≤ 1000) (hr : ∀ a ∈ l, Rg a) : ∃ q, fold_facts_replaced.l0 num cop l (l.length + 1) l 0 = some q ∧ q.map (at? r) = l.map (at? r) := by
  have := loopd (xs := l) (F := fun n i w => fold_facts_replaced.l0 num cop l n w i) (P := fun ys f => ∀ w : List Int, w.length = l.length → (∀ a ∈ w, Rg a) → w.map (at? r) = l.map (at? r) → ∃ q, f w = some q ∧ q.map (at? r) = l.map (at? r)) (by omega) (fun n w h1 h2 h3 => ⟨w, by simp [fold_facts_replaced.l0], h3⟩) (fun n i y ys hd hlt hat hm hw ih w h1 h2 h3 => by
    have hi : i < w.length := by omega
    have hg : at? w (i : Int) = some w[i] := by unfold at?; rw [if_pos (by omega), Int.toNat_natCast, List.getElem?_eq_getElem hi]
    obtain ⟨v, v1, v2⟩ := held_f h (h2 _ (List.getElem_mem hi))
    have hv := held_r hK v1
    show ∃ q, fold_facts_replaced.l0 num cop l (n + 1) w i = some q ∧ _
    rw [fold_facts_replaced.l0, if_pos hlt, hg, Option.bind_some, v1, Option.bind_some, Option.bind_some, Int.toNat_natCast, hw]
    refine ih _ (by simpa using h1) (fun a ha => by rcases List.mem_or_eq_of_mem_set ha with h | rfl; exact h2 a h; exact v2) ?_
    rw [List.map_set, hv, ← h3]
    have : at? r w[i] = (w.map (at? r))[i]'(by simpa using hi) := by simp
    rw [this, List.set_getElem_self]) (l.length + 1) (by omega)
  exact this l rfl hr rfl
theorem op_rest {num : MpS} {o : S37} (hw : wfi o.f2) (hl : o.f5.length ≤ 20) (e2 : ¬ o.f0 = 2) (e3 : ¬ o.f0 = 3) : fold_numbers_op.f num o = some o := by
  have hc := clone_i (l := o.f5) (by omega)
  unfold fold_numbers_op.f fold_constant.f
  rw [if_pos hw]
  simp only [jn]
  simp [e2, e3, hc]
theorem opq {k z : Nat} {r : List Int} {num cop : MpS} {o p q : S37} (h : Kn k num cop) (hK : Kr r num cop) (hW : ∀ a ∈ r, wfi a) (ho : Oz z o) (hr : r.length = z + 1) (hok : okOp o 256 = true) (h1 : fold_facts_replaced.f num cop o = some p) (h2 : fold_numbers_op.f num p = some q) : Opq r o q := by
  have hro := ho.ro
  have hl := ho.args
  have hlo : (r.length : Int) = z + 1 := by omega
  unfold Ro at hro
  unfold Opq
  rcases hro with e | e | e | e | e | e | e | e | e
  · refine .inl ⟨e.1, ?_⟩
    have hp : fold_facts_replaced.f num cop o = some o := by unfold fold_facts_replaced.f; simp only [jn]; simp [e.1]; exact eta1 e.1
    obtain rfl := Option.some.inj (hp.symm.trans h1)
    rw [op_rest (by rw [e.2.2.1]; decide) hl (by omega) (by omega)] at h2
    obtain rfl := Option.some.inj h2
    exact ⟨e.1, rfl⟩
  · refine .inr (.inl ⟨e.1, ?_⟩)
    obtain ⟨a, a1, a2⟩ := held_f h (r := o.f2) e.2.2.1
    obtain ⟨b, b1, b2⟩ := held_f h (r := o.f3) e.2.2.2.1
    have a3 := held_r hK a1
    have b3 := held_r hK b1
    have g1 := ho.a (.inl e.1); have g2 := ho.b (.inl e.1)
    obtain ⟨y, hy⟩ := at_ok (r := r) (i := o.f2) (by have := e.2.2.1.1; omega) (by omega)
    obtain ⟨w, hw⟩ := at_ok (r := r) (i := o.f3) (by have := e.2.2.2.1.1; omega) (by omega)
    have hwy := hW y (at_mem hy)
    have hww := hW w (at_mem hw)
    have hp : fold_facts_replaced.f num cop o = some (⟨2, o.f1, a, b, o.f4, o.f5⟩ : S37) := by unfold fold_facts_replaced.f; simp only [jn]; simp [e.1, a1, b1]
    obtain rfl := Option.some.inj (hp.symm.trans h1)
    have hk : 1 ≤ o.f4 ∧ o.f4 ≤ 14 := by
      unfold okOp at hok
      simp only [e.1] at hok
      simp at hok
      omega
    obtain ⟨n, e', hd, hdw⟩ := do_w o.f4 y w hwy
    refine ⟨y, w, n, e', hy, hw, hd, hdw, ?_⟩
    have hkk : word_Known.f o.f4 = some true := by rw [known_b]; simp [hk]
    obtain ⟨q0, q1, q2⟩ := reckon_r (num := num) (r := r) (o := (⟨2, o.f1, a, b, o.f4, o.f5⟩ : S37)) h.nv hK.nu a2 b2 (a3.trans hy) (b3.trans hw) hwy hww hk hd
    have q3 : fold_numbers_op.f num (⟨2, o.f1, a, b, o.f4, o.f5⟩ : S37) = some q0 := by
      have hq0 : q0.f5.length ≤ 1000 := by rcases q2 with ⟨rfl, _⟩ | ⟨A, rfl, _⟩ | rfl <;> simp <;> omega
      unfold fold_numbers_op.f fold_constant.f
      rw [if_pos (rg_wf a2)]
      simp only [jn]
      simp [hkk, q1, clone_i hq0]
    obtain rfl := Option.some.inj (q3.symm.trans h2)
    rcases q2 with ⟨rfl, h0⟩ | ⟨A, rfl, h0, h3⟩ | rfl
    · exact .inl ⟨rfl, rfl, h0⟩
    · exact .inr (.inl ⟨rfl, h3, h0⟩)
    · exact .inr (.inr ⟨rfl, rfl, a3.trans hy, b3.trans hw⟩)
  · refine .inr (.inr (.inl ⟨e.1, ?_⟩))
    obtain ⟨a, a1, a2⟩ := held_f h (r := o.f2) e.2.2.1
    have a3 := held_r hK a1
    have g1 := ho.a (.inr (.inl e.1))
    obtain ⟨y, hy⟩ := at_ok (r := r) (i := o.f2) (by have := e.2.2.1.1; omega) (by omega)
    refine ⟨y, hy, ?_⟩
    have hp : fold_facts_replaced.f num cop o = some (⟨3, o.f1, a, o.f3, o.f4, o.f5⟩ : S37) := by unfold fold_facts_replaced.f; simp only [jn]; simp [e.1, a1]
    obtain rfl := Option.some.inj (hp.symm.trans h1)
    have hc := clone_i (l := o.f5) (by omega)
    unfold fold_numbers_op.f fold_constant.f at h2
    rw [if_pos (rg_wf a2)] at h2
    simp only [jn] at h2
    cases hm : num.2 a with
    | some v =>
      have hv := hK.nu a v hm
      rw [a3, hy] at hv
      simp [mhas, mget, hm] at h2
      subst h2
      exact .inl ⟨rfl, (Option.some.inj hv).symm⟩
    | none =>
      simp [mhas, hm, hc] at h2
      subst h2
      exact .inr ⟨rfl, a3.trans hy⟩
  · refine .inr (.inr (.inr (.inl ⟨e.1, ?_⟩)))
    obtain ⟨a, a1, a2⟩ := held_f h (r := o.f2) e.2.2.1
    have a3 := held_r hK a1
    have g1 := ho.a (.inr (.inr (.inl e.1)))
    obtain ⟨y, hy⟩ := at_ok (r := r) (i := o.f2) (by have := e.2.2.1.1; omega) (by omega)
    have hp : fold_facts_replaced.f num cop o = some (⟨4, o.f1, a, o.f3, o.f4, o.f5⟩ : S37) := by unfold fold_facts_replaced.f; simp only [jn]; simp [e.1, a1]
    obtain rfl := Option.some.inj (hp.symm.trans h1)
    rw [op_rest (num := num) (o := (⟨4, o.f1, a, o.f3, o.f4, o.f5⟩ : S37)) (rg_wf a2) hl (by simp) (by simp)] at h2
    obtain rfl := Option.some.inj h2
    exact ⟨rfl, rfl, y, hy, a3.trans hy⟩
  · refine .inr (.inr (.inr (.inr (.inl ⟨e.1, ?_⟩))))
    obtain ⟨a, a1, a2⟩ := held_f h (r := o.f2) e.2.2.1
    obtain ⟨b, b1, b2⟩ := held_f h (r := o.f3) e.2.2.2.1
    have a3 := held_r hK a1
    have b3 := held_r hK b1
    have g1 := ho.a (.inr (.inr (.inr (.inl e.1)))); have g2 := ho.b (.inr e.1)
    obtain ⟨y, hy⟩ := at_ok (r := r) (i := o.f2) (by have := e.2.2.1.1; omega) (by omega)
    obtain ⟨w, hw⟩ := at_ok (r := r) (i := o.f3) (by have := e.2.2.2.1.1; omega) (by omega)
    have hp : fold_facts_replaced.f num cop o = some (⟨5, o.f1, a, b, o.f4, o.f5⟩ : S37) := by unfold fold_facts_replaced.f; simp only [jn]; simp [e.1, a1, b1]
    obtain rfl := Option.some.inj (hp.symm.trans h1)
    rw [op_rest (num := num) (o := (⟨5, o.f1, a, b, o.f4, o.f5⟩ : S37)) (rg_wf a2) hl (by simp) (by simp)] at h2
    obtain rfl := Option.some.inj h2
    exact ⟨rfl, rfl, y, w, hy, a3.trans hy, hw, b3.trans hw⟩
  · refine .inr (.inr (.inr (.inr (.inr (.inl ⟨e.1, ?_⟩)))))
    have hp : fold_facts_replaced.f num cop o = some o := by unfold fold_facts_replaced.f; simp only [jn]; simp [e.1]; exact eta1 e.1
    obtain rfl := Option.some.inj (hp.symm.trans h1)
    rw [op_rest (by rw [e.2.2.1]; decide) hl (by omega) (by omega)] at h2
    obtain rfl := Option.some.inj h2
    exact ⟨e.1, rfl⟩
  · refine .inr (.inr (.inr (.inr (.inr (.inr (.inl ⟨e.1, ?_⟩))))))
    obtain ⟨l, l1, l2⟩ := args_r h hK (l := o.f5) (by omega) e.2.2.2.2
    have hll : l.length = o.f5.length := by have := congrArg List.length l2; simpa using this
    have hp : fold_facts_replaced.f num cop o = some (⟨7, o.f1, o.f2, o.f3, o.f4, l⟩ : S37) := by unfold fold_facts_replaced.f; simp only [jn]; simp [e.1, clone_i (l := o.f5) (by omega), l1]
    obtain rfl := Option.some.inj (hp.symm.trans h1)
    rw [op_rest (by rw [e.2.2.1]; decide) (by show l.length ≤ 20; omega) (by simp) (by simp)] at h2
    obtain rfl := Option.some.inj h2
    exact ⟨rfl, rfl, l2⟩
  · refine .inr (.inr (.inr (.inr (.inr (.inr (.inr (.inl ⟨e.1, ?_⟩)))))))
    have hp : fold_facts_replaced.f num cop o = some o := by unfold fold_facts_replaced.f; simp only [jn]; simp [e.1]; exact eta1 e.1
    obtain rfl := Option.some.inj (hp.symm.trans h1)
    rw [op_rest (by rw [e.2.2.1]; decide) hl (by omega) (by omega)] at h2
    obtain rfl := Option.some.inj h2
    exact e.1
  · refine .inr (.inr (.inr (.inr (.inr (.inr (.inr (.inr ⟨e.1, ?_⟩)))))))
    obtain ⟨a, a1, a2⟩ := held_f h (r := o.f2) e.2.2.1
    have a3 := held_r hK a1
    have g1 := ho.a (.inr (.inr (.inr (.inr e.1))))
    obtain ⟨y, hy⟩ := at_ok (r := r) (i := o.f2) (by have := e.2.2.1.1; omega) (by omega)
    have hp : fold_facts_replaced.f num cop o = some (⟨9, o.f1, a, o.f3, o.f4, o.f5⟩ : S37) := by unfold fold_facts_replaced.f; simp only [jn]; simp [e.1, a1]
    obtain rfl := Option.some.inj (hp.symm.trans h1)
    rw [op_rest (num := num) (o := (⟨9, o.f1, a, o.f3, o.f4, o.f5⟩ : S37)) (rg_wf a2) hl (by simp) (by simp)] at h2
    obtain rfl := Option.some.inj h2
    exact ⟨rfl, y, hy, a3.trans hy⟩
/-- A block's operations beside the folded ones, and what is known ahead of each. -/
def FB : MpS → MpS → List S37 → List S37 → MpS → MpS → Prop
  | num, cop, [], [], num', cop' => num' = num ∧ cop' = cop
  | num, cop, o :: os, q :: qs, num', cop' => ∃ p z, (∃ k, Kn k num cop) ∧ okOp o 256 = true ∧ wfi o.f4 ∧ fold_facts_replaced.f num cop o = some p ∧ fold_numbers_op.f num p = some q ∧ Rr o q ∧ fold_facts_learn.f num cop q = some z ∧ FB z.1 z.2 os qs num' cop'
  | _, _, _, _, _, _ => False
theorem block_fb {b : S42} (hl : b.f0.length ≤ 250) (hb : Bo b.f0) {n : Nat} (hn : (n : Int) ≤ 4096) (ht : okTerm b.f1 n = true) : ∃ q, fold_Block.f b = some q ∧ q.f0.length = b.f0.length ∧ ∃ k num cop, FB mnil mnil b.f0 q.f0 num cop ∧ Kn k num cop ∧ fold_facts_term.f num cop b.f1 = some q.f1 := by
  have := loopd (xs := b.f0) (F := fun n i acc num cop => fold_Block.l0 b n i acc num cop) (P := fun os f => ∀ (k : Nat) (acc : List S37) (num cop : MpS), Kn k num cop → k + os.length ≤ 900 → acc.length + os.length ≤ 900 → ∃ l num' cop' k', f acc num cop = some (acc ++ l, num', cop') ∧ Kn k' num' cop' ∧ FB num cop os l num' cop' ∧ l.length = os.length) (by omega)
    (fun n k acc num cop h _ _ => ⟨[], num, cop, k, by simp [fold_Block.l0], h, ⟨rfl, rfl⟩, rfl⟩)
    (fun n i o os hd hlt hat hm hw ih k acc num cop h h1 h2 => by
      obtain ⟨g1, g2, g3⟩ := hb o hm
      simp only [List.length_cons] at h1 h2
      obtain ⟨p, q, p1, q1, hR, z, z1, z2⟩ := one_t h (by omega) g1 g2 g3
      obtain ⟨l, num', cop', k', e1, e2, e3, e4⟩ := ih (k + 1) (acc ++ [q]) z.1 z.2 z2 (by omega) (by simp; omega)
      refine ⟨q :: l, num', cop', k', ?_, e2, ⟨p, z, ⟨k, h⟩, g1, g3, p1, q1, hR, z1, e3⟩, by simp [e4]⟩
      show fold_Block.l0 b (n + 1) i acc num cop = _
      rw [fold_Block.l0, if_pos hlt, hat, Option.bind_some, p1, Option.bind_some, q1, Option.bind_some, z1, Option.bind_some, if_pos (by omega), hw]
      have e1' : fold_Block.l0 b n ((i + 1 : Nat) : Int) (acc ++ [q]) z.1 z.2 = _ := e1
      rw [e1']; simp) (b.f0.length + 1) (by omega)
  obtain ⟨l, num, cop, k, e1, e2, e3, e4⟩ := this 0 [] mnil mnil ⟨Nat.le_refl _, Nat.le_refl _, (fun r v hv => by cases hv), (fun r v hv => by cases hv)⟩ (by omega) (by simp; omega)
  obtain ⟨t, t1, t2⟩ := term_t e2 hn ht
  have e1' : fold_Block.l0 b (b.f0.length + 1) 0 [] mnil mnil = _ := e1
  unfold fold_Block.f
  rw [e1', Option.bind_some]
  simp only [List.nil_append]
  rw [t1, Option.bind_some]
  exact ⟨_, rfl, e4, k, num, cop, e3, e2, t1⟩
theorem learn_kr {k : Nat} {num cop : MpS} {r : List Int} {q : S37} {zz : MpS × MpS} {v : Int} (h : Kn k num cop) (hK : Kr r num cop) (hok : okOp q 256 = true) (hr : q.f1 < (r.length : Int)) (h1 : q.f0 = 1 → v = q.f4) (h3 : q.f0 = 3 → at? r q.f2 = some v) (hz : fold_facts_learn.f num cop q = some zz) : Kr (if q.f1 = 0 then r else r.set q.f1.toNat v) zz.1 zz.2 := by
  obtain ⟨g1, g2, g3⟩ := ok_regs hok
  unfold fold_facts_learn.f at hz
  rw [sets_ok hok, Option.bind_some] at hz
  by_cases h0 : q.f1 = 0
  · rw [if_pos h0] at hz
    rw [if_pos h0]
    obtain rfl := Option.some.inj hz
    exact hK
  · have hrg : Rg q.f1 := by rcases dst_ok hok with e | e; exact absurd e h0; exact e
    have hwf := rg_wf hrg
    have hb0 : 0 ≤ q.f1 := by have := hrg.1; omega
    rw [if_neg h0, if_pos hwf, if_pos hwf] at hz
    rw [if_neg h0]
    have ks := kr_set (v := v) hK hb0 hr
    by_cases e1 : q.f0 = 1
    · rw [if_pos e1] at hz
      split at hz
      · obtain rfl := Option.some.inj hz
        refine ⟨fun g w hg => ?_, ks.co⟩
        simp only [mput] at hg
        split at hg
        · rename_i hgd
          cases hg
          rw [hgd, at_set hb0 hr, if_pos rfl, h1 e1]
        · exact ks.nu g w hg
      · cases hz
    · rw [if_neg e1] at hz
      simp only [jn] at hz
      by_cases e3 : q.f0 = 3
      · rw [if_pos e3] at hz
        by_cases e4 : q.f2 = q.f1
        · rw [if_neg (by simp [e4])] at hz
          obtain rfl := Option.some.inj hz
          exact ks
        · rw [if_pos (by simp [e4])] at hz
          split at hz
          · obtain rfl := Option.some.inj hz
            refine ⟨ks.nu, fun g w hg => ?_⟩
            simp only [mput] at hg
            split at hg
            · rename_i hgd
              cases hg
              rw [hgd, at_set hb0 hr, at_set hb0 hr, if_pos rfl, if_neg e4, h3 e3]
            · exact ks.co g w hg
          · cases hz
      · rw [if_neg e3, if_neg (by simp)] at hz
        obtain rfl := Option.some.inj hz
        exact ks
/-- Numbers in their bounds. -/
structure Wm (s : Ts) : Prop where
  m : ∀ v ∈ s.m, wfi v
  i : ∀ v ∈ s.i, wfi v
/-- Registers that agree. -/
def Ag (r r' : List Int) : Prop := ∀ g v v', at? r g = some v → at? r' g = some v' → v = v'
theorem ag_at {r r' : List Int} (hA : Ag r r') {g y : Int} (h : at? r g = some y) (h0 : 0 ≤ g) (h1 : g < (r'.length : Int)) : at? r' g = some y := by
  obtain ⟨w, hw⟩ := at_ok (r := r') h0 h1
  rw [hw, hA g y w h hw]
theorem ag_set {r r' : List Int} (hA : Ag r r') {d v : Int} (h0 : 0 ≤ d) (h1 : d < (r.length : Int)) (h2 : d < (r'.length : Int)) : Ag (r.set d.toNat v) (r'.set d.toNat v) := by
  intro g a b ha hb
  rw [at_set h0 h1] at ha
  rw [at_set h0 h2] at hb
  by_cases hg : g = d
  · rw [if_pos hg] at ha hb; cases ha; cases hb; rfl
  · rw [if_neg hg] at ha hb; exact hA g a b ha hb
theorem oz2 {z : Nat} {o : S37} (ho : Oz z o) (h : o.f0 = 2 ∨ o.f0 = 3 ∨ o.f0 = 4 ∨ o.f0 = 5 ∨ o.f0 = 9) : 0 ≤ o.f2 ∧ o.f2 < (z : Int) + 1 := by
  have hro := ho.ro
  have := ho.a h
  unfold Ro at hro
  rcases hro with e | e | e | e | e | e | e | e | e <;> first | (exfalso; omega) | (have := e.2.2.1.1; omega)
theorem oz3 {z : Nat} {o : S37} (ho : Oz z o) (h : o.f0 = 2 ∨ o.f0 = 5) : 0 ≤ o.f3 ∧ o.f3 < (z : Int) + 1 := by
  have hro := ho.ro
  have := ho.b h
  unfold Ro at hro
  rcases hro with e | e | e | e | e | e | e | e | e <;> first | (exfalso; omega) | (have := e.2.2.2.1.1; omega)
theorem oz5 {z : Nat} {o : S37} (ho : Oz z o) (h : o.f0 = 7) : ∀ a ∈ o.f5, 0 ≤ a ∧ a < (z : Int) + 1 := by
  have hro := ho.ro
  intro a ha
  have := ho.c h a ha
  unfold Ro at hro
  rcases hro with e | e | e | e | e | e | e | e | e <;> first | (exfalso; omega) | (have := (e.2.2.2.2 a ha).1; omega)
theorem args_at {o : S37} {r : List Int} {z : Nat} (ho : Oz z o) (h7 : o.f0 = 7) (hr : r.length = z + 1) : ∃ us : List Int, trace_runner_value.l0 o r (o.f5.length + 1) (List.replicate (o.f5.length : Int).toNat (0 : Int)) 0 = some us ∧ o.f5.map (at? r) = us.map some := by
  have ha5 := ho.args
  have hrg := oz5 ho h7
  have := loopd (xs := o.f5) (F := fun n i w => trace_runner_value.l0 o r n w i) (P := fun ys f => ∀ w1 w2 : List Int, w1.length + ys.length = o.f5.length → w2.length = ys.length → ∃ us, f (w1 ++ w2) = some (w1 ++ us) ∧ ys.map (at? r) = us.map some) (by omega) (fun n w1 w2 h1 h2 => ⟨[], by simp [trace_runner_value.l0, List.eq_nil_of_length_eq_zero h2], rfl⟩) (fun n i y ys hd hlt hat hm hw ih w1 w2 h1 h2 => by
    have hy := hrg y hm
    obtain ⟨u, hu⟩ := at_ok (r := r) (i := y) hy.1 (by omega)
    cases w2 with
    | nil => simp at h2
    | cons c w2 =>
      have hi : w1.length = i := by
        have := congrArg List.length hd
        rw [List.length_drop] at this
        simp only [List.length_cons] at this h1
        omega
      have hu2 : at? (w1 ++ c :: w2) (i : Int) = some c := by rw [at_nat, ← hi]; simp
      obtain ⟨us, e1, e2⟩ := ih (w1 ++ [u]) w2 (by simp at h1 ⊢; omega) (by simpa using h2)
      refine ⟨u :: us, ?_, by simp [hu, e2]⟩
      show trace_runner_value.l0 o r (n + 1) (w1 ++ c :: w2) i = _
      rw [trace_runner_value.l0, if_pos hlt, hat, Option.bind_some, hu, Option.bind_some, hu2, Option.bind_some, Int.toNat_natCast, hw]
      have hset : (w1 ++ c :: w2).set i u = w1 ++ [u] ++ w2 := by rw [← hi]; simp
      rw [hset]
      have e1' : trace_runner_value.l0 o r n (w1 ++ [u] ++ w2) ((i + 1 : Nat) : Int) = _ := e1
      rw [e1']; simp) (o.f5.length + 1) (by omega)
  obtain ⟨us, e1, e2⟩ := this [] (List.replicate o.f5.length 0) (by simp) (by simp)
  exact ⟨us, by simpa using e1, e2⟩
theorem map_some {α : Type} {a b : List α} (h : a.map some = b.map some) : a = b := by
  induction a generalizing b with
  | nil => cases b with
    | nil => rfl
    | cons y ys => simp at h
  | cons x xs ih => cases b with
    | nil => simp at h
    | cons y ys => simp at h; rw [h.1, ih h.2]
theorem load_w {m : List Int} {h fl a v e : Int} (hv : memory_Memory_Load.f m h fl a = some (v, e)) (hm : ∀ v ∈ m, wfi v) : wfi v := by
  unfold memory_Memory_Load.f at hv
  cases hb : memory_Memory_there.f m h fl a with
  | none => rw [hb] at hv; cases hv
  | some b =>
    rw [hb, Option.bind_some] at hv
    cases b with
    | false => simp at hv; rw [← hv.1]; decide
    | true =>
      cases hy : at? m a with
      | none => simp [hy] at hv
      | some y => simp [hy] at hv; rw [← hv.1]; exact hm y (at_mem hy)
theorem store_w {m m' : List Int} {h fl a v e : Int} (hv : memory_Memory_Store.f m h fl a v = some (e, m')) (hm : ∀ v ∈ m, wfi v) (hw : wfi v) : ∀ v ∈ m', wfi v := by
  unfold memory_Memory_Store.f at hv
  cases hb : memory_Memory_there.f m h fl a with
  | none => rw [hb] at hv; cases hv
  | some b =>
    rw [hb, Option.bind_some] at hv
    cases b with
    | false => simp at hv; rw [← hv.2]; exact hm
    | true =>
      cases hy : at? m a with
      | none => simp [hy] at hv
      | some y =>
        simp [hy] at hv
        rw [← hv.2]
        intro u hu
        rcases List.mem_or_eq_of_mem_set hu with h | rfl
        · exact hm u h
        · exact hw
theorem alloc_w {B fl : Int} {s : Ts} (hI : Iv B fl s) {k v e h' : Int} {m' : List Int} (h0 : 0 ≤ k) (h1 : k ≤ 1048576) (hv : memory_Memory_Alloc.f s.m s.h fl k = some (v, e, m', h')) (hm : ∀ v ∈ s.m, wfi v) : wfi v ∧ ∀ v ∈ m', wfi v := by
  have a1 := hI.h1; have a2 := hI.h2; have a3 := hI.fl1; have a4 := hI.ml
  by_cases hk : fl - s.h < k
  · rw [alloc_no h0 (by omega) a2 a3 hk] at hv
    simp at hv
    obtain ⟨rfl, rfl, rfl, rfl⟩ := hv
    exact ⟨by decide, hm⟩
  · rw [alloc_yes h0 (by omega) a2 a3 a4 hk] at hv
    simp at hv
    obtain ⟨rfl, rfl, rfl, rfl⟩ := hv
    refine ⟨by rw [wfi_iff]; omega, fun u hu => ?_⟩
    unfold clrL at hu
    simp only [List.mem_append] at hu
    rcases hu with (hu | hu) | hu
    · exact hm u (List.mem_of_mem_take hu)
    · rw [List.eq_of_mem_replicate hu]; decide
    · exact hm u (List.mem_of_mem_drop hu)
def CallQ (l m : List S45) (fl : Int) (n : Nat) : Prop := ∀ B s t t' us, Iv B fl s → B ≤ 90000 → t ∈ l → t' ∈ m → fold_Func.f t = some t' → (us.length : Int) = t.f0 → (∀ a ∈ us, wfi a) → Wm s → 3 * (1000 - s.d) + 1 ≤ (n : Int) → ∃ v e s', Cf n l fl s t us = some (tv v e s') ∧ Cf n m fl s t' us = some (tv v e s') ∧ Iv B fl s' ∧ Gs 0 s s' ∧ wfi v ∧ Wm s'
def ValueQ (l m : List S45) (fl : Int) (n : Nat) : Prop := ∀ B s (z z' : Nat) o q r r', Iv B fl s → B ≤ 90000 → Oz z o → Oc l o → Oz z' q → r.length = z + 1 → r'.length = z' + 1 → Ag r r' → Opq r o q → wfi o.f4 → (∀ a ∈ r, wfi a) → Wm s → 3 * (1000 - s.d) + 2 ≤ (n : Int) → ∃ v e s', Vf n l fl s o r = some (tv v e s') ∧ Vf n m fl s q r' = some (tv v e s') ∧ Iv (B + 1) fl s' ∧ Gs 1 s s' ∧ wfi v ∧ Wm s' ∧ (q.f0 = 1 → v = q.f4) ∧ (q.f0 = 3 → at? r q.f2 = some v)
/-- Programs side by side. -/
structure Pq (l m : List S45) : Prop where
  len : l.length ≤ 1000
  wl : Wp l
  wm : Wp m
  fn : ∀ i g, at? l i = some g → ∃ g', at? m i = some g' ∧ fold_Func.f g = some g'
theorem value_q {l m : List S45} {fl : Int} {n : Nat} (hQ : Pq l m) (hc : CallP l fl n) (hR : CallQ l m fl n) : ValueQ l m fl (n + 1) := by
  intro B s z z' o q r r' hI hB ho hoc hq hr hr' hA hO h4 hW hm hn
  have hlr : (r'.length : Int) = z' + 1 := by omega
  obtain ⟨v, e, s', t1, t2, t3⟩ := value_step hc hQ.len B s z o r hI hB ho hoc hr hn
  unfold Opq at hO
  rcases hO with h | ⟨h, y, w, k, e', hy, hw, hd, hkw, hq'⟩ | ⟨h, y, hy, hq'⟩ | ⟨h, h', h44, y, hy, hy'⟩ | ⟨h, h', h44, y, w, hy, hy', hw, hw'⟩ | ⟨h, h', h44⟩ | ⟨h, h', h44, h5⟩ | ⟨h, h'⟩ | ⟨h, h', y, hy, hy'⟩
  · obtain ⟨rfl, rfl, rfl⟩ := tv_inj (t1.symm.trans (v1 h.1))
    exact ⟨_, _, _, v1 h.1, by rw [← h.2.2]; exact v1 h.2.1, t2, t3, h4, hm, fun _ => h.2.2.symm, fun h3 => by omega⟩
  · obtain ⟨rfl, rfl, rfl⟩ := tv_inj (t1.symm.trans (v2 h hy hw hd))
    rcases hq' with ⟨k1, k2, rfl⟩ | ⟨k1, k2, rfl⟩ | ⟨k1, k2, k3, k4⟩
    · exact ⟨_, _, _, t1, by rw [← k2]; exact v1 k1, t2, t3, hkw, hm, fun _ => k2.symm, fun h3 => by omega⟩
    · have hb := oz2 hq (.inr (.inl k1))
      exact ⟨_, _, _, t1, v3 k1 (ag_at hA k2 hb.1 (by omega)), t2, t3, hkw, hm, fun h3 => by omega, fun _ => k2⟩
    · have hb := oz2 hq (.inl k1); have hb' := oz3 hq (.inl k1)
      exact ⟨_, _, _, t1, v2 k1 (ag_at hA k3 hb.1 (by omega)) (ag_at hA k4 hb'.1 (by omega)) (by rw [k2]; exact hd), t2, t3, hkw, hm, fun h3 => by omega, fun h3 => by omega⟩
  · obtain ⟨rfl, rfl, rfl⟩ := tv_inj (t1.symm.trans (v3 h hy))
    have hyw := hW _ (at_mem hy)
    rcases hq' with ⟨k1, k2⟩ | ⟨k1, k2⟩
    · exact ⟨_, _, _, t1, by rw [← k2]; exact v1 k1, t2, t3, hyw, hm, fun _ => k2.symm, fun h3 => by omega⟩
    · have hb := oz2 hq (.inr (.inl k1))
      exact ⟨_, _, _, t1, v3 k1 (ag_at hA k2 hb.1 (by omega)), t2, t3, hyw, hm, fun h3 => by omega, fun _ => k2⟩
  · obtain ⟨x, g, hx⟩ := load_f hI (IntKind.i64.wrap (y + o.f4))
    obtain ⟨rfl, rfl, rfl⟩ := tv_inj (t1.symm.trans (v4 h hy hx))
    have hb := oz2 hq (.inr (.inr (.inl h')))
    exact ⟨_, _, _, t1, v4 h' (ag_at hA hy' hb.1 (by omega)) (by rw [h44]; exact hx), t2, t3, load_w hx hm.m, ⟨hm.m, hm.i⟩, fun h3 => by omega, fun h3 => by omega⟩
  · obtain ⟨g, m', hx, _⟩ := store_f hI (IntKind.i64.wrap (y + o.f4)) w
    obtain ⟨rfl, rfl, rfl⟩ := tv_inj (t1.symm.trans (v5 h hy hw hx))
    have hb := oz2 hq (.inr (.inr (.inr (.inl h')))); have hb' := oz3 hq (.inr h')
    exact ⟨_, _, _, t1, v5 h' (ag_at hA hy' hb.1 (by omega)) (ag_at hA hw' hb'.1 (by omega)) (by rw [h44]; exact hx), t2, t3, (by decide : wfi 0), ⟨store_w hx hm.m (hW _ (at_mem hw)), hm.i⟩, fun h3 => by omega, fun h3 => by omega⟩
  · obtain ⟨k0, k1⟩ := hoc.new h
    obtain ⟨x, g, m', h'', hx, _⟩ := alloc_f hI k0 k1
    obtain ⟨rfl, rfl, rfl⟩ := tv_inj (t1.symm.trans (v6 h hx))
    obtain ⟨w1, w2⟩ := alloc_w hI k0 k1 hx hm.m
    refine ⟨_, _, _, t1, ?_, t2, t3, w1, ⟨w2, hm.i⟩, fun h3 => by omega, fun h3 => by omega⟩
    have := v6 (n := n) (l := m) (s := s) (o := q) (r := r') h' (by rw [h44]; exact hx)
    rw [h44] at this
    exact this
  · obtain ⟨us, a1, a2⟩ := args_at ho h hr
    obtain ⟨us', b1, b2⟩ := args_at hq h' hr'
    have hlen : q.f5.length = o.f5.length := by have := congrArg List.length h5; simpa using this
    have huu : us' = us := by
      refine map_some ?_
      rw [← b2, ← a2, ← h5]
      refine List.map_congr_left (fun a ha => ?_)
      have hb := oz5 hq h' a ha
      obtain ⟨y', hy'⟩ : ∃ y', at? r a = some y' := by
        have : at? r a ∈ us.map some := by rw [← a2, ← h5]; exact List.mem_map_of_mem ha
        obtain ⟨y', _, hy'⟩ := List.mem_map.1 this
        exact ⟨y', hy'.symm⟩
      rw [hy', ag_at hA hy' hb.1 (by omega)]
    subst huu
    have hul : us'.length = o.f5.length := by have := congrArg List.length a2; simpa using this.symm
    have huw : ∀ a ∈ us', wfi a := fun a ha => by
      have : some a ∈ o.f5.map (at? r) := by rw [a2]; exact List.mem_map_of_mem ha
      obtain ⟨c, _, hc⟩ := List.mem_map.1 this
      exact hW a (at_mem hc)
    obtain ⟨g, g1, g2⟩ := hoc.call h
    obtain ⟨g', g3, g4⟩ := hQ.fn _ _ g1
    obtain ⟨x, y, s1, c1, c2, c3, c4, c5, c6⟩ := hR B s g g' us' hI hB (at_mem g1) (at_mem g3) g4 (by omega) huw hm (by omega)
    obtain ⟨rfl, rfl, rfl⟩ := tv_inj (t1.symm.trans (v7 h ho.args a1 g1 c1))
    exact ⟨_, _, _, t1, v7 h' hq.args b1 (by rw [h44]; exact g3) c2, t2, t3, c5, c6, fun h3 => by omega, fun h3 => by omega⟩
  · by_cases hi : (s.i.length : Int) = 0
    · obtain ⟨rfl, rfl, rfl⟩ := tv_inj (t1.symm.trans (v8 h hi))
      exact ⟨_, _, _, t1, v8 h' hi, t2, t3, (by decide : wfi 0), hm, fun h3 => by omega, fun h3 => by omega⟩
    · obtain ⟨y, hy⟩ := at_ok (r := s.i) (i := 0) (by omega) (by omega)
      obtain ⟨u, hu⟩ : ∃ u, cut? s.i (1 : Int) (s.i.length : Int) = some u := by unfold cut?; exact ⟨_, if_pos (by omega)⟩
      obtain ⟨rfl, rfl, rfl⟩ := tv_inj (t1.symm.trans (v8' h hi hy hu))
      refine ⟨_, _, _, t1, v8' h' hi hy hu, t2, t3, hm.i _ (at_mem hy), ⟨hm.m, fun a ha => ?_⟩, fun h3 => by omega, fun h3 => by omega⟩
      unfold cut? at hu
      rw [if_pos (by omega)] at hu
      obtain rfl := Option.some.inj hu
      exact hm.i a (List.mem_of_mem_take (List.mem_of_mem_drop ha))
  · have hsl : s.o.length < 17592186044416 := by have := hI.pot; have := hI.ld0; have := hI.st0; have := hI.f0; omega
    obtain ⟨rfl, rfl, rfl⟩ := tv_inj (t1.symm.trans (v9 h hy hsl))
    have hb := oz2 hq (.inr (.inr (.inr (.inr h'))))
    exact ⟨_, _, _, t1, v9 h' (ag_at hA hy' hb.1 (by omega)) hsl, t2, t3, (by decide : wfi 0), ⟨hm.m, hm.i⟩, fun h3 => by omega, fun h3 => by omega⟩
def BlockQ (l m : List S45) (fl : Int) (n : Nat) : Prop := ∀ B s (z z' : Nat) b b' r r' num cop, Iv B fl s → B ≤ 90000 → b.f0.length ≤ 250 → (∀ o ∈ b.f0, Oz z o ∧ Oc l o) → (∀ o ∈ b'.f0, Oz z' o) → FB mnil mnil b.f0 b'.f0 num cop → b'.f0.length = b.f0.length → r.length = z + 1 → r'.length = z' + 1 → Ag r r' → (∀ a ∈ r, wfi a) → Wm s → 3 * (1000 - s.d) + 3 ≤ (n : Int) → ∃ e s' r1 r2, Bf n l fl s b r = some (tb e s' r1) ∧ Bf n m fl s b' r' = some (tb e s' r2) ∧ Iv B fl s' ∧ Gs 0 s s' ∧ r1.length = z + 1 ∧ r2.length = z' + 1 ∧ Wm s' ∧ (e = 0 → s'.f < s.f ∧ Ag r1 r2 ∧ Kr r1 num cop ∧ (∀ a ∈ r1, wfi a))
theorem blks_q {l m : List S45} {fl : Int} {n : Nat} (hV : ValueQ l m fl n) {B d : Int} {z z' : Nat} {b b' : S42} {num' cop' : MpS} (hB : B ≤ 90000) (hb : ∀ o ∈ b.f0, Oz z o ∧ Oc l o) (hb' : ∀ o ∈ b'.f0, Oz z' o) (hbl : b.f0.length ≤ 250) (hn : 3 * (1000 - d) + 2 ≤ (n : Int)) :
    ∀ (os qs : List S37) (N i : Nat) (num cop : MpS) (s : Ts) (r r' : List Int), b.f0.drop i = os → b'.f0.drop i = qs → FB num cop os qs num' cop' → os.length < N → Iv B fl s → s.d = d → r.length = z + 1 → r'.length = z' + 1 → Ag r r' → Kr r num cop → (∀ a ∈ r, wfi a) → Wm s →
      (∃ e s' r1 r2, ¬ e = 0 ∧ Bl n l fl b N i s r = some (.inl (tb e s' r1)) ∧ Bl n m fl b' N i s r' = some (.inl (tb e s' r2)) ∧ Iv B fl s' ∧ Gs 0 s s' ∧ r1.length = z + 1 ∧ r2.length = z' + 1 ∧ Wm s') ∨
      (∃ s' r1 r2, Bl n l fl b N i s r = some (.inr (tr s' r1)) ∧ Bl n m fl b' N i s r' = some (.inr (tr s' r2)) ∧ Iv B fl s' ∧ Gs 0 s s' ∧ r1.length = z + 1 ∧ r2.length = z' + 1 ∧ Wm s' ∧ Ag r1 r2 ∧ Kr r1 num' cop' ∧ (∀ a ∈ r1, wfi a)) := by
  intro os
  induction os with
  | nil =>
    intro qs N i num cop s r r' hd hd' hF hN hI hsd hr hr' hA hK hW hm
    cases qs with
    | cons q qs => exact hF.elim
    | nil =>
      obtain ⟨rfl, rfl⟩ := hF
      obtain ⟨N, rfl⟩ : ∃ k, N = k + 1 := ⟨N - 1, by simp at hN; omega⟩
      refine .inr ⟨s, r, r', ?_, ?_, hI, Gs.refl s (by omega), hr, hr', hm, hA, hK, hW⟩
      · show trace_runner_block.l0 (trace_runner_call.fix n).2.2 l fl 0 b (N + 1) r i s.i s.f s.d s.o s.ld s.st s.c s.m s.h = _
        rw [trace_runner_block.l0, if_neg (drop_nil hd)]
      · show trace_runner_block.l0 (trace_runner_call.fix n).2.2 m fl 0 b' (N + 1) r' i s.i s.f s.d s.o s.ld s.st s.c s.m s.h = _
        rw [trace_runner_block.l0, if_neg (drop_nil hd')]
  | cons o os ih =>
    intro qs N i num cop s r r' hd hd' hF hN hI hsd hr hr' hA hK hW hm
    cases qs with
    | nil => exact hF.elim
    | cons q qs =>
      obtain ⟨p, zz, ⟨k, hk⟩, hok, h4, p1, q1, hR, z1, hF'⟩ := hF
      obtain ⟨N, rfl⟩ : ∃ k, N = k + 1 := ⟨N - 1, by simp at hN; omega⟩
      obtain ⟨hlt, hat, hd2, hmem⟩ := drop_cons hd
      obtain ⟨hlt', hat', hd2', hmem'⟩ := drop_cons hd'
      obtain ⟨ho, hoc⟩ := hb o hmem
      have hq := hb' q hmem'
      have hw : IntKind.i64.wrap ((i : Int) + 1) = (i : Int) + 1 := by rw [w64 (by omega) (by omega)]
      by_cases hf : s.f < 1
      · exact .inl ⟨12, s, r, r', by decide, b_lo hlt hat hf, b_lo hlt' hat' hf, hI, Gs.refl s (by omega), hr, hr', hm⟩
      · have hf1 : s.f ≤ 100000 := by have := hI.fB; omega
        have hO : Opq r o q := opq hk hK hW ho hr hok p1 q1
        obtain ⟨v, e, s', t1, t2, t3, t4, t5, t6, t7, t8⟩ := hV (B - 1) (less s) z z' o q r r' (hI.less hf) (by omega) ho hoc hq hr hr' hA hO h4 hW ⟨hm.m, hm.i⟩ (by show 3 * (1000 - s.d) + 2 ≤ (n : Int); omega)
        have hI' : Iv B fl s' := by have := t3; rwa [Int.sub_add_cancel] at this
        have hG : Gs 0 s s' := (Gs.less s).trans t4
        by_cases he : e = 0
        · subst he
          have h0 := dst0 ho.ro
          have h1 := ho.dst
          have hdst := hR.dst
          have hq1 := hq.dst
          have hlr : (r.length : Int) = z + 1 := by omega
          have hlr' : (r'.length : Int) = z' + 1 := by omega
          have g1 := b_go (n := n) (l := l) (fl := fl) (b := b) (N := N) hlt hat hw hf hf1 t1 h0 (by omega)
          have g2 := b_go (n := n) (l := m) (fl := fl) (b := b') (N := N) hlt' hat' hw hf hf1 t2 (by omega) (by omega)
          have hKr := learn_kr (v := v) hk hK hR.ok (by omega) t7 t8 z1
          rw [hdst] at hKr g2
          have c1 : (i : Int) + 1 = ((i + 1 : Nat) : Int) := by omega
          have hlen1 : (if o.f1 = 0 then r else r.set o.f1.toNat v).length = z + 1 := by split <;> simp [hr]
          have hlen2 : (if o.f1 = 0 then r' else r'.set o.f1.toNat v).length = z' + 1 := by split <;> simp [hr']
          have hA2 : Ag (if o.f1 = 0 then r else r.set o.f1.toNat v) (if o.f1 = 0 then r' else r'.set o.f1.toNat v) := by
            by_cases h : o.f1 = 0
            · rw [if_pos h, if_pos h]; exact hA
            · rw [if_neg h, if_neg h]; exact ag_set hA h0 (by omega) (by omega)
          have hW2 : ∀ a ∈ (if o.f1 = 0 then r else r.set o.f1.toNat v), wfi a := by
            by_cases h : o.f1 = 0
            · rw [if_pos h]; exact hW
            · rw [if_neg h]; intro a ha
              rcases List.mem_or_eq_of_mem_set ha with h' | rfl
              · exact hW a h'
              · exact t5
          have hrec := ih qs N (i + 1) zz.1 zz.2 s' _ _ hd2 hd2' hF' (by simp at hN; omega) hI' (hG.d.trans hsd) hlen1 hlen2 hA2 hKr hW2 t6
          rw [c1] at g1 g2
          rw [g1, g2]
          rcases hrec with ⟨e, s2, r1, r2, q0, q1, q2, q3, q4, q5, q6, q7⟩ | ⟨s2, r1, r2, q1, q2, q3, q4, q5⟩
          · exact .inl ⟨e, s2, r1, r2, q0, q1, q2, q3, hG.trans q4, q5, q6, q7⟩
          · exact .inr ⟨s2, r1, r2, q1, q2, q3, hG.trans q4, q5⟩
        · exact .inl ⟨e, s', r, r', he, b_hi hlt hat hf hf1 t1 he, b_hi hlt' hat' hf hf1 t2 he, hI', hG, hr, hr', t6⟩
theorem block_q {l m : List S45} {fl : Int} {n : Nat} (hV : ValueQ l m fl n) : BlockQ l m fl (n + 1) := by
  intro B s z z' b b' r r' num cop hI hB hbl hb hb' hF hlen hr hr' hA hW hm hn
  rcases blks_q hV (d := s.d) hB hb hb' hbl (by omega) b.f0 b'.f0 (b.f0.length + 1) 0 mnil mnil s r r' (by simp) (by simp) hF (by omega) hI rfl hr hr' hA (kr_nil r) hW hm with ⟨e, s', r1, r2, q0, q1, q2, q3, q4, q5, q6, q7⟩ | ⟨s', r1, r2, q1, q2, q3, q4, q5, q6, q7, q8, q9, q10⟩
  · rw [← hlen] at q2
    exact ⟨e, s', r1, r2, bf_l q1, bf_l q2, q3, q4, q5, q6, q7, fun h => absurd h q0⟩
  · rw [← hlen] at q2
    by_cases hf : s'.f < 1
    · exact ⟨12, s', r1, r2, bf_lo q1 hf, bf_lo q2 hf, q3, q4, q5, q6, q7, fun h => absurd h (by decide)⟩
    · have hf1 : s'.f ≤ 100000 := by have := q3.fB; omega
      have hl := q3.less hf
      exact ⟨0, less s', r1, r2, bf_hi q1 hf hf1, bf_hi q2 hf hf1, { hl with pot := by have := hl.pot; omega }, { (q4.trans (Gs.less s')) with pot := by have := (q4.trans (Gs.less s')).pot; omega }, q5, q6, ⟨q7.m, q7.i⟩, fun _ => ⟨by have := q4.f; show s'.f - 1 < s.f; omega, q8, q9, q10⟩⟩
/-- Where a block's end leads. -/
def Tm (t : S40) (r : List Int) : Option (Int ⊕ (Int × Int)) := if t.f0 = 3 then (at? r t.f1).bind fun v => some (.inr (v, 0)) else if t.f0 = 4 then some (.inr (0, t.f2)) else if t.f0 = 1 then some (.inl t.f2) else (at? r t.f1).bind fun v => some (.inl (if v = 0 then t.f3 else t.f2))
theorem kl_tm {n : Nat} {l : List S45} {fl : Int} {t : S45} {y : S42} {N : Nat} {x : Int} {s s' : Ts} {r r' : List Int} (hy : at? t.f1 x = some y) (hb : Bf n l fl s y r = some (tb 0 s' r')) : Kl n l fl t (N + 1) x s r = (Tm y.f1 r').bind fun | .inl x' => Kl n l fl t N x' s' r' | .inr q => some (tv q.1 q.2 (back s')) := by
  show trace_runner_call.l0 (trace_runner_call.fix n).2.1 l fl 0 t (N + 1) r x s.i s.f s.d s.o s.ld s.st s.c s.m s.h = _
  have q1' : (trace_runner_call.fix n).2.1 l s.m s.h fl s.i s.f s.d s.o 0 s.ld s.st s.c y r = some (tb 0 s' r') := hb
  rw [trace_runner_call.l0, hy, Option.bind_some, q1', Option.bind_some]
  simp only [jn]
  rw [if_neg (show ¬ (!decide True) = true by decide)]
  unfold Tm
  by_cases h3 : y.f1.f0 = 3
  · rw [if_pos h3, if_pos h3]
    cases at? r' y.f1.f1 <;> rfl
  · rw [if_neg h3, if_neg h3]
    by_cases h4 : y.f1.f0 = 4
    · rw [if_pos h4, if_pos h4]; rfl
    · rw [if_neg h4, if_neg h4]
      by_cases h1 : y.f1.f0 = 1
      · rw [if_pos h1, if_pos h1, if_pos trivial]; rfl
      · rw [if_neg h1, if_neg h1]
        cases hq : at? r' y.f1.f1 with
        | none => rfl
        | some v =>
          rw [Option.bind_some, Option.bind_some]
          by_cases hv : v = 0
          · rw [if_neg (by simp [hv]), if_pos hv]; rfl
          · rw [if_pos (by simp [hv]), if_neg hv]; rfl
theorem term_tm {k n : Nat} {num cop : MpS} (h : Kn k num cop) {t t' : S40} {r r' : List Int} (hK : Kr r num cop) (hA : Ag r r') (ht : okTerm t n = true) (hz : (t.f0 = 2 ∨ t.f0 = 3) → t.f1 < (r.length : Int)) (hz' : (t'.f0 = 2 ∨ t'.f0 = 3) → 0 ≤ t'.f1 ∧ t'.f1 < (r'.length : Int)) (hq : fold_facts_term.f num cop t = some t') : Tm t r = Tm t' r' := by
  unfold okTerm at ht
  by_cases e2 : t.f0 = 2
  · simp [e2] at ht
    obtain ⟨a, a1, a2⟩ := held_f h (r := t.f1) (by omega)
    have a3 := held_r hK a1
    have hw := rg_wf a2
    obtain ⟨y, hy⟩ := at_ok (r := r) (i := t.f1) (by omega) (hz (.inl e2))
    unfold fold_facts_term.f code_TermUses.f at hq
    simp only [jn] at hq
    simp only [e2, if_true, Option.bind_some, List.length_singleton, a1] at hq
    cases hm : num.2 a with
    | none =>
      simp [hw, mhas, hm] at hq
      first | subst hq | (obtain ⟨_, rfl⟩ := hq)
      have hr := hz' (.inl rfl)
      have := ag_at hA (a3.trans hy) hr.1 hr.2
      unfold Tm
      simp [e2, hy, this]
    | some v =>
      have hv := hK.nu a v hm
      rw [a3, hy] at hv
      obtain rfl := Option.some.inj hv
      by_cases hz0 : y = 0
      · simp [hw, mhas, mget, hm, hz0] at hq
        first | subst hq | (obtain ⟨_, rfl⟩ := hq)
        unfold Tm
        simp [e2, hy, hz0]
      · simp [hw, mhas, mget, hm, hz0] at hq
        first | subst hq | (obtain ⟨_, rfl⟩ := hq)
        unfold Tm
        simp [e2, hy, hz0]
  · by_cases e3 : t.f0 = 3
    · simp [e3] at ht
      obtain ⟨a, a1, a2⟩ := held_f h (r := t.f1) (by omega)
      have a3 := held_r hK a1
      obtain ⟨y, hy⟩ := at_ok (r := r) (i := t.f1) (by omega) (hz (.inr e3))
      unfold fold_facts_term.f code_TermUses.f at hq
      simp only [jn] at hq
      simp [e3, a1, rg_wf a2] at hq
      first | subst hq | (obtain ⟨_, rfl⟩ := hq)
      have hr := hz' (.inr rfl)
      have := ag_at hA (a3.trans hy) hr.1 hr.2
      unfold Tm
      simp [e3, hy, this]
    · have hk : t.f0 = 1 ∨ t.f0 = 4 := by
        by_cases k1 : t.f0 = 1
        · exact .inl k1
        · by_cases k4 : t.f0 = 4
          · exact .inr k4
          · simp [k1, e2, e3, k4] at ht
      unfold fold_facts_term.f code_TermUses.f at hq
      simp only [jn] at hq
      have : t' = t := by
        simp [e2, e3] at hq
        exact hq.2.symm
      subst this
      unfold Tm
      rcases hk with h | h <;> simp [h]
/-- A function's blocks beside the folded ones. -/
structure Pb (t t' : S45) (b b' : S42) : Prop where
  len : b'.f0.length = b.f0.length
  ex : ∃ k num cop, FB mnil mnil b.f0 b'.f0 num cop ∧ Kn k num cop ∧ fold_facts_term.f num cop b.f1 = some b'.f1
theorem func_fb {f q : S45} (hf : Fewp f) (hb : ∀ b ∈ f.f1, Bo b.f0) (ht : ∀ b ∈ f.f1, okTerm b.f1 f.f1.length = true) (hq : fold_Func.f f = some q) : q.f0 = f.f0 ∧ q.f1.length = f.f1.length ∧ ∀ i b, at? f.f1 i = some b → ∃ b', at? q.f1 i = some b' ∧ Pb f q b b' := by
  obtain ⟨f1, f2, f3⟩ := hf
  have hc : slices_Clone_api_Block_api_Block.f f.f1 = some f.f1 := by unfold slices_Clone_api_Block_api_Block.f; rw [if_pos (by simp; omega)]; simp
  have := loopd (xs := f.f1) (F := fun n i w => fold_Func.l0 f.f1 n w i) (P := fun bs g => ∀ pre : List S42, pre.length + bs.length = f.f1.length → ∃ r, g (pre ++ bs) = some (pre ++ r) ∧ r.length = bs.length ∧ ∀ (j : Nat) (b : S42), bs[j]? = some b → ∃ b', r[j]? = some b' ∧ Pb f q b b') (by omega)
    (fun n pre h => ⟨[], by simp [fold_Func.l0], rfl, fun j b hj => by simp at hj⟩)
    (fun n i b bs hd hlt hat hm hw ih pre h => by
      obtain ⟨y, y1, y2, y3⟩ := block_fb (f3 b hm).1 (hb b hm) (n := f.f1.length) (by omega) (ht b hm)
      have hi : pre.length = i := by
        have := congrArg List.length hd
        rw [List.length_drop] at this
        simp only [List.length_cons] at this h
        omega
      have hg : at? (pre ++ b :: bs) (i : Int) = some b := by
        unfold at?; rw [if_pos (by omega), Int.toNat_natCast, ← hi]; simp
      obtain ⟨r, r1, r2, r3⟩ := ih (pre ++ [y]) (by simp at h ⊢; omega)
      refine ⟨y :: r, ?_, by simp [r2], fun j b2 hj => ?_⟩
      · show fold_Func.l0 f.f1 (n + 1) (pre ++ b :: bs) i = _
        rw [fold_Func.l0, if_pos hlt, hg, Option.bind_some, y1, Option.bind_some, Option.bind_some, Int.toNat_natCast, hw]
        have hset : (pre ++ b :: bs).set i y = pre ++ [y] ++ bs := by rw [← hi]; simp
        rw [hset]
        have r1' : fold_Func.l0 f.f1 n (pre ++ [y] ++ bs) ((i + 1 : Nat) : Int) = _ := r1
        rw [r1']; simp
      · cases j with
        | zero => simp at hj; subst hj; exact ⟨y, rfl, ⟨y2, y3⟩⟩
        | succ j => exact r3 j b2 (by simpa using hj)) (f.f1.length + 1) (by omega)
  obtain ⟨r, r1, r2, r3⟩ := this [] (by simp)
  unfold fold_Func.f at hq
  have r1' : fold_Func.l0 f.f1 (f.f1.length + 1) f.f1 0 = some r := by simpa using r1
  rw [hc, Option.bind_some, r1', Option.bind_some] at hq
  obtain rfl := Option.some.inj hq
  refine ⟨rfl, r2, fun i b hb => ?_⟩
  have h0 : 0 ≤ i := by
    unfold at? at hb
    split at hb
    · assumption
    · cases hb
  have e : ((i.toNat : Nat) : Int) = i := by omega
  rw [← e] at hb ⊢
  obtain ⟨b', b1, b2⟩ := r3 _ b (at_nat.1 hb)
  exact ⟨b', at_nat.2 b1, b2⟩
theorem calls_q {l m : List S45} {fl : Int} {n : Nat} (hR : BlockQ l m fl n) {B d : Int} {z z' : Nat} {t t' : S45} (hB : B ≤ 90000) (ht : Fz z t) (ht' : Fz z' t') (hop : ∀ y ∈ t.f1, y.f0.length ≤ 250 ∧ ∀ o ∈ y.f0, Oc l o) (hok : ∀ y ∈ t.f1, okTerm y.f1 t.f1.length = true) (hpb : ∀ i b, at? t.f1 i = some b → ∃ b', at? t'.f1 i = some b' ∧ Pb t t' b b') (hn : 3 * (1000 - d) + 3 ≤ (n : Int)) :
    ∀ (N : Nat) (s : Ts) (r r' : List Int) (x : Int), Iv B fl s → s.d = d → r.length = z + 1 → r'.length = z' + 1 → Ag r r' → (∀ a ∈ r, wfi a) → Wm s → 0 ≤ x → x < (t.f1.length : Int) → s.f < (N : Int) → ∃ v e s', Kl n l fl t N x s r = some (tv v e (back s')) ∧ Kl n m fl t' N x s r' = some (tv v e (back s')) ∧ Iv B fl s' ∧ Gs 0 s s' ∧ wfi v ∧ Wm s' := by
  intro N
  induction N with
  | zero => intro s r r' x hI hd hr hr' hA hW hm hx0 hx1 hN; have := hI.f0; omega
  | succ N ih =>
    intro s r r' x hI hd hr hr' hA hW hm hx0 hx1 hN
    obtain ⟨y, hy⟩ := at_ok (r := t.f1) hx0 hx1
    have hmem := at_mem hy
    obtain ⟨k1, k2⟩ := hop y hmem
    obtain ⟨y', hy', hP⟩ := hpb x y hy
    obtain ⟨k, num, cop, hF, hk, hterm⟩ := hP.ex
    have hmem' := at_mem hy'
    obtain ⟨e, s', r1, r2, q1, q2, q3, q4, q5, q6, q7, q8⟩ := hR B s z z' y y' r r' num cop hI hB k1 (fun o ho => ⟨ht.op y hmem o ho, k2 o ho⟩) (fun o ho => ht'.op y' hmem' o ho) hF hP.len hr hr' hA hW hm (by omega)
    obtain ⟨hrt, hz⟩ := ht.term y hmem
    obtain ⟨hrt', hz'⟩ := ht'.term y' hmem'
    by_cases he : e = 0
    · subst he
      obtain ⟨g1, g2, g3, g4⟩ := q8 rfl
      have hlr : (r1.length : Int) = z + 1 := by omega
      have hlr' : (r2.length : Int) = z' + 1 := by omega
      have hT : Tm y.f1 r1 = Tm y'.f1 r2 := term_tm hk g3 g2 (hok y hmem) (fun h => by have := hz h; omega) (fun h => by
        have := hz' h
        unfold Rt at hrt'
        refine ⟨?_, by omega⟩
        rcases hrt' with h' | h' | h' | h'
        · omega
        · have := h'.2.2.2.2.2.1; omega
        · have := h'.2.1.1; omega
        · omega) hterm
      rw [kl_tm hy q1, kl_tm hy' q2, ← hT]
      have hcase : (∃ x', 0 ≤ x' ∧ x' < (t.f1.length : Int) ∧ Tm y.f1 r1 = some (.inl x')) ∨ (∃ v e, wfi v ∧ Tm y.f1 r1 = some (.inr (v, e))) := by
        unfold Tm
        unfold Rt at hrt
        rcases hrt with h | h | h | h
        · exact .inl ⟨y.f1.f2, by omega, by omega, by simp [h.1]⟩
        · obtain ⟨u, hu⟩ := at_ok (r := r1) (i := y.f1.f1) (by have := h.2.2.2.2.2.1; omega) (by have := hz (.inl h.1); omega)
          refine .inl ⟨if u = 0 then y.f1.f3 else y.f1.f2, by split <;> omega, by split <;> omega, by simp [h.1, hu]⟩
        · obtain ⟨u, hu⟩ := at_ok (r := r1) (i := y.f1.f1) (by have := h.2.1.1; omega) (by have := hz (.inr h.1); omega)
          exact .inr ⟨u, 0, g4 _ (at_mem hu), by simp [h.1, hu]⟩
        · exact .inr ⟨0, y.f1.f2, by decide, by simp [h.1]⟩
      rcases hcase with ⟨x', c0, c1, c2⟩ | ⟨v, e, c0, c1⟩
      · rw [c2]
        obtain ⟨v, e, s2, w1, w2, w3, w4, w5⟩ := ih s' r1 r2 x' q3 (q4.d.trans hd) q5 q6 g2 g4 q7 c0 c1 (by omega)
        exact ⟨v, e, s2, w1, w2, w3, q4.trans w4, w5⟩
      · rw [c1]
        exact ⟨v, e, s', rfl, rfl, q3, q4, c0, q7⟩
    · exact ⟨0, e, s', c_err hy q1 he, c_err hy' q2 he, q3, q4, by decide, q7⟩
theorem rg_at {z : Nat} {us : List Int} {g v : Int} (h : at? (rg z us) g = some v) : 0 ≤ g ∧ v = if 1 ≤ g then us[g.toNat - 1]?.getD 0 else 0 := by
  have hg : 0 ≤ g := by
    unfold at? at h
    split at h
    · assumption
    · cases h
  refine ⟨hg, ?_⟩
  have hlt : g.toNat < z + 1 := by
    have := (List.getElem?_eq_some_iff.1 (show (rg z us)[g.toNat]? = some v by unfold at? at h; rwa [if_pos hg] at h)).1
    rwa [rg_len] at this
  unfold at? rg cpyL at h
  rw [if_pos hg] at h
  by_cases h0 : 1 ≤ g
  · rw [if_pos h0]
    by_cases h1 : g.toNat - 1 < us.length
    · rw [List.getElem?_append_left (by simp; omega), List.getElem?_append_right (by simp; omega), List.getElem?_take_of_lt (by simp; omega)] at h
      have e : g.toNat - (List.take (1 : Int).toNat (List.replicate ((z : Int) + 1).toNat (0 : Int))).length = g.toNat - 1 := by simp
      rw [e] at h
      rw [h]; rfl
    · rw [List.getElem?_append_right (by simp; omega), List.getElem?_drop, List.getElem?_replicate] at h
      rw [List.getElem?_eq_none (by omega)]
      split at h
      · exact (Option.some.inj h).symm
      · cases h
  · obtain rfl : g = 0 := by omega
    rw [if_neg h0]
    rw [List.getElem?_append_left (by simp), List.getElem?_append_left (by simp), List.getElem?_take_of_lt (by simp), List.getElem?_replicate] at h
    split at h
    · exact (Option.some.inj h).symm
    · cases h
theorem ag_rg (z z' : Nat) (us : List Int) : Ag (rg z us) (rg z' us) := fun g v v' h h' => by
  rw [(rg_at h).2, (rg_at h').2]
theorem rg_wfi (z : Nat) {us : List Int} (h : ∀ a ∈ us, wfi a) : ∀ a ∈ rg z us, wfi a := by
  intro a ha
  unfold rg cpyL at ha
  simp only [List.mem_append] at ha
  rcases ha with (ha | ha) | ha
  · rw [List.eq_of_mem_replicate (List.mem_of_mem_take ha)]; decide
  · exact h a (List.mem_of_mem_take ha)
  · rw [List.eq_of_mem_replicate (List.mem_of_mem_drop ha)]; decide
/-- What is known of the unfolded functions. -/
def Bk (l : List S45) : Prop := ∀ t ∈ l, Fewp t ∧ (∀ b ∈ t.f1, Bo b.f0) ∧ ∀ b ∈ t.f1, okTerm b.f1 t.f1.length = true
theorem call_q {l m : List S45} {fl : Int} {n : Nat} (hQ : Pq l m) (hK : Bk l) (hR : BlockQ l m fl n) : CallQ l m fl (n + 1) := by
  intro B s t t' us hI hB ht ht' hF hl hus hm hn
  have hd0 := hI.d0
  have hd1 := hI.d1
  by_cases hd : 1000 ≤ s.d
  · exact ⟨0, 8, s, cf_hi hd, cf_hi hd, hI, Gs.refl s (by omega), by decide, hm⟩
  · obtain ⟨z, hz⟩ := hQ.wl.fn t ht
    obtain ⟨z', hz'⟩ := hQ.wm.fn t' ht'
    obtain ⟨k1, k2, k3⟩ := hK t ht
    obtain ⟨g1, g2, g3⟩ := func_fb k1 k2 k3 hF
    have hz1 := hz.rf.l1
    have hI1 : Iv B fl { s with d := s.d + 1 } := { hI with d0 := by show 0 ≤ s.d + 1; omega, d1 := by show s.d + 1 ≤ 1000; omega }
    obtain ⟨v, e, s', q1, q2, q3, q4, q5, q6⟩ := calls_q hR (d := s.d + 1) hB hz hz' (hQ.wl.op t ht) k3 g3 (by omega) 100000 { s with d := s.d + 1 } (rg z us) (rg z' us) 0 hI1 rfl (rg_len z us) (rg_len z' us) (ag_rg z z' us) (rg_wfi z hus) ⟨hm.m, hm.i⟩ (by omega) (by omega) (by have := hI.fB; show s.f < _; omega)
    have hd2 : s'.d = s.d + 1 := q4.d
    have hd3 : IntKind.i64.wrap (s'.d - 1) = s.d := by rw [hd2, w64 (by omega) (by omega)]; omega
    exact ⟨v, e, back s', cf_lo hd0 hd hz q1, cf_lo hd0 hd hz' q2, { q3 with d0 := by show 0 ≤ IntKind.i64.wrap (s'.d - 1); omega, d1 := by show IntKind.i64.wrap (s'.d - 1) ≤ 1000; omega }, { q4 with d := hd3 }, q5, ⟨q6.m, q6.i⟩⟩
theorem simul_q {l m : List S45} {fl : Int} (hQ : Pq l m) (hK : Bk l) : ∀ n, CallQ l m fl n ∧ BlockQ l m fl n ∧ ValueQ l m fl n := by
  intro n
  induction n with
  | zero => exact ⟨fun B s t t' us hI _ _ _ _ _ _ _ hn => by have := hI.d1; omega, fun B s z z' b b' r r' num cop hI _ _ _ _ _ _ _ _ _ _ _ hn => by have := hI.d1; omega, fun B s z z' o q r r' hI _ _ _ _ _ _ _ _ _ _ _ hn => by have := hI.d1; omega⟩
  | succ n ih =>
    have t1 := total (fl := fl) hQ.wl hQ.len n
    exact ⟨call_q hQ hK ih.2.1, block_q ih.2.2, value_q hQ t1.1 ih.1⟩
/-! #### A folded function is as few -/
theorem block_v {b : S42} (hl : b.f0.length ≤ 250) (hb : ∀ o ∈ b.f0, Wo o) (ht : wfi b.f1.f1) : ∃ q, fold_Block.f b = some q ∧ q.f0.length = b.f0.length ∧ ∀ o ∈ q.f0, o.f5.length ≤ 20 := by
  have := loopd (xs := b.f0) (F := fun n i acc num cop => fold_Block.l0 b n i acc num cop) (P := fun os f => ∀ (k : Nat) (acc : List S37) (num cop : MpS), Kw k num cop → k + os.length ≤ 900 → acc.length + os.length ≤ 900 → ∃ l num' cop' k', f acc num cop = some (acc ++ l, num', cop') ∧ Kw k' num' cop' ∧ l.length = os.length ∧ ∀ o ∈ l, o.f5.length ≤ 20) (by omega)
    (fun n k acc num cop h _ _ => ⟨[], num, cop, k, by simp [fold_Block.l0], h, rfl, by simp⟩)
    (fun n i o os hd hlt hat hm hw ih k acc num cop h h1 h2 => by
      simp only [List.length_cons] at h1 h2
      obtain ⟨p, p1, p2⟩ := repl_w h (hb o hm)
      obtain ⟨q, q1, q2⟩ := op_w h.nv p2
      obtain ⟨z, z1, z2⟩ := learn_w h (by omega) q2
      obtain ⟨l, num', cop', k', e1, e2, e3, e4⟩ := ih (k + 1) (acc ++ [q]) z.1 z.2 z2 (by omega) (by simp; omega)
      refine ⟨q :: l, num', cop', k', ?_, e2, by simp [e3], fun o' ho' => ?_⟩
      · show fold_Block.l0 b (n + 1) i acc num cop = _
        rw [fold_Block.l0, if_pos hlt, hat, Option.bind_some, p1, Option.bind_some, q1, Option.bind_some, z1, Option.bind_some, if_pos (by omega), hw]
        have e1' : fold_Block.l0 b n ((i + 1 : Nat) : Int) (acc ++ [q]) z.1 z.2 = _ := e1
        rw [e1']; simp
      · rcases List.mem_cons.1 ho' with rfl | ho'
        · exact q2.len
        · exact e4 o' ho') (b.f0.length + 1) (by omega)
  obtain ⟨l, num, cop, k, e1, e2, e3, e4⟩ := this 0 [] mnil mnil ⟨Nat.le_refl _, Nat.le_refl _, (fun r v hv => by cases hv), (fun r v hv => by cases hv)⟩ (by omega) (by simp; omega)
  obtain ⟨t, t1⟩ := term_w e2 ht
  have e1' : fold_Block.l0 b (b.f0.length + 1) 0 [] mnil mnil = _ := e1
  unfold fold_Block.f
  rw [e1', Option.bind_some]
  simp only [List.nil_append]
  rw [t1, Option.bind_some]
  exact ⟨_, rfl, e3, e4⟩
theorem func_v {f q : S45} (hf : Fewp f) (h : ok45 f) (hq : fold_Func.f f = some q) : Fewp q := by
  obtain ⟨f1, f2, f3⟩ := hf
  have hc : slices_Clone_api_Block_api_Block.f f.f1 = some f.f1 := by unfold slices_Clone_api_Block_api_Block.f; rw [if_pos (by simp; omega)]; simp
  have := loopd (xs := f.f1) (F := fun n i w => fold_Func.l0 f.f1 n w i) (P := fun bs g => ∀ pre : List S42, pre.length + bs.length = f.f1.length → ∃ r, g (pre ++ bs) = some (pre ++ r) ∧ r.length = bs.length ∧ opsN r = opsN bs ∧ ∀ y ∈ r, ∀ o ∈ y.f0, o.f5.length ≤ 20) (by omega)
    (fun n pre h => ⟨[], by simp [fold_Func.l0], rfl, rfl, by simp⟩)
    (fun n i b bs hd hlt hat hm hw ih pre hp => by
      obtain ⟨y, y1, y2, y3⟩ := block_v (f3 b hm).1 (fun o ho => wo_of ((h.2.2 b hm).1.2 o ho) ((f3 b hm).2 o ho)) (h.2.2 b hm).2.2.1
      have hi : pre.length = i := by
        have := congrArg List.length hd
        rw [List.length_drop] at this
        simp only [List.length_cons] at this hp
        omega
      have hg : at? (pre ++ b :: bs) (i : Int) = some b := by
        unfold at?; rw [if_pos (by omega), Int.toNat_natCast, ← hi]; simp
      obtain ⟨r, r1, r2, r3, r4⟩ := ih (pre ++ [y]) (by simp at hp ⊢; omega)
      refine ⟨y :: r, ?_, by simp [r2], ?_, fun c hc o ho => ?_⟩
      · show fold_Func.l0 f.f1 (n + 1) (pre ++ b :: bs) i = _
        rw [fold_Func.l0, if_pos hlt, hg, Option.bind_some, y1, Option.bind_some, Option.bind_some, Int.toNat_natCast, hw]
        have hset : (pre ++ b :: bs).set i y = pre ++ [y] ++ bs := by rw [← hi]; simp
        rw [hset]
        have r1' : fold_Func.l0 f.f1 n (pre ++ [y] ++ bs) ((i + 1 : Nat) : Int) = _ := r1
        rw [r1']; simp
      · simp only [opsN, List.map_cons, List.sum_cons] at r3 ⊢
        rw [r3, y2]
      · rcases List.mem_cons.1 hc with rfl | hc
        · exact y3 o ho
        · exact r4 c hc o ho) (f.f1.length + 1) (by omega)
  obtain ⟨r, r1, r2, r3, r4⟩ := this [] (by simp)
  unfold fold_Func.f at hq
  have r1' : fold_Func.l0 f.f1 (f.f1.length + 1) f.f1 0 = some r := by simpa using r1
  rw [hc, Option.bind_some, r1', Option.bind_some] at hq
  obtain rfl := Option.some.inj hq
  refine ⟨by show r.length ≤ 40; omega, by show opsN r ≤ 250; omega, fun y hy => ⟨?_, r4 y hy⟩⟩
  have := opsN_mem hy
  show y.f0.length ≤ 250
  have hy2 : y.f0.length ≤ opsN r := this
  omega
theorem prog_t {l : List S45} {t : S45} (h8 : l.length ≤ 8) (hf : ∀ t ∈ l, Fewp t) (hp : okProg l = true) (ht : at? l 0 = some t) (ht0 : t.f0 = 0) : code_Program.f l = some true := by
  obtain ⟨b, b1, b2⟩ := prog_f h8 hf
  have h0 : code_Program.l0 l (l.length + 1) 0 = some (.inr ()) := by
    have : code_Program.l0 l (l.length + 1) 0 = some (if okProg l then .inr () else .inl false) := by
      refine loopd (xs := l) (F := fun n i => code_Program.l0 l n i) (P := fun ts f => f = some (if (ts.all fun t => okFn t l.length && (t.f1.all fun y => y.f0.all fun o => okCall l o)) then .inr () else .inl false)) (by omega) (fun n => by simp [code_Program.l0]) (fun n i t r hd hlt hat hm hw ih => ?_) (l.length + 1) (by omega)
      rw [code_Program.l0, if_pos hlt, hat, Option.bind_some, cright_f (by omega) (by omega) (hf t hm), Option.bind_some]
      cases hr : okFn t (l.length : Int) with
      | false => rw [if_pos (by simp)]; simp [hr]
      | true =>
        rw [if_neg (by simp), cprog_l1 (hf t hm) hr, Option.bind_some, hw]
        cases hc : (t.f1.all fun y => y.f0.all fun o => okCall l o) with
        | false => simp [hr, hc]
        | true =>
          simp only [if_true, List.all_cons, hr, hc, Bool.true_and]
          exact ih
    rw [this, if_pos hp]
  have hl : 1 ≤ (l.length : Int) ∧ (l.length : Int) ≤ 256 := by
    have : 0 < l.length := by
      cases l with
      | nil => cases ht
      | cons => simp
    omega
  unfold code_Program.f
  simp only [jn, within_f, Option.bind_some]
  rw [decide_eq_true hl, if_neg (by simp), ht, Option.bind_some, if_neg (by simp [ht0]), h0, Option.bind_some]
theorem run_t {l : List S45} {t : S45} (h8 : l.length ≤ 8) (hf : ∀ t ∈ l, Fewp t) (hp : okProg l = true) (ht : at? l 0 = some t) (ht0 : t.f0 = 0) {a1 a3 : Int} {a2 : List Int} (h1 : 1 ≤ a1) (h2 : a1 ≤ 4096) {v e : Int} {s' : Ts} (hs : Cf 100000 l a1 (ts0 a1 a2 a3) t [] = some (tv v e s')) : trace_Run.f l a1 a2 a3 = some (⟨s'.o, e, s'.ld, s'.st, s'.c⟩, 0) := by
  have hs' : trace_runner_call.f l (List.replicate a1.toNat (0 : Int)) 1 a1 a2 a3 0 ([] : List Int) 0 0 0 0 t ([] : List Int) = some (tv v e s') := hs
  unfold trace_Run.f
  simp only [jn]
  rw [if_neg (by omega), if_neg (by simp; omega), if_pos (by omega), prog_t h8 hf hp ht ht0, Option.bind_some, if_neg (by simp), ht, Option.bind_some, hs']; rfl
theorem run_z {m : List S45} (h8 : m.length ≤ 8) (hf : ∀ t ∈ m, Fewp t) {a1 a3 : Int} {a2 : List Int} (h1 : 1 ≤ a1) (h2 : a1 ≤ 4096) (h3 : 0 ≤ a3) (h4 : a3 ≤ 90000) : ∃ q, trace_Run.f m a1 a2 a3 = some q := by
  rcases run_f h8 hf with hr | ⟨hw, t, ht, ht0, hr⟩
  · exact ⟨_, hr a1 a2 a3 h1 h2⟩
  · obtain ⟨v, e, s', e1, e2, e3⟩ := (total hw (by omega) 100000).1 a3 (ts0 a1 a2 a3) t [] (iv0 (by omega) (by omega) (by omega)) h4 ht (by simp [ht0]) (by show 3 * (1000 - (0 : Int)) + 1 ≤ _; omega)
    exact ⟨_, hr a1 a2 a3 h1 h2 v e s' e1⟩
theorem foldRuns_law (a0 : List S45) (a1 : Int) (a2 : List Int) (a3 : Int) (h0 : a0.length * 32 ≤ 140737488351232 ∧ ∀ y ∈ a0, ok45 y) (h1 : (Lit.int .i64 a1).wf = true) (h2 : a2.length * 8 ≤ 140737488351232 ∧ ∀ y ∈ a2, (Lit.int .i64 y).wf = true) (h3 : (Lit.int .i64 a3).wf = true) : swagelaw24_FoldRuns.f a0 a1 a2 a3 = some true := by
  obtain ⟨b, b1, b2⟩ := few15 h0
  unfold swagelaw24_FoldRuns.f
  rw [small24, Option.bind_some, b1, Option.bind_some]
  simp only [jn]
  cases b with
  | false => rw [if_pos (by simp), if_pos trivial]
  | true =>
    obtain ⟨h8, hf⟩ := b2 rfl
    rw [if_neg (by simp)]
    by_cases c1 : a1 < 1
    · rw [if_pos c1, if_pos trivial]
    rw [if_neg c1]
    by_cases c2 : 4096 < a1
    · rw [if_pos c2, if_pos trivial]
    rw [if_neg c2]
    by_cases c3 : 60 < (a2.length : Int)
    · rw [if_pos c3, if_pos trivial]
    rw [if_neg c3]
    by_cases c4 : a3 < 0
    · rw [if_pos c4, if_pos trivial]
    rw [if_neg c4]
    by_cases c5 : 2000 < a3
    · rw [if_pos (by simpa using c5)]
    rw [if_neg (by simpa using c5)]
    obtain ⟨m, m1, m2⟩ := folds_t h8 hf h0.2
    rw [m1, Option.bind_some]
    have hml := m2.len
    have hfm : ∀ t ∈ m, Fewp t := fun t ht => by
      obtain ⟨x, x1, x2⟩ := m2.mem t ht
      exact func_v (hf x x1) (h0.2 x x1) x2
    obtain ⟨q, hq⟩ := run_z (m := m) (by omega) hfm (a1 := a1) (a2 := a2) (a3 := a3) (by omega) (by omega) (by omega) (by omega)
    obtain ⟨bp, p1, p2⟩ := prog_f h8 hf
    cases bp with
    | false =>
      have hr : trace_Run.f a0 a1 a2 a3 = some (none28, 1) := by
        unfold trace_Run.f
        simp only [jn]
        rw [if_neg (by omega), if_neg (by simp; omega), if_pos (by omega), p1]; rfl
      rw [hr, Option.bind_some, hq, Option.bind_some]
      rfl
    | true =>
      obtain ⟨hp, t, ht, ht0⟩ := p2 rfl
      obtain ⟨hpm, _⟩ := prog_ff h8 hf h0.2 hp m2
      have hwl := wp_of h8 hf hp
      have hwm := wp_of (by omega) hfm hpm
      have hk : ∀ t ∈ a0, okFn t a0.length = true := fun t ht => ((Bool.and_eq_true _ _).mp (List.all_eq_true.1 hp t ht)).1
      have hK : Bk a0 := fun t ht => by
        have := hk t ht
        unfold okFn at this
        simp only [Bool.and_eq_true, decide_eq_true_eq, List.all_eq_true] at this
        obtain ⟨⟨⟨r1, r2⟩, r3⟩, r4⟩ := this
        exact ⟨hf t ht, fun b hb o ho => ⟨okOp_to (r4 b hb o ho) (fun h7 => by have := (okOp_call (r4 b hb o ho) h7).2; omega), ((hf t ht).2.2 b hb).2 o ho, (((h0.2 t ht).2.2 b hb).1.2 o ho).2.2.2.2.1⟩, r3⟩
      have hQ : Pq a0 m := ⟨by omega, hwl, hwm, fun i g hg => by
        have hi : 0 ≤ i := by
          unfold at? at hg
          split at hg
          · assumption
          · cases hg
        have e : ((i.toNat : Nat) : Int) = i := by omega
        rw [← e] at hg ⊢
        obtain ⟨y, y1, y2⟩ := m2.get (at_nat.1 hg)
        exact ⟨y, at_nat.2 y1, y2⟩⟩
      obtain ⟨t', t1, t2⟩ := hQ.fn 0 t ht
      obtain ⟨k1, k2, k3⟩ := hK t (at_mem ht)
      obtain ⟨g1, _⟩ := func_fb k1 k2 k3 t2
      have hWm : Wm (ts0 a1 a2 a3) := ⟨fun v hv => by rw [List.eq_of_mem_replicate hv]; decide, fun v hv => h2.2 v hv⟩
      obtain ⟨v, e, s, e1, e2, e3, e4, e5, e6⟩ := (simul_q (fl := a1) hQ hK 100000).1 a3 (ts0 a1 a2 a3) t t' [] (iv0 (by omega) (by omega) (by omega)) (by omega) (at_mem ht) (at_mem t1) t2 (by simp [ht0]) (by simp) hWm (by show 3 * (1000 - (0 : Int)) + 1 ≤ _; omega)
      have i1 := e3.pot; have i2 := e3.ld0; have i3 := e3.st0; have i4 := e3.f0
      have hlen : s.o.length ≤ 140737488355328 := by omega
      rw [run_t h8 hf hp ht ht0 (by omega) (by omega) e1, run_t (by omega) hfm hpm t1 (by rw [g1]; exact ht0) (by omega) (by omega) e2]
      simp only [Option.bind_some, same_s ⟨s.o, e, s.ld, s.st, s.c⟩ ⟨s.o, e, s.ld, s.st, s.c⟩ hlen]
      simp
end Go.Proofs.Ytfmocegnpmomnaa.Sy
