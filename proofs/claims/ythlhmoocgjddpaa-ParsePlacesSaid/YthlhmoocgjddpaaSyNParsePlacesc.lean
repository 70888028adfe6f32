/- Texts of this work, joined: SyF49, SyF30, PaD, SyF18, SyF11, PaE, SyF54, SyF70, SyF55, SyF56, SyF41, SyF57, SyF59, SyF58, SyF60, SyF61, SyF42. -/
import Derived.Test.YthlhmoocgjddpaaSyNParsePlacesb
set_option linter.unusedVariables false
set_option linter.unusedSimpArgs false
set_option maxRecDepth 100000
set_option maxHeartbeats 4000000
namespace Go.Proofs.Ythlhmoocgjddpaa.Sy
open Go Go.RowKit Go.Proofs.YthlhmoocgjddpaaW.PrintWords 
def parse_parser_block.post (G:Gd) (b1:Nat) (A2:Option Addr) (c3:Nat) (a0_0:(List S41)) (a0_1:Int) (a0_2:Int) (a1:Int) (r:(S24 × Int × Int)) (v:Value) (G':Gd) (Lr:List Ch):Prop:=G=G'∧∃ (A_1:Option Addr) (c_1:Nat),v=.agg #[VI r.1.f0,.string r.1.f1,VI r.1.f2,.slice A_1 r.1.f3.length c_1]∧Lr=[Blk b1 [.slice A2 a0_0.length c3,VI r.2.1,VI r.2.2] 67,Row k24 24 (.slice A_1 r.1.f3.length c_1) r.1.f3]
def parse_parser_statement.post (G:Gd) (b1:Nat) (A2:Option Addr) (c3:Nat) (a0_0:(List S41)) (a0_1:Int) (a0_2:Int) (a1:Int) (r:(S24 × Int × Int)) (v:Value) (G':Gd) (Lr:List Ch):Prop:=G=G'∧∃ (A_1:Option Addr) (c_1:Nat),v=.agg #[VI r.1.f0,.string r.1.f1,VI r.1.f2,.slice A_1 r.1.f3.length c_1]∧Lr=[Blk b1 [.slice A2 a0_0.length c3,VI r.2.1,VI r.2.2] 67,Row k24 24 (.slice A_1 r.1.f3.length c_1) r.1.f3]
def parse_parser_branches.post (G:Gd) (b1:Nat) (A2:Option Addr) (c3:Nat) (A6:Option Addr) (c7:Nat) (a0_0:(List S41)) (a0_1:Int) (a0_2:Int) (a1:S24) (a2:Int) (r:(S24 × Int × Int)) (v:Value) (G':Gd) (Lr:List Ch):Prop:=G=G'∧∃ (A_1:Option Addr) (c_1:Nat),v=.agg #[VI r.1.f0,.string r.1.f1,VI r.1.f2,.slice A_1 r.1.f3.length c_1]∧Lr=[Blk b1 [.slice A2 a0_0.length c3,VI r.2.1,VI r.2.2] 67,Row k24 24 (.slice A_1 r.1.f3.length c_1) r.1.f3]
def parse_parser_block.l0 (rec68:((List S41) → Int → Int → Int → Option (S24 × Int × Int))) (a0_0:(List S41)) (a1:Int):Nat → Int → Int → (List S24) → Option (Int × Int × (List S24))
 | 0,_,_,_=>none
 | n185 + 1,x122,x123,l124=>jn (γ:=(Int × Int × (List S24))) (fun (x243:Bool)=>(if x243=true then (rec68 a0_0 x122 x123 a1).bind fun (y274:(S24 × Int × Int))=>(if l124.length < 2513169434916 then parse_parser_block.l0 rec68 a0_0 a1 n185 y274.2.1 y274.2.2 (l124 ++ [y274.1]) else none) else some (x122,x123,l124))) (fun (j244:(Bool → Option (Int × Int × (List S24))))=>(if x123=0 then (parse_parser_fixed.f a0_0 x122 x123).bind fun (y285:ByteArray)=>j244 (!(y285.data.toList == (⟨#[125]⟩:ByteArray).data.toList)) else j244 false))
def parse_parser_block.g (rec49:((List S41) → Int → Int → Int → Option (S24 × Int × Int))) (rec68:((List S41) → Int → Int → Int → Option (S24 × Int × Int))) (rec71:((List S41) → Int → Int → S24 → Int → Option (S24 × Int × Int))) (a0_0:(List S41)) (a0_1:Int) (a0_2:Int) (a1:Int):Option (S24 × Int × Int):=(parse_parser_start.f a0_0 a0_1 a0_2).bind fun (y7:Int)=>(parse_parser_must.f a0_0 a0_1 a0_2 (⟨#[123]⟩:ByteArray)).bind fun (y10:(Int × Int))=>(parse_parser_block.l0 rec68 a0_0 a1 100000 y10.1 y10.2 []).bind fun (x178,x179,l180)=>(parse_parser_must.f a0_0 x178 x179 (⟨#[125]⟩:ByteArray)).bind fun (y236:(Int × Int))=>some ((⟨9,(⟨#[]⟩:ByteArray),y7,l180⟩:S24),y236.1,y236.2)
theorem parse_parser_block.step (rec49:((List S41) → Int → Int → Int → Option (S24 × Int × Int))) (rec68:((List S41) → Int → Int → Int → Option (S24 × Int × Int))) (rec71:((List S41) → Int → Int → S24 → Int → Option (S24 × Int × Int))) (ih49:∀ {G:Gd} {r:(S24 × Int × Int)} {a0_0:(List S41)} {a0_1:Int} {a0_2:Int} {a1:Int} {b1:Nat} {A2:Option Addr} {c3:Nat} (hr4:Rd G k41 A2 a0_0) (hl5:a0_0.length ≤ c3),rec49 a0_0 a0_1 a0_2 a1=some r → Fn Try.prog 49 G [Blk b1 [.slice A2 a0_0.length c3,VI a0_1,VI a0_2] 67] [VP b1 0,VI a1] (parse_parser_block.post G b1 A2 c3 a0_0 a0_1 a0_2 a1 r)) (ih68:∀ {G:Gd} {r:(S24 × Int × Int)} {a0_0:(List S41)} {a0_1:Int} {a0_2:Int} {a1:Int} {b1:Nat} {A2:Option Addr} {c3:Nat} (hr4:Rd G k41 A2 a0_0) (hl5:a0_0.length ≤ c3),rec68 a0_0 a0_1 a0_2 a1=some r → Fn Try.prog 68 G [Blk b1 [.slice A2 a0_0.length c3,VI a0_1,VI a0_2] 67] [VP b1 0,VI a1] (parse_parser_statement.post G b1 A2 c3 a0_0 a0_1 a0_2 a1 r)) (ih71:∀ {G:Gd} {r:(S24 × Int × Int)} {a0_0:(List S41)} {a0_1:Int} {a0_2:Int} {a1:S24} {a2:Int} {b1:Nat} {A2:Option Addr} {c3:Nat} {A6:Option Addr} {c7:Nat} (hr4:Rd G k41 A2 a0_0) (hl5:a0_0.length ≤ c3) (hr8:Rd G k24 A6 a1.f3) (hl9:a1.f3.length ≤ c7),rec71 a0_0 a0_1 a0_2 a1 a2=some r → Fn Try.prog 71 G [Blk b1 [.slice A2 a0_0.length c3,VI a0_1,VI a0_2] 67] [VP b1 0,.agg #[VI a1.f0,.string a1.f1,VI a1.f2,.slice A6 a1.f3.length c7],VI a2] (parse_parser_branches.post G b1 A2 c3 A6 c7 a0_0 a0_1 a0_2 a1 a2 r)) {G:Gd} {r:(S24 × Int × Int)} {a0_0:(List S41)} {a0_1:Int} {a0_2:Int} {a1:Int} {b1:Nat} {A2:Option Addr} {c3:Nat} (hr4:Rd G k41 A2 a0_0) (hl5:a0_0.length ≤ c3) (h:parse_parser_block.g rec49 rec68 rec71 a0_0 a0_1 a0_2 a1=some r):Fn Try.prog 49 G [Blk b1 [.slice A2 a0_0.length c3,VI a0_1,VI a0_2] 67] [VP b1 0,VI a1] (parse_parser_block.post G b1 A2 c3 a0_0 a0_1 a0_2 a1 r):=by
 refine Fn.intro (e:=[(0,VP b1 0),(1,VI a1)]) 32 Try.func49 rfl Try.ntmps49 rfl rfl (Nat.le_of_ble_eq_true rfl) (fun L=>?_)
 unfold parse_parser_block.g at h
 refine TC.seq ?_
 refine TC.region ?_
 refine TL.cons (TL.alloc (cs:=[VI 0,.string (⟨#[]⟩:ByteArray),VI 0,.slice none 0 0]) rfl rfl zr24 rfl (fun b6=>?_))
 refine TL.nil ?_
 refine TQ.then_ ?_
 refine TC.seq ?_
 refine TC.region ?_
 refine TV rfl rfl rfl (Val.move rfl) ?_
 refine TK.sel (Ls:=[Blk b1 [.slice A2 a0_0.length c3,VI a0_1,VI a0_2] 67,Blk b6 [VI 0,.string (⟨#[]⟩:ByteArray),VI 0,.slice none 0 0] 24]) [1,0] 2 rfl rfl rfl ?_
 obtain ⟨y7,hy8,h⟩:=bind_no h
 refine TL.cons (TL.callV (Lin:=[Blk b1 [.slice A2 a0_0.length c3,VI a0_1,VI a0_2] 67]) (args:=[VP b1 0]) rfl rfl rfl hbd29 rfl rfl (parse_parser_start.calls (a0_0:=a0_0) (a0_1:=a0_1) (a0_2:=a0_2) hr4 hl5 hy8) rfl ?_)
 rintro _ _ _ _ ⟨rfl,rfl,rfl⟩
 refine TV rfl rfl rfl (Val.build (cs:=[VI 9,.string (⟨#[]⟩:ByteArray),VI y7,.slice none 0 0]) (is:=[0,2]) (xs:=[.const (VI 9),.tmp 7]) Try.underlying24 zr24 bld24 rfl rfl rfl rfl) ?_
 refine TL.cons (TL.alloc (cs:=[VI 0,.string (⟨#[]⟩:ByteArray),VI 0,.slice none 0 0]) rfl rfl zr24 rfl (fun b9=>?_))
 refine TL.cons (TL.store 0 (ds:=[VI 9,.string (⟨#[]⟩:ByteArray),VI y7,.slice none 0 0]) (cs':=[VI 9,.string (⟨#[]⟩:ByteArray),VI y7,.slice none 0 0]) (L':=(Blk b9 [VI 9,.string (⟨#[]⟩:ByteArray),VI y7,.slice none 0 0] 24::Blk b1 [.slice A2 a0_0.length c3,VI a0_1,VI a0_2] 67::Blk b6 [VI 0,.string (⟨#[]⟩:ByteArray),VI 0,.slice none 0 0] 24::L)) rfl fsz24 rfl rfl rfl rfl rfl (Nat.le_of_ble_eq_true rfl) rfl rfl ?_)
 refine TL.nil ?_
 refine TQ.then_ ?_
 refine TC.seq ?_
 refine TC.region ?_
 refine TV rfl rfl rfl (Val.move rfl) ?_
 refine TK.sel (Ls:=[Blk b1 [.slice A2 a0_0.length c3,VI a0_1,VI a0_2] 67,Blk b9 [VI 9,.string (⟨#[]⟩:ByteArray),VI y7,.slice none 0 0] 24,Blk b6 [VI 0,.string (⟨#[]⟩:ByteArray),VI 0,.slice none 0 0] 24]) [1,0,2] 3 rfl rfl rfl ?_
 obtain ⟨y10,hy11,h⟩:=bind_no h
 refine TL.cons (TL.callV (Lin:=[Blk b1 [.slice A2 a0_0.length c3,VI a0_1,VI a0_2] 67]) (args:=[VP b1 0,.string (⟨#[123]⟩:ByteArray)]) rfl rfl rfl hbd43 rfl rfl (parse_parser_must.calls (a0_0:=a0_0) (a0_1:=a0_1) (a0_2:=a0_2) (a1:=(⟨#[123]⟩:ByteArray)) hr4 hl5 hy11) rfl ?_)
 rintro _ _ _ _ ⟨rfl,rfl,rfl⟩
 refine TL.nil ?_
 refine TQ.then_ ?_
 refine TC.seq ?_
 obtain ⟨o184,ho184,ko184⟩:=bind_no h
 clear h
 refine TC.tail (fun a W=>∃ (x178:Int) (x179:Int) (l180:(List S24)) (A181:Option Addr) (c182:Nat),(x178,x179,l180)=o184∧Fr 32 a [(0,VP b1 0),(4,VP b6 0),(5,VP b9 0)]∧Own G (Blk b1 [.slice A2 a0_0.length c3,VI x178,VI x179] 67::Blk b6 [VI 0,.string (⟨#[]⟩:ByteArray),VI 0,.slice none 0 0] 24::Blk b9 [VI 9,.string (⟨#[]⟩:ByteArray),VI y7,.slice A181 l180.length c182] 24::Row k24 24 (.slice A181 l180.length c182) l180::L) W) ?_ ?_
 ·
  rintro a W ⟨x178,x179,l180,A181,c182,rfl,hF,hO⟩
  have h:=ko184
  clear ko184 ho184
  refine TQ.use ?_ hF hO
  clear hF hO
  refine TQ.then_ ?_
  refine TC.seq ?_
  refine TC.region ?_
  refine TV rfl rfl rfl (Val.move rfl) ?_
  obtain ⟨y236,hy237,h⟩:=bind_no h
  refine TL.cons (TL.callV (Lin:=[Blk b1 [.slice A2 a0_0.length c3,VI x178,VI x179] 67]) (args:=[VP b1 0,.string (⟨#[125]⟩:ByteArray)]) rfl rfl rfl hbd43 rfl rfl (parse_parser_must.calls (a0_0:=a0_0) (a0_1:=x178) (a0_2:=x179) (a1:=(⟨#[125]⟩:ByteArray)) hr4 hl5 hy237) rfl ?_)
  rintro _ _ _ _ ⟨rfl,rfl,rfl⟩
  refine TL.nil ?_
  refine TQ.then_ ?_
  refine TC.seq ?_
  refine TC.region ?_
  refine TV rfl rfl rfl (Val.loadsB 2 (cs:=[VI 9,.string (⟨#[]⟩:ByteArray),VI y7,.slice A181 l180.length c182]) agg24 fsz24 rfl rfl rfl rfl) ?_
  refine TL.cons (TL.store 1 (ds:=[VI 9,.string (⟨#[]⟩:ByteArray),VI y7,.slice A181 l180.length c182]) (cs':=[VI 9,.string (⟨#[]⟩:ByteArray),VI y7,.slice A181 l180.length c182]) (L':=(Blk b1 [.slice A2 a0_0.length c3,VI y236.1,VI y236.2] 67::Blk b6 [VI 9,.string (⟨#[]⟩:ByteArray),VI y7,.slice A181 l180.length c182] 24::Blk b9 [VI 9,.string (⟨#[]⟩:ByteArray),VI y7,.slice A181 l180.length c182] 24::Row k24 24 (.slice A181 l180.length c182) l180::L)) rfl fsz24 rfl rfl rfl rfl rfl (Nat.le_of_ble_eq_true rfl) rfl rfl ?_)
  refine TL.nil ?_
  refine TQ.then_ ?_
  refine TC.ret ?_
  obtain rfl:=Option.some.inj h
  exact TQ.fin (.inl rfl) rfl Try.results49 (.cells 1 rfl rfl agg24 fsz24 .nil) rfl (FRel.mk (Ls:=[Blk b1 [.slice A2 a0_0.length c3,VI y236.1,VI y236.2] 67,Row k24 24 (.slice A181 l180.length c182) l180]) [0,3] 4 (Gd.le.refl _) rfl rfl rfl ⟨rfl,A181,c182,rfl,rfl⟩)
 ·
  refine TC.block ?_
  intro a W hF hO
  have hS:∃ (x122:Int) (x123:Int) (l124:(List S24)) (A125:Option Addr) (c126:Nat),parse_parser_block.l0 rec68 a0_0 a1 100000 x122 x123 l124=some o184∧Fr 32 a [(0,VP b1 0),(1,VI a1),(4,VP b6 0),(5,VP b9 0)]∧Own G (Blk b1 [.slice A2 a0_0.length c3,VI x122,VI x123] 67::Blk b6 [VI 0,.string (⟨#[]⟩:ByteArray),VI 0,.slice none 0 0] 24::Blk b9 [VI 9,.string (⟨#[]⟩:ByteArray),VI y7,.slice A125 l124.length c126] 24::Row k24 24 (.slice A125 l124.length c126) l124::L) W:=by
   exact ⟨y10.1,y10.2,[],none,0,ho184,hF.sub ⟨rfl,rfl,rfl,rfl,trivial⟩,(Own.nilRow k24 24 hO).selT (Ls:=[Blk b1 [.slice A2 a0_0.length c3,VI y10.1,VI y10.2] 67,Blk b6 [VI 0,.string (⟨#[]⟩:ByteArray),VI 0,.slice none 0 0] 24,Blk b9 [VI 9,.string (⟨#[]⟩:ByteArray),VI y7,.slice none ([]:List S24).length 0] 24,Row k24 24 (.slice none ([]:List S24).length 0) ([]:List S24)]) [1,3,2,0] 4 rfl rfl rfl⟩
  clear hF hO ho184 ko184
  refine TC.loop (fun n185 a W=>∃ (x122:Int) (x123:Int) (l124:(List S24)) (A125:Option Addr) (c126:Nat),parse_parser_block.l0 rec68 a0_0 a1 n185 x122 x123 l124=some o184∧Fr 32 a [(0,VP b1 0),(1,VI a1),(4,VP b6 0),(5,VP b9 0)]∧Own G (Blk b1 [.slice A2 a0_0.length c3,VI x122,VI x123] 67::Blk b6 [VI 0,.string (⟨#[]⟩:ByteArray),VI 0,.slice none 0 0] 24::Blk b9 [VI 9,.string (⟨#[]⟩:ByteArray),VI y7,.slice A125 l124.length c126] 24::Row k24 24 (.slice A125 l124.length c126) l124::L) W) ?_ ?_ hS
  ·
   rintro a W ⟨x122,x123,l124,A125,c126,h,hF,hO⟩
   exact none_no h
  ·
   clear hS
   rintro n185 a W ⟨x122,x123,l124,A125,c126,h,hF,hO⟩
   rw [parse_parser_block.l0] at h
   refine TC.use ?_ hF hO
   clear hF hO
   refine TC.seq ?_
   refine TC.seq ?_
   obtain ⟨j244,hj244,h⟩:=jn_no h
   refine TC.tail (fun a W=>∃ (x243:Bool),j244 x243=some o184∧Fr 32 a [(0,VP b1 0),(1,VI a1),(4,VP b6 0),(5,VP b9 0),(20,.bool x243)]∧Own G (Blk b1 [.slice A2 a0_0.length c3,VI x122,VI x123] 67::Blk b6 [VI 0,.string (⟨#[]⟩:ByteArray),VI 0,.slice none 0 0] 24::Blk b9 [VI 9,.string (⟨#[]⟩:ByteArray),VI y7,.slice A125 l124.length c126] 24::Row k24 24 (.slice A125 l124.length c126) l124::L) W) ?_ ?_
   ·
    rintro a W ⟨x243,h,hF,hO⟩
    rw [hj244] at h
    refine TQ.use ?_ hF hO
    clear hF hO
    refine TQ.then_ ?_
    refine TC.cond_b rfl h (fun hc246 h=>?_) (fun hc246 h=>?_)
    ·
     refine TC.skip ?_
     refine TQ.then_ ?_
     refine TC.block ?_
     refine TC.regionAnyS (L0:=(Blk b6 [VI 0,.string (⟨#[]⟩:ByteArray),VI 0,.slice none 0 0] 24::Blk b9 [VI 9,.string (⟨#[]⟩:ByteArray),VI y7,.slice A125 l124.length c126] 24::L)) [8] [0,1,2,3,7] mixed (by kernel_rfl) ?_
     refine TA.take 0 rfl (by kernel_rfl) rfl (PQ.inB (PQ.then_ (PQ.inB (PQ.then_ (PQ.then_ PQ.body))))) rfl (Val.fieldAddrB Try.underlying24 rfl fsz22 rfl rfl rfl) (fun W hO=>hO.selT (Ls:=[Blk b6 [VI 0,.string (⟨#[]⟩:ByteArray),VI 0,.slice none 0 0] 24,Blk b9 [VI 9,.string (⟨#[]⟩:ByteArray),VI y7,.slice A125 l124.length c126] 24]) [1,2] 4 rfl rfl rfl) ?_
     refine TA.take 1 rfl (by kernel_rfl) rfl (PQ.inB (PQ.then_ (PQ.inB (PQ.then_ (PQ.then_ PQ.body))))) rfl (Val.loadB 1 agg22 rfl rfl rfl) (fun W hO=>hO.selT (Ls:=[Blk b6 [VI 0,.string (⟨#[]⟩:ByteArray),VI 0,.slice none 0 0] 24,Blk b9 [VI 9,.string (⟨#[]⟩:ByteArray),VI y7,.slice A125 l124.length c126] 24]) [1,2] 4 rfl rfl rfl) ?_
     refine TA.take 2 rfl (by kernel_rfl) rfl (PQ.inB (PQ.then_ (PQ.inB (PQ.then_ (PQ.then_ PQ.body))))) rfl (Val.move rfl) (fun W hO=>hO.selT (Ls:=[Blk b6 [VI 0,.string (⟨#[]⟩:ByteArray),VI 0,.slice none 0 0] 24,Blk b9 [VI 9,.string (⟨#[]⟩:ByteArray),VI y7,.slice A125 l124.length c126] 24]) [1,2] 4 rfl rfl rfl) ?_
     refine TA.take 3 rfl (by kernel_rfl) rfl (PQ.inB (PQ.then_ (PQ.inB (PQ.then_ (PQ.then_ PQ.body))))) rfl (Val.move rfl) (fun W hO=>hO.selT (Ls:=[Blk b6 [VI 0,.string (⟨#[]⟩:ByteArray),VI 0,.slice none 0 0] 24,Blk b9 [VI 9,.string (⟨#[]⟩:ByteArray),VI y7,.slice A125 l124.length c126] 24]) [1,2] 4 rfl rfl rfl) ?_
     obtain ⟨y274,hy275,h⟩:=bind_no h
     refine TA.eff 4 rfl (by kernel_rfl) rfl (TL.callV (Lin:=[Blk b1 [.slice A2 a0_0.length c3,VI x122,VI x123] 67]) (args:=[VP b1 0,VI a1]) rfl rfl rfl hbd68 rfl rfl (ih68 (a0_0:=a0_0) (a0_1:=x122) (a0_2:=x123) (a1:=a1) hr4 hl5 hy275) rfl ?_)
     rintro _ _ _ _ ⟨rfl,A276,c277,rfl,rfl⟩
     refine TA.next (fun W hO=>hO.selT (Ls:=[Blk b6 [VI 0,.string (⟨#[]⟩:ByteArray),VI 0,.slice none 0 0] 24,Blk b9 [VI 9,.string (⟨#[]⟩:ByteArray),VI y7,.slice A125 l124.length c126] 24]) [2,3] 5 rfl rfl rfl) ?_
     refine TA.eff 5 rfl (by kernel_rfl) rfl (TL.buildSlice (xs:=[.tmp 25]) (vs:=[.agg #[VI y274.1.f0,.string y274.1.f1,VI y274.1.f2,.slice A276 y274.1.f3.length c277]]) (cs:=[VI y274.1.f0,.string y274.1.f1,VI y274.1.f2,.slice A276 y274.1.f3.length c277]) rfl rfl Try.underlying22 zs24 rfl rfl rfl rfl rfl rfl rfl rfl (fun b279=>?_))
     refine TA.next (fun W hO=>hO.selT (Ls:=[Blk b6 [VI 0,.string (⟨#[]⟩:ByteArray),VI 0,.slice none 0 0] 24,Blk b9 [VI 9,.string (⟨#[]⟩:ByteArray),VI y7,.slice A125 l124.length c126] 24]) [3,4] 6 rfl rfl rfl) ?_
     refine TK.sel (Ls:=[Row k24 24 (.slice A276 y274.1.f3.length c277) y274.1.f3,Blk b279 [VI y274.1.f0,.string y274.1.f1,VI y274.1.f2,.slice A276 y274.1.f3.length c277] 24,Blk b1 [.slice A2 a0_0.length c3,VI y274.2.1,VI y274.2.2] 67,Blk b6 [VI 0,.string (⟨#[]⟩:ByteArray),VI 0,.slice none 0 0] 24,Blk b9 [VI 9,.string (⟨#[]⟩:ByteArray),VI y7,.slice A125 l124.length c126] 24,Row k24 24 (.slice A125 l124.length c126) l124]) [2,0,1,3,4,5] 6 rfl rfl rfl ?_
     refine TK.conv (ch':=El k24 y274.1 [VI y274.1.f0,.string y274.1.f1,VI y274.1.f2,.slice A276 y274.1.f3.length c277]) (fun B W F hh=>k24_mkM W B F y274.1 hh) ?_
     refine TK.sel (Ls:=[Row k24 24 (.slice A125 l124.length c126) l124,El k24 y274.1 [VI y274.1.f0,.string y274.1.f1,VI y274.1.f2,.slice A276 y274.1.f3.length c277],Blk b279 [VI y274.1.f0,.string y274.1.f1,VI y274.1.f2,.slice A276 y274.1.f3.length c277] 24,Blk b1 [.slice A2 a0_0.length c3,VI y274.2.1,VI y274.2.2] 67,Blk b6 [VI 0,.string (⟨#[]⟩:ByteArray),VI 0,.slice none 0 0] 24,Blk b9 [VI 9,.string (⟨#[]⟩:ByteArray),VI y7,.slice A125 l124.length c126] 24]) [5,0,1,2,3,4] 6 rfl rfl rfl ?_
     obtain ⟨ha280,h⟩:=ite_no h
     refine TA.eff 6 rfl (by kernel_rfl) rfl (TL.append (xs:=l124) k24 rfl rfl Try.underlying22 inf24 rfl (Nat.le_of_ble_eq_true rfl) (Nat.le_of_ble_eq_true rfl) rfl rfl (by omega) (fun A281 c282=>?_))
     refine TA.next (fun W hO=>hO.selT (Ls:=[Blk b6 [VI 0,.string (⟨#[]⟩:ByteArray),VI 0,.slice none 0 0] 24,Blk b9 [VI 9,.string (⟨#[]⟩:ByteArray),VI y7,.slice A125 l124.length c126] 24]) [2,3] 4 rfl rfl rfl) ?_
     refine TA.take 7 rfl (by kernel_rfl) rfl (PQ.inB (PQ.then_ (PQ.inB (PQ.then_ (PQ.then_ PQ.body))))) rfl (Val.fieldAddrB Try.underlying24 rfl fsz22 rfl rfl rfl) (fun W hO=>hO.selT (Ls:=[Blk b6 [VI 0,.string (⟨#[]⟩:ByteArray),VI 0,.slice none 0 0] 24,Blk b9 [VI 9,.string (⟨#[]⟩:ByteArray),VI y7,.slice A125 l124.length c126] 24]) [2,3] 4 rfl rfl rfl) ?_
     refine TA.eff 8 rfl (by kernel_rfl) rfl (TL.store 3 (ds:=[.slice A281 (l124 ++ [y274.1]).length c282]) (cs':=[VI 9,.string (⟨#[]⟩:ByteArray),VI y7,.slice A281 (l124 ++ [y274.1]).length c282]) (L':=(Row k24 24 (.slice A281 (l124 ++ [y274.1]).length c282) (l124 ++ [y274.1])::Blk b1 [.slice A2 a0_0.length c3,VI y274.2.1,VI y274.2.2] 67::Blk b6 [VI 0,.string (⟨#[]⟩:ByteArray),VI 0,.slice none 0 0] 24::Blk b9 [VI 9,.string (⟨#[]⟩:ByteArray),VI y7,.slice A281 (l124 ++ [y274.1]).length c282] 24::L)) rfl fsz22 rfl rfl rfl rfl rfl (Nat.le_of_ble_eq_true rfl) rfl rfl ?_)
     refine TA.last rfl ?_
     refine TA.done (by kernel_rfl) ?_
     refine TQ.inB ?_
     exact fun a W hF hO=>⟨y274.2.1,y274.2.2,(l124 ++ [y274.1]),A281,c282,h,hF.sub ⟨rfl,rfl,rfl,rfl,trivial⟩,hO.selT (Ls:=[Blk b1 [.slice A2 a0_0.length c3,VI y274.2.1,VI y274.2.2] 67,Blk b6 [VI 0,.string (⟨#[]⟩:ByteArray),VI 0,.slice none 0 0] 24,Blk b9 [VI 9,.string (⟨#[]⟩:ByteArray),VI y7,.slice A281 (l124 ++ [y274.1]).length c282] 24,Row k24 24 (.slice A281 (l124 ++ [y274.1]).length c282) (l124 ++ [y274.1])]) [1,2,3,0] 4 rfl rfl rfl⟩
    ·
     refine TC.exit ?_
     refine TQ.thenX ?_
     refine TQ.thenX ?_
     refine TQ.inBX ?_
     exact fun a W hF hO=>⟨x122,x123,l124,A125,c126,Option.some.inj h,hF.sub ⟨rfl,rfl,rfl,trivial⟩,hO.selT (Ls:=[Blk b1 [.slice A2 a0_0.length c3,VI x122,VI x123] 67,Blk b6 [VI 0,.string (⟨#[]⟩:ByteArray),VI 0,.slice none 0 0] 24,Blk b9 [VI 9,.string (⟨#[]⟩:ByteArray),VI y7,.slice A125 l124.length c126] 24,Row k24 24 (.slice A125 l124.length c126) l124]) [0,1,2,3] 4 rfl rfl rfl⟩
   ·
    refine TC.region ?_
    refine TV rfl rfl rfl (Val.move rfl) ?_
    refine TV rfl rfl rfl (Val.nilCheck rfl) ?_
    refine TV rfl rfl rfl (Val.fieldAddrB Try.underlying67 rfl fsz33 rfl rfl rfl) ?_
    refine TV rfl rfl rfl (Val.loadB 0 agg33 rfl rfl rfl) ?_
    refine TV rfl rfl rfl (Val.cmp rfl rfl run_eql) ?_
    refine TV rfl rfl rfl (Val.move rfl) ?_
    refine TK.split (p:=x123=0) h (fun hg283 h=>?_) (fun hg283 h=>?_)
    ·
     have hk284:decide (x123=0)=true:=decide_eq_true hg283
     refine TV (Wt.yes rfl rfl rfl hk284) rfl rfl (Val.move rfl) ?_
     obtain ⟨y285,hy286,h⟩:=bind_no h
     refine TL.cons (TL.callV (Lin:=[Blk b1 [.slice A2 a0_0.length c3,VI x122,VI x123] 67]) (args:=[VP b1 0]) (Wt.yes rfl rfl rfl hk284) rfl rfl hbd45 rfl rfl (parse_parser_fixed.calls (a0_0:=a0_0) (a0_1:=x122) (a0_2:=x123) hr4 hl5 hy286) rfl ?_)
     rintro _ _ _ _ ⟨rfl,rfl,rfl⟩
     refine TV (Wt.yes rfl rfl rfl hk284) rfl rfl (Val.neT rfl rfl) ?_
     refine TV rfl rfl rfl (Val.pickY rfl hk284 rfl) ?_
     refine TL.nil ?_
     exact fun a W hF hO=>⟨(!(y285.data.toList == (⟨#[125]⟩:ByteArray).data.toList)),h,hF.sub ⟨rfl,rfl,rfl,rfl,rfl,trivial⟩,hO.selT (Ls:=[Blk b1 [.slice A2 a0_0.length c3,VI x122,VI x123] 67,Blk b6 [VI 0,.string (⟨#[]⟩:ByteArray),VI 0,.slice none 0 0] 24,Blk b9 [VI 9,.string (⟨#[]⟩:ByteArray),VI y7,.slice A125 l124.length c126] 24,Row k24 24 (.slice A125 l124.length c126) l124]) [0,1,2,3] 4 rfl rfl rfl⟩
    ·
     have hk287:decide (x123=0)=false:=decide_eq_false hg283
     refine TL.cons (TL.not (Wt.no rfl rfl rfl hk287) rfl ?_)
     refine TL.cons (TL.not (Wt.no rfl rfl rfl hk287) rfl ?_)
     refine TL.cons (TL.not (Wt.no rfl rfl rfl hk287) rfl ?_)
     refine TV rfl rfl rfl (Val.pickN rfl hk287 rfl) ?_
     refine TL.nil ?_
     exact fun a W hF hO=>⟨false,h,hF.sub ⟨rfl,rfl,rfl,rfl,rfl,trivial⟩,hO.selT (Ls:=[Blk b1 [.slice A2 a0_0.length c3,VI x122,VI x123] 67,Blk b6 [VI 0,.string (⟨#[]⟩:ByteArray),VI 0,.slice none 0 0] 24,Blk b9 [VI 9,.string (⟨#[]⟩:ByteArray),VI y7,.slice A125 l124.length c126] 24,Row k24 24 (.slice A125 l124.length c126) l124]) [0,1,2,3] 4 rfl rfl rfl⟩
def parse_parser_statement.g (rec49:((List S41) → Int → Int → Int → Option (S24 × Int × Int))) (rec68:((List S41) → Int → Int → Int → Option (S24 × Int × Int))) (rec71:((List S41) → Int → Int → S24 → Int → Option (S24 × Int × Int))) (a0_0:(List S41)) (a0_1:Int) (a0_2:Int) (a1:Int):Option (S24 × Int × Int):=(parse_parser_start.f a0_0 a0_1 a0_2).bind fun (y7:Int)=>(parse_parser_may.f a0_0 a0_1 a0_2 a1).bind fun (y10:(Bool × Int))=>(if (!y10.1)=true then some ((⟨0,(⟨#[]⟩:ByteArray),y7,([]:List S24)⟩:S24),a0_1,y10.2) else (parse_parser_take.f a0_0 a0_1 y10.2 (⟨#[105,102]⟩:ByteArray)).bind fun (y253:(Bool × Int))=>jn (γ:=(S24 × Int × Int)) (fun (x306:Int) (x307:Int) (x308:Int) (x309:ByteArray) (x310:Int) (l311:(List S24))=>(parse_parser_must.f a0_0 x306 x307 (⟨#[59]⟩:ByteArray)).bind fun (y316:(Int × Int))=>some ((⟨x308,x309,x310,l311⟩:S24),y316.1,y316.2)) (fun (j315:(Int → Int → Int → ByteArray → Int → (List S24) → Option (S24 × Int × Int)))=>(if y253.1=true then (rec71 a0_0 y253.2 y10.2 (⟨12,(⟨#[]⟩:ByteArray),y7,([]:List S24)⟩:S24) a1).bind fun (y319:(S24 × Int × Int))=>some (y319.1,y319.2.1,y319.2.2) else (parse_parser_take.f a0_0 y253.2 y10.2 (⟨#[102,111,114]⟩:ByteArray)).bind fun (y324:(Bool × Int))=>(if y324.1=true then (rec71 a0_0 y324.2 y10.2 (⟨13,(⟨#[]⟩:ByteArray),y7,([]:List S24)⟩:S24) a1).bind fun (y370:(S24 × Int × Int))=>some (y370.1,y370.2.1,y370.2.2) else (parse_parser_take.f a0_0 y324.2 y10.2 (⟨#[118,97,114]⟩:ByteArray)).bind fun (y375:(Bool × Int))=>(if y375.1=true then (parse_parser_text.f a0_0 y375.2 y10.2 1).bind fun (y413:(ByteArray × Int × Int))=>(parse_parser_typ.f a0_0 y413.2.1 y413.2.2 (IntKind.i64.wrap (a1 + 1))).bind fun (y415:(S24 × Int × Int))=>j315 y415.2.1 y415.2.2 10 y413.1 y7 ([y415.1]:List S24) else (parse_parser_take.f a0_0 y375.2 y10.2 (⟨#[114,101,116,117,114,110]⟩:ByteArray)).bind fun (y422:(Bool × Int))=>(if y422.1=true then (parse_parser_fixed.f a0_0 y422.2 y10.2).bind fun (y449:ByteArray)=>(if (!(y449.data.toList == (⟨#[59]⟩:ByteArray).data.toList))=true then (parse_parser_expr.f a0_0 y422.2 y10.2 (IntKind.i64.wrap (a1 + 1))).bind fun (y459:(S24 × Int × Int))=>j315 y459.2.1 y459.2.2 14 (⟨#[]⟩:ByteArray) y7 ([y459.1]:List S24) else j315 y422.2 y10.2 14 (⟨#[]⟩:ByteArray) y7 []) else (parse_parser_take.f a0_0 y422.2 y10.2 (⟨#[112,114,105,110,116]⟩:ByteArray)).bind fun (y466:(Bool × Int))=>(if y466.1=true then (parse_parser_expr.f a0_0 y466.2 y10.2 (IntKind.i64.wrap (a1 + 1))).bind fun (y481:(S24 × Int × Int))=>j315 y481.2.1 y481.2.2 15 (⟨#[]⟩:ByteArray) y7 ([y481.1]:List S24) else (parse_parser_simple.f a0_0 y466.2 y10.2 (⟨0,(⟨#[]⟩:ByteArray),y7,([]:List S24)⟩:S24) a1).bind fun (y488:(S24 × Int × Int))=>j315 y488.2.1 y488.2.2 y488.1.f0 y488.1.f1 y488.1.f2 y488.1.f3)))))))
theorem parse_parser_statement.step (rec49:((List S41) → Int → Int → Int → Option (S24 × Int × Int))) (rec68:((List S41) → Int → Int → Int → Option (S24 × Int × Int))) (rec71:((List S41) → Int → Int → S24 → Int → Option (S24 × Int × Int))) (ih49:∀ {G:Gd} {r:(S24 × Int × Int)} {a0_0:(List S41)} {a0_1:Int} {a0_2:Int} {a1:Int} {b1:Nat} {A2:Option Addr} {c3:Nat} (hr4:Rd G k41 A2 a0_0) (hl5:a0_0.length ≤ c3),rec49 a0_0 a0_1 a0_2 a1=some r → Fn Try.prog 49 G [Blk b1 [.slice A2 a0_0.length c3,VI a0_1,VI a0_2] 67] [VP b1 0,VI a1] (parse_parser_block.post G b1 A2 c3 a0_0 a0_1 a0_2 a1 r)) (ih68:∀ {G:Gd} {r:(S24 × Int × Int)} {a0_0:(List S41)} {a0_1:Int} {a0_2:Int} {a1:Int} {b1:Nat} {A2:Option Addr} {c3:Nat} (hr4:Rd G k41 A2 a0_0) (hl5:a0_0.length ≤ c3),rec68 a0_0 a0_1 a0_2 a1=some r → Fn Try.prog 68 G [Blk b1 [.slice A2 a0_0.length c3,VI a0_1,VI a0_2] 67] [VP b1 0,VI a1] (parse_parser_statement.post G b1 A2 c3 a0_0 a0_1 a0_2 a1 r)) (ih71:∀ {G:Gd} {r:(S24 × Int × Int)} {a0_0:(List S41)} {a0_1:Int} {a0_2:Int} {a1:S24} {a2:Int} {b1:Nat} {A2:Option Addr} {c3:Nat} {A6:Option Addr} {c7:Nat} (hr4:Rd G k41 A2 a0_0) (hl5:a0_0.length ≤ c3) (hr8:Rd G k24 A6 a1.f3) (hl9:a1.f3.length ≤ c7),rec71 a0_0 a0_1 a0_2 a1 a2=some r → Fn Try.prog 71 G [Blk b1 [.slice A2 a0_0.length c3,VI a0_1,VI a0_2] 67] [VP b1 0,.agg #[VI a1.f0,.string a1.f1,VI a1.f2,.slice A6 a1.f3.length c7],VI a2] (parse_parser_branches.post G b1 A2 c3 A6 c7 a0_0 a0_1 a0_2 a1 a2 r)) {G:Gd} {r:(S24 × Int × Int)} {a0_0:(List S41)} {a0_1:Int} {a0_2:Int} {a1:Int} {b1:Nat} {A2:Option Addr} {c3:Nat} (hr4:Rd G k41 A2 a0_0) (hl5:a0_0.length ≤ c3) (h:parse_parser_statement.g rec49 rec68 rec71 a0_0 a0_1 a0_2 a1=some r):Fn Try.prog 68 G [Blk b1 [.slice A2 a0_0.length c3,VI a0_1,VI a0_2] 67] [VP b1 0,VI a1] (parse_parser_statement.post G b1 A2 c3 a0_0 a0_1 a0_2 a1 r):=by
 refine Fn.intro (e:=[(0,VP b1 0),(1,VI a1)]) 73 Try.func68 rfl Try.ntmps68 rfl rfl (Nat.le_of_ble_eq_true rfl) (fun L=>?_)
 unfold parse_parser_statement.g at h
 refine TC.seq ?_
 refine TC.region ?_
 refine TL.cons (TL.alloc (cs:=[VI 0,.string (⟨#[]⟩:ByteArray),VI 0,.slice none 0 0]) rfl rfl zr24 rfl (fun b6=>?_))
 refine TL.nil ?_
 refine TQ.then_ ?_
 refine TC.seq ?_
 refine TC.region ?_
 refine TV rfl rfl rfl (Val.move rfl) ?_
 refine TK.sel (Ls:=[Blk b1 [.slice A2 a0_0.length c3,VI a0_1,VI a0_2] 67,Blk b6 [VI 0,.string (⟨#[]⟩:ByteArray),VI 0,.slice none 0 0] 24]) [1,0] 2 rfl rfl rfl ?_
 obtain ⟨y7,hy8,h⟩:=bind_no h
 refine TL.cons (TL.callV (Lin:=[Blk b1 [.slice A2 a0_0.length c3,VI a0_1,VI a0_2] 67]) (args:=[VP b1 0]) rfl rfl rfl hbd29 rfl rfl (parse_parser_start.calls (a0_0:=a0_0) (a0_1:=a0_1) (a0_2:=a0_2) hr4 hl5 hy8) rfl ?_)
 rintro _ _ _ _ ⟨rfl,rfl,rfl⟩
 refine TV rfl rfl rfl (Val.build (cs:=[VI 0,.string (⟨#[]⟩:ByteArray),VI y7,.slice none 0 0]) (is:=[2]) (xs:=[.tmp 7]) Try.underlying24 zr24 bld24 rfl rfl rfl rfl) ?_
 refine TL.cons (TL.alloc (cs:=[VI 0,.string (⟨#[]⟩:ByteArray),VI 0,.slice none 0 0]) rfl rfl zr24 rfl (fun b9=>?_))
 refine TL.cons (TL.store 0 (ds:=[VI 0,.string (⟨#[]⟩:ByteArray),VI y7,.slice none 0 0]) (cs':=[VI 0,.string (⟨#[]⟩:ByteArray),VI y7,.slice none 0 0]) (L':=(Blk b9 [VI 0,.string (⟨#[]⟩:ByteArray),VI y7,.slice none 0 0] 24::Blk b1 [.slice A2 a0_0.length c3,VI a0_1,VI a0_2] 67::Blk b6 [VI 0,.string (⟨#[]⟩:ByteArray),VI 0,.slice none 0 0] 24::L)) rfl fsz24 rfl rfl rfl rfl rfl (Nat.le_of_ble_eq_true rfl) rfl rfl ?_)
 refine TL.nil ?_
 refine TQ.then_ ?_
 refine TC.seq ?_
 refine TC.seq ?_
 refine TC.region ?_
 refine TV rfl rfl rfl (Val.move rfl) ?_
 refine TV rfl rfl rfl (Val.move rfl) ?_
 refine TK.sel (Ls:=[Blk b1 [.slice A2 a0_0.length c3,VI a0_1,VI a0_2] 67,Blk b9 [VI 0,.string (⟨#[]⟩:ByteArray),VI y7,.slice none 0 0] 24,Blk b6 [VI 0,.string (⟨#[]⟩:ByteArray),VI 0,.slice none 0 0] 24]) [1,0,2] 3 rfl rfl rfl ?_
 obtain ⟨y10,hy11,h⟩:=bind_no h
 refine TL.cons (TL.callV (Lin:=[Blk b1 [.slice A2 a0_0.length c3,VI a0_1,VI a0_2] 67]) (args:=[VP b1 0,VI a1]) rfl rfl rfl hbd66 rfl rfl (parse_parser_may.calls (a0_0:=a0_0) (a0_1:=a0_1) (a0_2:=a0_2) (a1:=a1) hr4 hl5 hy11) rfl ?_)
 rintro _ _ _ _ ⟨rfl,rfl,rfl⟩
 refine TV rfl rfl rfl (Val.not_ rfl) ?_
 refine TL.nil ?_
 refine TQ.then_ ?_
 refine TC.cond_b rfl h (fun hc13 h=>?_) (fun hc13 h=>?_)
 ·
  refine TC.seq ?_
  refine TC.region ?_
  refine TV rfl rfl rfl (Val.loadsB 1 (cs:=[VI 0,.string (⟨#[]⟩:ByteArray),VI y7,.slice none 0 0]) agg24 fsz24 rfl rfl rfl rfl) ?_
  refine TL.cons (TL.store 2 (ds:=[VI 0,.string (⟨#[]⟩:ByteArray),VI y7,.slice none 0 0]) (cs':=[VI 0,.string (⟨#[]⟩:ByteArray),VI y7,.slice none 0 0]) (L':=(Blk b1 [.slice A2 a0_0.length c3,VI a0_1,VI y10.2] 67::Blk b9 [VI 0,.string (⟨#[]⟩:ByteArray),VI y7,.slice none 0 0] 24::Blk b6 [VI 0,.string (⟨#[]⟩:ByteArray),VI y7,.slice none 0 0] 24::L)) rfl fsz24 rfl rfl rfl rfl rfl (Nat.le_of_ble_eq_true rfl) rfl rfl ?_)
  refine TL.nil ?_
  refine TQ.then_ ?_
  refine TC.ret ?_
  refine TQ.thenR ?_
  refine TQ.nilRow k24 24 ?_
  obtain rfl:=Option.some.inj h
  exact TQ.fin (.inl rfl) rfl Try.results68 (.cells 3 rfl rfl agg24 fsz24 .nil) rfl (FRel.mk (Ls:=[Blk b1 [.slice A2 a0_0.length c3,VI a0_1,VI y10.2] 67,Row k24 24 (.slice none 0 0) ([]:List S24)]) [1,0] 4 (Gd.le.refl _) rfl rfl rfl ⟨rfl,none,0,rfl,rfl⟩)
 ·
  refine TC.skip ?_
  refine TQ.then_ ?_
  refine TC.seq ?_
  refine TC.block ?_
  refine TC.seq ?_
  refine TC.region ?_
  refine TV rfl rfl rfl (Val.move rfl) ?_
  obtain ⟨y253,hy254,h⟩:=bind_no h
  refine TL.cons (TL.callV (Lin:=[Blk b1 [.slice A2 a0_0.length c3,VI a0_1,VI y10.2] 67]) (args:=[VP b1 0,.string (⟨#[105,102]⟩:ByteArray)]) rfl rfl rfl hbd62 rfl rfl (parse_parser_take.calls (a0_0:=a0_0) (a0_1:=a0_1) (a0_2:=y10.2) (a1:=(⟨#[105,102]⟩:ByteArray)) hr4 hl5 hy254) rfl ?_)
  rintro _ _ _ _ ⟨rfl,rfl,rfl⟩
  refine TV rfl rfl rfl (Val.assign rfl) ?_
  refine TL.nil ?_
  refine TQ.then_ ?_
  obtain ⟨j315,hj315,h⟩:=jn_no h
  refine TC.tail (fun a W=>∃ (x306:Int) (x307:Int) (x308:Int) (x309:ByteArray) (x310:Int) (l311:(List S24)) (A312:Option Addr) (c313:Nat),j315 x306 x307 x308 x309 x310 l311=some r∧Fr 73 a [(0,VP b1 0),(4,VP b6 0),(5,VP b9 0)]∧Own G (Blk b1 [.slice A2 a0_0.length c3,VI x306,VI x307] 67::Blk b6 [VI 0,.string (⟨#[]⟩:ByteArray),VI 0,.slice none 0 0] 24::Blk b9 [VI x308,.string x309,VI x310,.slice A312 l311.length c313] 24::Row k24 24 (.slice A312 l311.length c313) l311::L) W) ?_ ?_
  ·
   rintro a W ⟨x306,x307,x308,x309,x310,l311,A312,c313,h,hF,hO⟩
   rw [hj315] at h
   refine TQ.use ?_ hF hO
   clear hF hO
   refine TQ.inB ?_
   refine TQ.then_ ?_
   refine TC.seq ?_
   refine TC.region ?_
   refine TV rfl rfl rfl (Val.move rfl) ?_
   obtain ⟨y316,hy317,h⟩:=bind_no h
   refine TL.cons (TL.callV (Lin:=[Blk b1 [.slice A2 a0_0.length c3,VI x306,VI x307] 67]) (args:=[VP b1 0,.string (⟨#[59]⟩:ByteArray)]) rfl rfl rfl hbd43 rfl rfl (parse_parser_must.calls (a0_0:=a0_0) (a0_1:=x306) (a0_2:=x307) (a1:=(⟨#[59]⟩:ByteArray)) hr4 hl5 hy317) rfl ?_)
   rintro _ _ _ _ ⟨rfl,rfl,rfl⟩
   refine TL.nil ?_
   refine TQ.then_ ?_
   refine TC.seq ?_
   refine TC.region ?_
   refine TV rfl rfl rfl (Val.loadsB 2 (cs:=[VI x308,.string x309,VI x310,.slice A312 l311.length c313]) agg24 fsz24 rfl rfl rfl rfl) ?_
   refine TL.cons (TL.store 1 (ds:=[VI x308,.string x309,VI x310,.slice A312 l311.length c313]) (cs':=[VI x308,.string x309,VI x310,.slice A312 l311.length c313]) (L':=(Blk b1 [.slice A2 a0_0.length c3,VI y316.1,VI y316.2] 67::Blk b6 [VI x308,.string x309,VI x310,.slice A312 l311.length c313] 24::Blk b9 [VI x308,.string x309,VI x310,.slice A312 l311.length c313] 24::Row k24 24 (.slice A312 l311.length c313) l311::L)) rfl fsz24 rfl rfl rfl rfl rfl (Nat.le_of_ble_eq_true rfl) rfl rfl ?_)
   refine TL.nil ?_
   refine TQ.then_ ?_
   refine TC.ret ?_
   obtain rfl:=Option.some.inj h
   exact TQ.fin (.inl rfl) rfl Try.results68 (.cells 1 rfl rfl agg24 fsz24 .nil) rfl (FRel.mk (Ls:=[Blk b1 [.slice A2 a0_0.length c3,VI y316.1,VI y316.2] 67,Row k24 24 (.slice A312 l311.length c313) l311]) [0,3] 4 (Gd.le.refl _) rfl rfl rfl ⟨rfl,A312,c313,rfl,rfl⟩)
  ·
   refine TC.cond_b rfl h (fun hc318 h=>?_) (fun hc318 h=>?_)
   ·
    refine TC.seq ?_
    refine TC.region ?_
    refine TV rfl rfl rfl (Val.fieldAddrB Try.underlying24 rfl fsz3 rfl rfl rfl) ?_
    refine TL.cons (TL.store 1 (ds:=[VI 12]) (cs':=[VI 12,.string (⟨#[]⟩:ByteArray),VI y7,.slice none 0 0]) (L':=(Blk b1 [.slice A2 a0_0.length c3,VI y253.2,VI y10.2] 67::Blk b9 [VI 12,.string (⟨#[]⟩:ByteArray),VI y7,.slice none 0 0] 24::Blk b6 [VI 0,.string (⟨#[]⟩:ByteArray),VI 0,.slice none 0 0] 24::L)) rfl fsz3 rfl rfl rfl rfl rfl (Nat.le_of_ble_eq_true rfl) rfl rfl ?_)
    refine TL.nil ?_
    refine TQ.then_ ?_
    refine TC.seq ?_
    refine TC.region ?_
    refine TV rfl rfl rfl (Val.move rfl) ?_
    refine TV rfl rfl rfl (Val.loadsB 1 (cs:=[VI 12,.string (⟨#[]⟩:ByteArray),VI y7,.slice none 0 0]) agg24 fsz24 rfl rfl rfl rfl) ?_
    refine TV rfl rfl rfl (Val.move rfl) ?_
    obtain ⟨y319,hy320,h⟩:=bind_no h
    refine TL.cons (TL.callV (Lin:=[Blk b1 [.slice A2 a0_0.length c3,VI y253.2,VI y10.2] 67]) (args:=[VP b1 0,.agg #[VI 12,.string (⟨#[]⟩:ByteArray),VI y7,.slice none 0 0],VI a1]) rfl rfl rfl hbd71 rfl rfl (ih71 (a0_0:=a0_0) (a0_1:=y253.2) (a0_2:=y10.2) (a1:=(⟨12,(⟨#[]⟩:ByteArray),y7,([]:List S24)⟩:S24)) (a2:=a1) hr4 hl5 (Rd.nil _ _) (Nat.le_refl 0) hy320) rfl ?_)
    rintro _ _ _ _ ⟨rfl,A321,c322,rfl,rfl⟩
    refine TL.cons (TL.store 3 (ds:=[VI y319.1.f0,.string y319.1.f1,VI y319.1.f2,.slice A321 y319.1.f3.length c322]) (cs':=[VI y319.1.f0,.string y319.1.f1,VI y319.1.f2,.slice A321 y319.1.f3.length c322]) (L':=(Blk b1 [.slice A2 a0_0.length c3,VI y319.2.1,VI y319.2.2] 67::Row k24 24 (.slice A321 y319.1.f3.length c322) y319.1.f3::Blk b9 [VI 12,.string (⟨#[]⟩:ByteArray),VI y7,.slice none 0 0] 24::Blk b6 [VI y319.1.f0,.string y319.1.f1,VI y319.1.f2,.slice A321 y319.1.f3.length c322] 24::L)) rfl fsz24 rfl rfl rfl rfl rfl (Nat.le_of_ble_eq_true rfl) rfl rfl ?_)
    refine TL.nil ?_
    refine TQ.then_ ?_
    refine TC.ret ?_
    refine TQ.thenR ?_
    refine TQ.inBR ?_
    refine TQ.thenR ?_
    obtain rfl:=Option.some.inj h
    exact TQ.fin (.inl rfl) rfl Try.results68 (.cells 3 rfl rfl agg24 fsz24 .nil) rfl (FRel.mk (Ls:=[Blk b1 [.slice A2 a0_0.length c3,VI y319.2.1,VI y319.2.2] 67,Row k24 24 (.slice A321 y319.1.f3.length c322) y319.1.f3]) [0,1] 4 (Gd.le.refl _) rfl rfl rfl ⟨rfl,A321,c322,rfl,rfl⟩)
   ·
    refine TC.seq ?_
    refine TC.region ?_
    refine TV rfl rfl rfl (Val.move rfl) ?_
    obtain ⟨y324,hy325,h⟩:=bind_no h
    refine TL.cons (TL.callV (Lin:=[Blk b1 [.slice A2 a0_0.length c3,VI y253.2,VI y10.2] 67]) (args:=[VP b1 0,.string (⟨#[102,111,114]⟩:ByteArray)]) rfl rfl rfl hbd62 rfl rfl (parse_parser_take.calls (a0_0:=a0_0) (a0_1:=y253.2) (a0_2:=y10.2) (a1:=(⟨#[102,111,114]⟩:ByteArray)) hr4 hl5 hy325) rfl ?_)
    rintro _ _ _ _ ⟨rfl,rfl,rfl⟩
    refine TV rfl rfl rfl (Val.assign rfl) ?_
    refine TL.nil ?_
    refine TQ.then_ ?_
    refine TC.cond_b rfl h (fun hc369 h=>?_) (fun hc369 h=>?_)
    ·
     refine TC.seq ?_
     refine TC.region ?_
     refine TV rfl rfl rfl (Val.fieldAddrB Try.underlying24 rfl fsz3 rfl rfl rfl) ?_
     refine TL.cons (TL.store 1 (ds:=[VI 13]) (cs':=[VI 13,.string (⟨#[]⟩:ByteArray),VI y7,.slice none 0 0]) (L':=(Blk b1 [.slice A2 a0_0.length c3,VI y324.2,VI y10.2] 67::Blk b9 [VI 13,.string (⟨#[]⟩:ByteArray),VI y7,.slice none 0 0] 24::Blk b6 [VI 0,.string (⟨#[]⟩:ByteArray),VI 0,.slice none 0 0] 24::L)) rfl fsz3 rfl rfl rfl rfl rfl (Nat.le_of_ble_eq_true rfl) rfl rfl ?_)
     refine TL.nil ?_
     refine TQ.then_ ?_
     refine TC.seq ?_
     refine TC.region ?_
     refine TV rfl rfl rfl (Val.move rfl) ?_
     refine TV rfl rfl rfl (Val.loadsB 1 (cs:=[VI 13,.string (⟨#[]⟩:ByteArray),VI y7,.slice none 0 0]) agg24 fsz24 rfl rfl rfl rfl) ?_
     refine TV rfl rfl rfl (Val.move rfl) ?_
     obtain ⟨y370,hy371,h⟩:=bind_no h
     refine TL.cons (TL.callV (Lin:=[Blk b1 [.slice A2 a0_0.length c3,VI y324.2,VI y10.2] 67]) (args:=[VP b1 0,.agg #[VI 13,.string (⟨#[]⟩:ByteArray),VI y7,.slice none 0 0],VI a1]) rfl rfl rfl hbd71 rfl rfl (ih71 (a0_0:=a0_0) (a0_1:=y324.2) (a0_2:=y10.2) (a1:=(⟨13,(⟨#[]⟩:ByteArray),y7,([]:List S24)⟩:S24)) (a2:=a1) hr4 hl5 (Rd.nil _ _) (Nat.le_refl 0) hy371) rfl ?_)
     rintro _ _ _ _ ⟨rfl,A372,c373,rfl,rfl⟩
     refine TL.cons (TL.store 3 (ds:=[VI y370.1.f0,.string y370.1.f1,VI y370.1.f2,.slice A372 y370.1.f3.length c373]) (cs':=[VI y370.1.f0,.string y370.1.f1,VI y370.1.f2,.slice A372 y370.1.f3.length c373]) (L':=(Blk b1 [.slice A2 a0_0.length c3,VI y370.2.1,VI y370.2.2] 67::Row k24 24 (.slice A372 y370.1.f3.length c373) y370.1.f3::Blk b9 [VI 13,.string (⟨#[]⟩:ByteArray),VI y7,.slice none 0 0] 24::Blk b6 [VI y370.1.f0,.string y370.1.f1,VI y370.1.f2,.slice A372 y370.1.f3.length c373] 24::L)) rfl fsz24 rfl rfl rfl rfl rfl (Nat.le_of_ble_eq_true rfl) rfl rfl ?_)
     refine TL.nil ?_
     refine TQ.then_ ?_
     refine TC.ret ?_
     refine TQ.thenR ?_
     refine TQ.inBR ?_
     refine TQ.thenR ?_
     obtain rfl:=Option.some.inj h
     exact TQ.fin (.inl rfl) rfl Try.results68 (.cells 3 rfl rfl agg24 fsz24 .nil) rfl (FRel.mk (Ls:=[Blk b1 [.slice A2 a0_0.length c3,VI y370.2.1,VI y370.2.2] 67,Row k24 24 (.slice A372 y370.1.f3.length c373) y370.1.f3]) [0,1] 4 (Gd.le.refl _) rfl rfl rfl ⟨rfl,A372,c373,rfl,rfl⟩)
    ·
     refine TC.seq ?_
     refine TC.region ?_
     refine TV rfl rfl rfl (Val.move rfl) ?_
     obtain ⟨y375,hy376,h⟩:=bind_no h
     refine TL.cons (TL.callV (Lin:=[Blk b1 [.slice A2 a0_0.length c3,VI y324.2,VI y10.2] 67]) (args:=[VP b1 0,.string (⟨#[118,97,114]⟩:ByteArray)]) rfl rfl rfl hbd62 rfl rfl (parse_parser_take.calls (a0_0:=a0_0) (a0_1:=y324.2) (a0_2:=y10.2) (a1:=(⟨#[118,97,114]⟩:ByteArray)) hr4 hl5 hy376) rfl ?_)
     rintro _ _ _ _ ⟨rfl,rfl,rfl⟩
     refine TV rfl rfl rfl (Val.assign rfl) ?_
     refine TL.nil ?_
     refine TQ.then_ ?_
     refine TC.cond_b rfl h (fun hc412 h=>?_) (fun hc412 h=>?_)
     ·
      refine TC.seq ?_
      refine TC.region ?_
      refine TV rfl rfl rfl (Val.move rfl) ?_
      obtain ⟨y413,hy414,h⟩:=bind_no h
      refine TL.cons (TL.callV (Lin:=[Blk b1 [.slice A2 a0_0.length c3,VI y375.2,VI y10.2] 67]) (args:=[VP b1 0,VI 1]) rfl rfl rfl hbd44 rfl rfl (parse_parser_text.calls (a0_0:=a0_0) (a0_1:=y375.2) (a0_2:=y10.2) (a1:=1) hr4 hl5 hy414) rfl ?_)
      rintro _ _ _ _ ⟨rfl,rfl,rfl⟩
      refine TV rfl rfl rfl (Val.fieldAddrB Try.underlying24 rfl fsz3 rfl rfl rfl) ?_
      refine TL.cons (TL.store 1 (ds:=[VI 10]) (cs':=[VI 10,.string (⟨#[]⟩:ByteArray),VI y7,.slice none 0 0]) (L':=(Blk b1 [.slice A2 a0_0.length c3,VI y413.2.1,VI y413.2.2] 67::Blk b9 [VI 10,.string (⟨#[]⟩:ByteArray),VI y7,.slice none 0 0] 24::Blk b6 [VI 0,.string (⟨#[]⟩:ByteArray),VI 0,.slice none 0 0] 24::L)) rfl fsz3 rfl rfl rfl rfl rfl (Nat.le_of_ble_eq_true rfl) rfl rfl ?_)
      refine TV rfl rfl rfl (Val.fieldAddrB Try.underlying24 rfl fsz9 rfl rfl rfl) ?_
      refine TL.cons (TL.store 1 (ds:=[.string y413.1]) (cs':=[VI 10,.string y413.1,VI y7,.slice none 0 0]) (L':=(Blk b1 [.slice A2 a0_0.length c3,VI y413.2.1,VI y413.2.2] 67::Blk b9 [VI 10,.string y413.1,VI y7,.slice none 0 0] 24::Blk b6 [VI 0,.string (⟨#[]⟩:ByteArray),VI 0,.slice none 0 0] 24::L)) rfl fsz9 rfl rfl rfl rfl rfl (Nat.le_of_ble_eq_true rfl) rfl rfl ?_)
      refine TL.nil ?_
      refine TQ.then_ ?_
      refine TC.region ?_
      refine TV rfl rfl rfl (Val.move rfl) ?_
      refine TV rfl rfl rfl (Val.move rfl) ?_
      refine TV rfl rfl rfl (Val.cmp rfl rfl run_add) ?_
      obtain ⟨y415,hy416,h⟩:=bind_no h
      refine TL.cons (TL.callV (Lin:=[Blk b1 [.slice A2 a0_0.length c3,VI y413.2.1,VI y413.2.2] 67]) (args:=[VP b1 0,VI (IntKind.i64.wrap (a1 + 1))]) rfl rfl rfl hbd48 rfl rfl (parse_parser_typ.calls (a0_0:=a0_0) (a0_1:=y413.2.1) (a0_2:=y413.2.2) (a1:=IntKind.i64.wrap (a1 + 1)) hr4 hl5 hy416) rfl ?_)
      rintro _ _ _ _ ⟨rfl,A417,c418,rfl,rfl⟩
      refine TL.cons (TL.buildSlice (xs:=[.tmp 44]) (vs:=[.agg #[VI y415.1.f0,.string y415.1.f1,VI y415.1.f2,.slice A417 y415.1.f3.length c418]]) (cs:=[VI y415.1.f0,.string y415.1.f1,VI y415.1.f2,.slice A417 y415.1.f3.length c418]) rfl rfl Try.underlying22 zs24 rfl rfl rfl rfl rfl rfl rfl rfl (fun b420=>?_))
      refine TV rfl rfl rfl (Val.fieldAddrB Try.underlying24 rfl fsz22 rfl rfl rfl) ?_
      refine TL.cons (TL.store 3 (ds:=[.slice (some ⟨b420,0,none⟩) 1 1]) (cs':=[VI 10,.string y413.1,VI y7,.slice (some ⟨b420,0,none⟩) 1 1]) (L':=(Blk b420 [VI y415.1.f0,.string y415.1.f1,VI y415.1.f2,.slice A417 y415.1.f3.length c418] 24::Blk b1 [.slice A2 a0_0.length c3,VI y415.2.1,VI y415.2.2] 67::Row k24 24 (.slice A417 y415.1.f3.length c418) y415.1.f3::Blk b9 [VI 10,.string y413.1,VI y7,.slice (some ⟨b420,0,none⟩) 1 1] 24::Blk b6 [VI 0,.string (⟨#[]⟩:ByteArray),VI 0,.slice none 0 0] 24::L)) rfl fsz22 rfl rfl rfl rfl rfl (Nat.le_of_ble_eq_true rfl) rfl rfl ?_)
      refine TL.nil ?_
      refine TQ.new (Els.nil k24) ?_
      refine TQ.sel (Ls:=[Row k24 24 (.slice A417 y415.1.f3.length c418) y415.1.f3,Els k24 [] [],Blk b420 [VI y415.1.f0,.string y415.1.f1,VI y415.1.f2,.slice A417 y415.1.f3.length c418] 24,Blk b1 [.slice A2 a0_0.length c3,VI y415.2.1,VI y415.2.2] 67,Blk b9 [VI 10,.string y413.1,VI y7,.slice (some ⟨b420,0,none⟩) 1 1] 24,Blk b6 [VI 0,.string (⟨#[]⟩:ByteArray),VI 0,.slice none 0 0] 24]) [3,0,1,2,4,5] 6 rfl rfl rfl ?_
      refine TQ.conv (ch':=El k24 y415.1 [VI y415.1.f0,.string y415.1.f1,VI y415.1.f2,.slice A417 y415.1.f3.length c418]) (fun B W F hh=>k24_mkM W B F y415.1 hh) ?_
      refine TQ.sel (Ls:=[Els k24 [] [],El k24 y415.1 [VI y415.1.f0,.string y415.1.f1,VI y415.1.f2,.slice A417 y415.1.f3.length c418],Blk b420 [VI y415.1.f0,.string y415.1.f1,VI y415.1.f2,.slice A417 y415.1.f3.length c418] 24,Blk b1 [.slice A2 a0_0.length c3,VI y415.2.1,VI y415.2.2] 67,Blk b9 [VI 10,.string y413.1,VI y7,.slice (some ⟨b420,0,none⟩) 1 1] 24,Blk b6 [VI 0,.string (⟨#[]⟩:ByteArray),VI 0,.slice none 0 0] 24]) [1,0,2,3,4,5] 6 rfl rfl rfl ?_
      refine TQ.two (ch:=Els k24 [y415.1] [VI y415.1.f0,.string y415.1.f1,VI y415.1.f2,.slice A417 y415.1.f3.length c418]) (Els.snoc k24) ?_
      refine TQ.sel (Ls:=[Blk b420 [VI y415.1.f0,.string y415.1.f1,VI y415.1.f2,.slice A417 y415.1.f3.length c418] 24,Els k24 [y415.1] [VI y415.1.f0,.string y415.1.f1,VI y415.1.f2,.slice A417 y415.1.f3.length c418],Blk b1 [.slice A2 a0_0.length c3,VI y415.2.1,VI y415.2.2] 67,Blk b9 [VI 10,.string y413.1,VI y7,.slice (some ⟨b420,0,none⟩) 1 1] 24,Blk b6 [VI 0,.string (⟨#[]⟩:ByteArray),VI 0,.slice none 0 0] 24]) [1,0,2,3,4] 5 rfl rfl rfl ?_
      refine TQ.two (ch:=Row k24 24 (.slice (some ⟨b420,0,none⟩) 1 1) ([y415.1]:List S24)) (Row.lit k24 rfl rfl) ?_
      exact fun a W hF hO=>⟨y415.2.1,y415.2.2,10,y413.1,y7,([y415.1]:List S24),(some ⟨b420,0,none⟩),1,h,hF.sub ⟨rfl,rfl,rfl,trivial⟩,hO.selT (Ls:=[Blk b1 [.slice A2 a0_0.length c3,VI y415.2.1,VI y415.2.2] 67,Blk b6 [VI 0,.string (⟨#[]⟩:ByteArray),VI 0,.slice none 0 0] 24,Blk b9 [VI 10,.string y413.1,VI y7,.slice (some ⟨b420,0,none⟩) ([y415.1]:List S24).length 1] 24,Row k24 24 (.slice (some ⟨b420,0,none⟩) ([y415.1]:List S24).length 1) ([y415.1]:List S24)]) [1,3,2,0] 4 rfl rfl rfl⟩
     ·
      refine TC.seq ?_
      refine TC.region ?_
      refine TV rfl rfl rfl (Val.move rfl) ?_
      obtain ⟨y422,hy423,h⟩:=bind_no h
      refine TL.cons (TL.callV (Lin:=[Blk b1 [.slice A2 a0_0.length c3,VI y375.2,VI y10.2] 67]) (args:=[VP b1 0,.string (⟨#[114,101,116,117,114,110]⟩:ByteArray)]) rfl rfl rfl hbd62 rfl rfl (parse_parser_take.calls (a0_0:=a0_0) (a0_1:=y375.2) (a0_2:=y10.2) (a1:=(⟨#[114,101,116,117,114,110]⟩:ByteArray)) hr4 hl5 hy423) rfl ?_)
      rintro _ _ _ _ ⟨rfl,rfl,rfl⟩
      refine TV rfl rfl rfl (Val.assign rfl) ?_
      refine TL.nil ?_
      refine TQ.then_ ?_
      refine TC.cond_b rfl h (fun hc448 h=>?_) (fun hc448 h=>?_)
      ·
       refine TC.seq ?_
       refine TC.region ?_
       refine TV rfl rfl rfl (Val.fieldAddrB Try.underlying24 rfl fsz3 rfl rfl rfl) ?_
       refine TL.cons (TL.store 1 (ds:=[VI 14]) (cs':=[VI 14,.string (⟨#[]⟩:ByteArray),VI y7,.slice none 0 0]) (L':=(Blk b1 [.slice A2 a0_0.length c3,VI y422.2,VI y10.2] 67::Blk b9 [VI 14,.string (⟨#[]⟩:ByteArray),VI y7,.slice none 0 0] 24::Blk b6 [VI 0,.string (⟨#[]⟩:ByteArray),VI 0,.slice none 0 0] 24::L)) rfl fsz3 rfl rfl rfl rfl rfl (Nat.le_of_ble_eq_true rfl) rfl rfl ?_)
       refine TL.nil ?_
       refine TQ.then_ ?_
       refine TC.seq ?_
       refine TC.region ?_
       refine TV rfl rfl rfl (Val.move rfl) ?_
       obtain ⟨y449,hy450,h⟩:=bind_no h
       refine TL.cons (TL.callV (Lin:=[Blk b1 [.slice A2 a0_0.length c3,VI y422.2,VI y10.2] 67]) (args:=[VP b1 0]) rfl rfl rfl hbd45 rfl rfl (parse_parser_fixed.calls (a0_0:=a0_0) (a0_1:=y422.2) (a0_2:=y10.2) hr4 hl5 hy450) rfl ?_)
       rintro _ _ _ _ ⟨rfl,rfl,rfl⟩
       refine TV rfl rfl rfl (Val.neT rfl rfl) ?_
       refine TL.nil ?_
       refine TQ.then_ ?_
       refine TC.cond_b rfl h (fun hc458 h=>?_) (fun hc458 h=>?_)
       ·
        refine TC.region ?_
        refine TV rfl rfl rfl (Val.move rfl) ?_
        refine TV rfl rfl rfl (Val.move rfl) ?_
        refine TV rfl rfl rfl (Val.cmp rfl rfl run_add) ?_
        obtain ⟨y459,hy460,h⟩:=bind_no h
        refine TL.cons (TL.callV (Lin:=[Blk b1 [.slice A2 a0_0.length c3,VI y422.2,VI y10.2] 67]) (args:=[VP b1 0,VI (IntKind.i64.wrap (a1 + 1))]) rfl rfl rfl hbd72 rfl rfl (parse_parser_expr.calls (a0_0:=a0_0) (a0_1:=y422.2) (a0_2:=y10.2) (a1:=IntKind.i64.wrap (a1 + 1)) hr4 hl5 hy460) rfl ?_)
        rintro _ _ _ _ ⟨rfl,A461,c462,rfl,rfl⟩
        refine TL.cons (TL.buildSlice (xs:=[.tmp 57]) (vs:=[.agg #[VI y459.1.f0,.string y459.1.f1,VI y459.1.f2,.slice A461 y459.1.f3.length c462]]) (cs:=[VI y459.1.f0,.string y459.1.f1,VI y459.1.f2,.slice A461 y459.1.f3.length c462]) rfl rfl Try.underlying22 zs24 rfl rfl rfl rfl rfl rfl rfl rfl (fun b464=>?_))
        refine TV rfl rfl rfl (Val.fieldAddrB Try.underlying24 rfl fsz22 rfl rfl rfl) ?_
        refine TL.cons (TL.store 3 (ds:=[.slice (some ⟨b464,0,none⟩) 1 1]) (cs':=[VI 14,.string (⟨#[]⟩:ByteArray),VI y7,.slice (some ⟨b464,0,none⟩) 1 1]) (L':=(Blk b464 [VI y459.1.f0,.string y459.1.f1,VI y459.1.f2,.slice A461 y459.1.f3.length c462] 24::Blk b1 [.slice A2 a0_0.length c3,VI y459.2.1,VI y459.2.2] 67::Row k24 24 (.slice A461 y459.1.f3.length c462) y459.1.f3::Blk b9 [VI 14,.string (⟨#[]⟩:ByteArray),VI y7,.slice (some ⟨b464,0,none⟩) 1 1] 24::Blk b6 [VI 0,.string (⟨#[]⟩:ByteArray),VI 0,.slice none 0 0] 24::L)) rfl fsz22 rfl rfl rfl rfl rfl (Nat.le_of_ble_eq_true rfl) rfl rfl ?_)
        refine TL.nil ?_
        refine TQ.new (Els.nil k24) ?_
        refine TQ.sel (Ls:=[Row k24 24 (.slice A461 y459.1.f3.length c462) y459.1.f3,Els k24 [] [],Blk b464 [VI y459.1.f0,.string y459.1.f1,VI y459.1.f2,.slice A461 y459.1.f3.length c462] 24,Blk b1 [.slice A2 a0_0.length c3,VI y459.2.1,VI y459.2.2] 67,Blk b9 [VI 14,.string (⟨#[]⟩:ByteArray),VI y7,.slice (some ⟨b464,0,none⟩) 1 1] 24,Blk b6 [VI 0,.string (⟨#[]⟩:ByteArray),VI 0,.slice none 0 0] 24]) [3,0,1,2,4,5] 6 rfl rfl rfl ?_
        refine TQ.conv (ch':=El k24 y459.1 [VI y459.1.f0,.string y459.1.f1,VI y459.1.f2,.slice A461 y459.1.f3.length c462]) (fun B W F hh=>k24_mkM W B F y459.1 hh) ?_
        refine TQ.sel (Ls:=[Els k24 [] [],El k24 y459.1 [VI y459.1.f0,.string y459.1.f1,VI y459.1.f2,.slice A461 y459.1.f3.length c462],Blk b464 [VI y459.1.f0,.string y459.1.f1,VI y459.1.f2,.slice A461 y459.1.f3.length c462] 24,Blk b1 [.slice A2 a0_0.length c3,VI y459.2.1,VI y459.2.2] 67,Blk b9 [VI 14,.string (⟨#[]⟩:ByteArray),VI y7,.slice (some ⟨b464,0,none⟩) 1 1] 24,Blk b6 [VI 0,.string (⟨#[]⟩:ByteArray),VI 0,.slice none 0 0] 24]) [1,0,2,3,4,5] 6 rfl rfl rfl ?_
        refine TQ.two (ch:=Els k24 [y459.1] [VI y459.1.f0,.string y459.1.f1,VI y459.1.f2,.slice A461 y459.1.f3.length c462]) (Els.snoc k24) ?_
        refine TQ.sel (Ls:=[Blk b464 [VI y459.1.f0,.string y459.1.f1,VI y459.1.f2,.slice A461 y459.1.f3.length c462] 24,Els k24 [y459.1] [VI y459.1.f0,.string y459.1.f1,VI y459.1.f2,.slice A461 y459.1.f3.length c462],Blk b1 [.slice A2 a0_0.length c3,VI y459.2.1,VI y459.2.2] 67,Blk b9 [VI 14,.string (⟨#[]⟩:ByteArray),VI y7,.slice (some ⟨b464,0,none⟩) 1 1] 24,Blk b6 [VI 0,.string (⟨#[]⟩:ByteArray),VI 0,.slice none 0 0] 24]) [1,0,2,3,4] 5 rfl rfl rfl ?_
        refine TQ.two (ch:=Row k24 24 (.slice (some ⟨b464,0,none⟩) 1 1) ([y459.1]:List S24)) (Row.lit k24 rfl rfl) ?_
        exact fun a W hF hO=>⟨y459.2.1,y459.2.2,14,(⟨#[]⟩:ByteArray),y7,([y459.1]:List S24),(some ⟨b464,0,none⟩),1,h,hF.sub ⟨rfl,rfl,rfl,trivial⟩,hO.selT (Ls:=[Blk b1 [.slice A2 a0_0.length c3,VI y459.2.1,VI y459.2.2] 67,Blk b6 [VI 0,.string (⟨#[]⟩:ByteArray),VI 0,.slice none 0 0] 24,Blk b9 [VI 14,.string (⟨#[]⟩:ByteArray),VI y7,.slice (some ⟨b464,0,none⟩) ([y459.1]:List S24).length 1] 24,Row k24 24 (.slice (some ⟨b464,0,none⟩) ([y459.1]:List S24).length 1) ([y459.1]:List S24)]) [1,3,2,0] 4 rfl rfl rfl⟩
       ·
        refine TC.skip ?_
        exact fun a W hF hO=>⟨y422.2,y10.2,14,(⟨#[]⟩:ByteArray),y7,[],none,0,h,hF.sub ⟨rfl,rfl,rfl,trivial⟩,(Own.nilRow k24 24 hO).selT (Ls:=[Blk b1 [.slice A2 a0_0.length c3,VI y422.2,VI y10.2] 67,Blk b6 [VI 0,.string (⟨#[]⟩:ByteArray),VI 0,.slice none 0 0] 24,Blk b9 [VI 14,.string (⟨#[]⟩:ByteArray),VI y7,.slice none ([]:List S24).length 0] 24,Row k24 24 (.slice none ([]:List S24).length 0) ([]:List S24)]) [1,3,2,0] 4 rfl rfl rfl⟩
      ·
       refine TC.seq ?_
       refine TC.region ?_
       refine TV rfl rfl rfl (Val.move rfl) ?_
       obtain ⟨y466,hy467,h⟩:=bind_no h
       refine TL.cons (TL.callV (Lin:=[Blk b1 [.slice A2 a0_0.length c3,VI y422.2,VI y10.2] 67]) (args:=[VP b1 0,.string (⟨#[112,114,105,110,116]⟩:ByteArray)]) rfl rfl rfl hbd62 rfl rfl (parse_parser_take.calls (a0_0:=a0_0) (a0_1:=y422.2) (a0_2:=y10.2) (a1:=(⟨#[112,114,105,110,116]⟩:ByteArray)) hr4 hl5 hy467) rfl ?_)
       rintro _ _ _ _ ⟨rfl,rfl,rfl⟩
       refine TV rfl rfl rfl (Val.assign rfl) ?_
       refine TL.nil ?_
       refine TQ.then_ ?_
       refine TC.cond_b rfl h (fun hc480 h=>?_) (fun hc480 h=>?_)
       ·
        refine TC.region ?_
        refine TV rfl rfl rfl (Val.move rfl) ?_
        refine TV rfl rfl rfl (Val.move rfl) ?_
        refine TV rfl rfl rfl (Val.cmp rfl rfl run_add) ?_
        obtain ⟨y481,hy482,h⟩:=bind_no h
        refine TL.cons (TL.callV (Lin:=[Blk b1 [.slice A2 a0_0.length c3,VI y466.2,VI y10.2] 67]) (args:=[VP b1 0,VI (IntKind.i64.wrap (a1 + 1))]) rfl rfl rfl hbd72 rfl rfl (parse_parser_expr.calls (a0_0:=a0_0) (a0_1:=y466.2) (a0_2:=y10.2) (a1:=IntKind.i64.wrap (a1 + 1)) hr4 hl5 hy482) rfl ?_)
        rintro _ _ _ _ ⟨rfl,A483,c484,rfl,rfl⟩
        refine TL.cons (TL.buildSlice (xs:=[.tmp 66]) (vs:=[.agg #[VI y481.1.f0,.string y481.1.f1,VI y481.1.f2,.slice A483 y481.1.f3.length c484]]) (cs:=[VI y481.1.f0,.string y481.1.f1,VI y481.1.f2,.slice A483 y481.1.f3.length c484]) rfl rfl Try.underlying22 zs24 rfl rfl rfl rfl rfl rfl rfl rfl (fun b486=>?_))
        refine TV rfl rfl rfl (Val.fieldAddrB Try.underlying24 rfl fsz3 rfl rfl rfl) ?_
        refine TL.cons (TL.store 3 (ds:=[VI 15]) (cs':=[VI 15,.string (⟨#[]⟩:ByteArray),VI y7,.slice none 0 0]) (L':=(Blk b486 [VI y481.1.f0,.string y481.1.f1,VI y481.1.f2,.slice A483 y481.1.f3.length c484] 24::Blk b1 [.slice A2 a0_0.length c3,VI y481.2.1,VI y481.2.2] 67::Row k24 24 (.slice A483 y481.1.f3.length c484) y481.1.f3::Blk b9 [VI 15,.string (⟨#[]⟩:ByteArray),VI y7,.slice none 0 0] 24::Blk b6 [VI 0,.string (⟨#[]⟩:ByteArray),VI 0,.slice none 0 0] 24::L)) rfl fsz3 rfl rfl rfl rfl rfl (Nat.le_of_ble_eq_true rfl) rfl rfl ?_)
        refine TV rfl rfl rfl (Val.fieldAddrB Try.underlying24 rfl fsz22 rfl rfl rfl) ?_
        refine TL.cons (TL.store 3 (ds:=[.slice (some ⟨b486,0,none⟩) 1 1]) (cs':=[VI 15,.string (⟨#[]⟩:ByteArray),VI y7,.slice (some ⟨b486,0,none⟩) 1 1]) (L':=(Blk b486 [VI y481.1.f0,.string y481.1.f1,VI y481.1.f2,.slice A483 y481.1.f3.length c484] 24::Blk b1 [.slice A2 a0_0.length c3,VI y481.2.1,VI y481.2.2] 67::Row k24 24 (.slice A483 y481.1.f3.length c484) y481.1.f3::Blk b9 [VI 15,.string (⟨#[]⟩:ByteArray),VI y7,.slice (some ⟨b486,0,none⟩) 1 1] 24::Blk b6 [VI 0,.string (⟨#[]⟩:ByteArray),VI 0,.slice none 0 0] 24::L)) rfl fsz22 rfl rfl rfl rfl rfl (Nat.le_of_ble_eq_true rfl) rfl rfl ?_)
        refine TL.nil ?_
        refine TQ.new (Els.nil k24) ?_
        refine TQ.sel (Ls:=[Row k24 24 (.slice A483 y481.1.f3.length c484) y481.1.f3,Els k24 [] [],Blk b486 [VI y481.1.f0,.string y481.1.f1,VI y481.1.f2,.slice A483 y481.1.f3.length c484] 24,Blk b1 [.slice A2 a0_0.length c3,VI y481.2.1,VI y481.2.2] 67,Blk b9 [VI 15,.string (⟨#[]⟩:ByteArray),VI y7,.slice (some ⟨b486,0,none⟩) 1 1] 24,Blk b6 [VI 0,.string (⟨#[]⟩:ByteArray),VI 0,.slice none 0 0] 24]) [3,0,1,2,4,5] 6 rfl rfl rfl ?_
        refine TQ.conv (ch':=El k24 y481.1 [VI y481.1.f0,.string y481.1.f1,VI y481.1.f2,.slice A483 y481.1.f3.length c484]) (fun B W F hh=>k24_mkM W B F y481.1 hh) ?_
        refine TQ.sel (Ls:=[Els k24 [] [],El k24 y481.1 [VI y481.1.f0,.string y481.1.f1,VI y481.1.f2,.slice A483 y481.1.f3.length c484],Blk b486 [VI y481.1.f0,.string y481.1.f1,VI y481.1.f2,.slice A483 y481.1.f3.length c484] 24,Blk b1 [.slice A2 a0_0.length c3,VI y481.2.1,VI y481.2.2] 67,Blk b9 [VI 15,.string (⟨#[]⟩:ByteArray),VI y7,.slice (some ⟨b486,0,none⟩) 1 1] 24,Blk b6 [VI 0,.string (⟨#[]⟩:ByteArray),VI 0,.slice none 0 0] 24]) [1,0,2,3,4,5] 6 rfl rfl rfl ?_
        refine TQ.two (ch:=Els k24 [y481.1] [VI y481.1.f0,.string y481.1.f1,VI y481.1.f2,.slice A483 y481.1.f3.length c484]) (Els.snoc k24) ?_
        refine TQ.sel (Ls:=[Blk b486 [VI y481.1.f0,.string y481.1.f1,VI y481.1.f2,.slice A483 y481.1.f3.length c484] 24,Els k24 [y481.1] [VI y481.1.f0,.string y481.1.f1,VI y481.1.f2,.slice A483 y481.1.f3.length c484],Blk b1 [.slice A2 a0_0.length c3,VI y481.2.1,VI y481.2.2] 67,Blk b9 [VI 15,.string (⟨#[]⟩:ByteArray),VI y7,.slice (some ⟨b486,0,none⟩) 1 1] 24,Blk b6 [VI 0,.string (⟨#[]⟩:ByteArray),VI 0,.slice none 0 0] 24]) [1,0,2,3,4] 5 rfl rfl rfl ?_
        refine TQ.two (ch:=Row k24 24 (.slice (some ⟨b486,0,none⟩) 1 1) ([y481.1]:List S24)) (Row.lit k24 rfl rfl) ?_
        exact fun a W hF hO=>⟨y481.2.1,y481.2.2,15,(⟨#[]⟩:ByteArray),y7,([y481.1]:List S24),(some ⟨b486,0,none⟩),1,h,hF.sub ⟨rfl,rfl,rfl,trivial⟩,hO.selT (Ls:=[Blk b1 [.slice A2 a0_0.length c3,VI y481.2.1,VI y481.2.2] 67,Blk b6 [VI 0,.string (⟨#[]⟩:ByteArray),VI 0,.slice none 0 0] 24,Blk b9 [VI 15,.string (⟨#[]⟩:ByteArray),VI y7,.slice (some ⟨b486,0,none⟩) ([y481.1]:List S24).length 1] 24,Row k24 24 (.slice (some ⟨b486,0,none⟩) ([y481.1]:List S24).length 1) ([y481.1]:List S24)]) [1,3,2,0] 4 rfl rfl rfl⟩
       ·
        refine TC.region ?_
        refine TV rfl rfl rfl (Val.move rfl) ?_
        refine TV rfl rfl rfl (Val.loadsB 1 (cs:=[VI 0,.string (⟨#[]⟩:ByteArray),VI y7,.slice none 0 0]) agg24 fsz24 rfl rfl rfl rfl) ?_
        refine TV rfl rfl rfl (Val.move rfl) ?_
        obtain ⟨y488,hy489,h⟩:=bind_no h
        refine TL.cons (TL.callV (Lin:=[Blk b1 [.slice A2 a0_0.length c3,VI y466.2,VI y10.2] 67]) (args:=[VP b1 0,.agg #[VI 0,.string (⟨#[]⟩:ByteArray),VI y7,.slice none 0 0],VI a1]) rfl rfl rfl hbd73 rfl rfl (parse_parser_simple.calls (a0_0:=a0_0) (a0_1:=y466.2) (a0_2:=y10.2) (a1:=(⟨0,(⟨#[]⟩:ByteArray),y7,([]:List S24)⟩:S24)) (a2:=a1) hr4 hl5 (Rd.nil _ _) (Nat.le_refl 0) hy489) rfl ?_)
        rintro _ _ _ _ ⟨rfl,A490,c491,rfl,rfl⟩
        refine TL.cons (TL.store 2 (ds:=[VI y488.1.f0,.string y488.1.f1,VI y488.1.f2,.slice A490 y488.1.f3.length c491]) (cs':=[VI y488.1.f0,.string y488.1.f1,VI y488.1.f2,.slice A490 y488.1.f3.length c491]) (L':=(Blk b1 [.slice A2 a0_0.length c3,VI y488.2.1,VI y488.2.2] 67::Row k24 24 (.slice A490 y488.1.f3.length c491) y488.1.f3::Blk b9 [VI y488.1.f0,.string y488.1.f1,VI y488.1.f2,.slice A490 y488.1.f3.length c491] 24::Blk b6 [VI 0,.string (⟨#[]⟩:ByteArray),VI 0,.slice none 0 0] 24::L)) rfl fsz24 rfl rfl rfl rfl rfl (Nat.le_of_ble_eq_true rfl) rfl rfl ?_)
        refine TL.nil ?_
        exact fun a W hF hO=>⟨y488.2.1,y488.2.2,y488.1.f0,y488.1.f1,y488.1.f2,y488.1.f3,A490,c491,h,hF.sub ⟨rfl,rfl,rfl,trivial⟩,hO.selT (Ls:=[Blk b1 [.slice A2 a0_0.length c3,VI y488.2.1,VI y488.2.2] 67,Blk b6 [VI 0,.string (⟨#[]⟩:ByteArray),VI 0,.slice none 0 0] 24,Blk b9 [VI y488.1.f0,.string y488.1.f1,VI y488.1.f2,.slice A490 y488.1.f3.length c491] 24,Row k24 24 (.slice A490 y488.1.f3.length c491) y488.1.f3]) [0,3,2,1] 4 rfl rfl rfl⟩
def parse_parser_branches.g (rec49:((List S41) → Int → Int → Int → Option (S24 × Int × Int))) (rec68:((List S41) → Int → Int → Int → Option (S24 × Int × Int))) (rec71:((List S41) → Int → Int → S24 → Int → Option (S24 × Int × Int))) (a0_0:(List S41)) (a0_1:Int) (a0_2:Int) (a1:S24) (a2:Int):Option (S24 × Int × Int):=(parse_parser_expr.f a0_0 a0_1 a0_2 (IntKind.i64.wrap (a2 + 1))).bind fun (y12:(S24 × Int × Int))=>(rec49 a0_0 y12.2.1 y12.2.2 (IntKind.i64.wrap (a2 + 1))).bind fun (y28:(S24 × Int × Int))=>(if ([y12.1]:List S24).length < 2513169434916 then jn (γ:=(S24 × Int × Int)) (fun (x42:Bool) (x43:Int)=>jn (γ:=(S24 × Int × Int)) (fun (x64:Int) (x65:Int) (l66:(List S24))=>some ((⟨a1.f0,a1.f1,a1.f2,l66⟩:S24),x64,x65)) (fun (j70:(Int → Int → (List S24) → Option (S24 × Int × Int)))=>(if x42=true then (rec49 a0_0 x43 y28.2.2 (IntKind.i64.wrap (a2 + 1))).bind fun (y81:(S24 × Int × Int))=>(if (([y12.1]:List S24) ++ [y28.1]).length < 2513169434916 then j70 y81.2.1 y81.2.2 ((([y12.1]:List S24) ++ [y28.1]) ++ [y81.1]) else none) else j70 x43 y28.2.2 (([y12.1]:List S24) ++ [y28.1])))) (fun (j44:(Bool → Int → Option (S24 × Int × Int)))=>(if a1.f0=12 then (parse_parser_take.f a0_0 y28.2.1 y28.2.2 (⟨#[101,108,115,101]⟩:ByteArray)).bind fun (y92:(Bool × Int))=>j44 y92.1 y92.2 else j44 false y28.2.1)) else none)
theorem parse_parser_branches.step (rec49:((List S41) → Int → Int → Int → Option (S24 × Int × Int))) (rec68:((List S41) → Int → Int → Int → Option (S24 × Int × Int))) (rec71:((List S41) → Int → Int → S24 → Int → Option (S24 × Int × Int))) (ih49:∀ {G:Gd} {r:(S24 × Int × Int)} {a0_0:(List S41)} {a0_1:Int} {a0_2:Int} {a1:Int} {b1:Nat} {A2:Option Addr} {c3:Nat} (hr4:Rd G k41 A2 a0_0) (hl5:a0_0.length ≤ c3),rec49 a0_0 a0_1 a0_2 a1=some r → Fn Try.prog 49 G [Blk b1 [.slice A2 a0_0.length c3,VI a0_1,VI a0_2] 67] [VP b1 0,VI a1] (parse_parser_block.post G b1 A2 c3 a0_0 a0_1 a0_2 a1 r)) (ih68:∀ {G:Gd} {r:(S24 × Int × Int)} {a0_0:(List S41)} {a0_1:Int} {a0_2:Int} {a1:Int} {b1:Nat} {A2:Option Addr} {c3:Nat} (hr4:Rd G k41 A2 a0_0) (hl5:a0_0.length ≤ c3),rec68 a0_0 a0_1 a0_2 a1=some r → Fn Try.prog 68 G [Blk b1 [.slice A2 a0_0.length c3,VI a0_1,VI a0_2] 67] [VP b1 0,VI a1] (parse_parser_statement.post G b1 A2 c3 a0_0 a0_1 a0_2 a1 r)) (ih71:∀ {G:Gd} {r:(S24 × Int × Int)} {a0_0:(List S41)} {a0_1:Int} {a0_2:Int} {a1:S24} {a2:Int} {b1:Nat} {A2:Option Addr} {c3:Nat} {A6:Option Addr} {c7:Nat} (hr4:Rd G k41 A2 a0_0) (hl5:a0_0.length ≤ c3) (hr8:Rd G k24 A6 a1.f3) (hl9:a1.f3.length ≤ c7),rec71 a0_0 a0_1 a0_2 a1 a2=some r → Fn Try.prog 71 G [Blk b1 [.slice A2 a0_0.length c3,VI a0_1,VI a0_2] 67] [VP b1 0,.agg #[VI a1.f0,.string a1.f1,VI a1.f2,.slice A6 a1.f3.length c7],VI a2] (parse_parser_branches.post G b1 A2 c3 A6 c7 a0_0 a0_1 a0_2 a1 a2 r)) {G:Gd} {r:(S24 × Int × Int)} {a0_0:(List S41)} {a0_1:Int} {a0_2:Int} {a1:S24} {a2:Int} {b1:Nat} {A2:Option Addr} {c3:Nat} {A6:Option Addr} {c7:Nat} (hr4:Rd G k41 A2 a0_0) (hl5:a0_0.length ≤ c3) (hr8:Rd G k24 A6 a1.f3) (hl9:a1.f3.length ≤ c7) (h:parse_parser_branches.g rec49 rec68 rec71 a0_0 a0_1 a0_2 a1 a2=some r):Fn Try.prog 71 G [Blk b1 [.slice A2 a0_0.length c3,VI a0_1,VI a0_2] 67] [VP b1 0,.agg #[VI a1.f0,.string a1.f1,VI a1.f2,.slice A6 a1.f3.length c7],VI a2] (parse_parser_branches.post G b1 A2 c3 A6 c7 a0_0 a0_1 a0_2 a1 a2 r):=by
 refine Fn.intro (e:=[(0,VP b1 0),(1,.agg #[VI a1.f0,.string a1.f1,VI a1.f2,.slice A6 a1.f3.length c7]),(2,VI a2)]) 39 Try.func71 rfl Try.ntmps71 rfl rfl (Nat.le_of_ble_eq_true rfl) (fun L=>?_)
 unfold parse_parser_branches.g at h
 refine TC.seq ?_
 refine TC.region ?_
 refine TL.cons (TL.box (cs:=[VI a1.f0,.string a1.f1,VI a1.f2,.slice A6 a1.f3.length c7]) rfl rfl rfl rfl (fun b10=>?_))
 refine TL.cons (TL.alloc (cs:=[VI 0,.string (⟨#[]⟩:ByteArray),VI 0,.slice none 0 0]) rfl rfl zr24 rfl (fun b11=>?_))
 refine TL.nil ?_
 refine TQ.then_ ?_
 refine TC.seq ?_
 refine TC.region ?_
 refine TV rfl rfl rfl (Val.move rfl) ?_
 refine TV rfl rfl rfl (Val.move rfl) ?_
 refine TV rfl rfl rfl (Val.cmp rfl rfl run_add) ?_
 refine TK.sel (Ls:=[Blk b1 [.slice A2 a0_0.length c3,VI a0_1,VI a0_2] 67,Blk b11 [VI 0,.string (⟨#[]⟩:ByteArray),VI 0,.slice none 0 0] 24,Blk b10 [VI a1.f0,.string a1.f1,VI a1.f2,.slice A6 a1.f3.length c7] 24]) [2,0,1] 3 rfl rfl rfl ?_
 obtain ⟨y12,hy13,h⟩:=bind_no h
 refine TL.cons (TL.callV (Lin:=[Blk b1 [.slice A2 a0_0.length c3,VI a0_1,VI a0_2] 67]) (args:=[VP b1 0,VI (IntKind.i64.wrap (a2 + 1))]) rfl rfl rfl hbd72 rfl rfl (parse_parser_expr.calls (a0_0:=a0_0) (a0_1:=a0_1) (a0_2:=a0_2) (a1:=IntKind.i64.wrap (a2 + 1)) hr4 hl5 hy13) rfl ?_)
 rintro _ _ _ _ ⟨rfl,A14,c15,rfl,rfl⟩
 refine TL.cons (TL.buildSlice (xs:=[.tmp 10]) (vs:=[.agg #[VI y12.1.f0,.string y12.1.f1,VI y12.1.f2,.slice A14 y12.1.f3.length c15]]) (cs:=[VI y12.1.f0,.string y12.1.f1,VI y12.1.f2,.slice A14 y12.1.f3.length c15]) rfl rfl Try.underlying22 zs24 rfl rfl rfl rfl rfl rfl rfl rfl (fun b17=>?_))
 refine TV rfl rfl rfl (Val.fieldAddrB Try.underlying24 rfl fsz22 rfl rfl rfl) ?_
 refine TL.cons (TL.store 4 (ds:=[.slice (some ⟨b17,0,none⟩) 1 1]) (cs':=[VI a1.f0,.string a1.f1,VI a1.f2,.slice (some ⟨b17,0,none⟩) 1 1]) (L':=(Blk b17 [VI y12.1.f0,.string y12.1.f1,VI y12.1.f2,.slice A14 y12.1.f3.length c15] 24::Blk b1 [.slice A2 a0_0.length c3,VI y12.2.1,VI y12.2.2] 67::Row k24 24 (.slice A14 y12.1.f3.length c15) y12.1.f3::Blk b11 [VI 0,.string (⟨#[]⟩:ByteArray),VI 0,.slice none 0 0] 24::Blk b10 [VI a1.f0,.string a1.f1,VI a1.f2,.slice (some ⟨b17,0,none⟩) 1 1] 24::L)) rfl fsz22 rfl rfl rfl rfl rfl (Nat.le_of_ble_eq_true rfl) rfl rfl ?_)
 refine TL.nil ?_
 refine TQ.then_ ?_
 refine TC.seq ?_
 refine TC.new (Els.nil k24) ?_
 refine TC.sel (Ls:=[Row k24 24 (.slice A14 y12.1.f3.length c15) y12.1.f3,Els k24 [] [],Blk b17 [VI y12.1.f0,.string y12.1.f1,VI y12.1.f2,.slice A14 y12.1.f3.length c15] 24,Blk b1 [.slice A2 a0_0.length c3,VI y12.2.1,VI y12.2.2] 67,Blk b11 [VI 0,.string (⟨#[]⟩:ByteArray),VI 0,.slice none 0 0] 24,Blk b10 [VI a1.f0,.string a1.f1,VI a1.f2,.slice (some ⟨b17,0,none⟩) 1 1] 24]) [3,0,1,2,4,5] 6 rfl rfl rfl ?_
 refine TC.conv (ch':=El k24 y12.1 [VI y12.1.f0,.string y12.1.f1,VI y12.1.f2,.slice A14 y12.1.f3.length c15]) (fun B W F hh=>k24_mkM W B F y12.1 hh) ?_
 refine TC.sel (Ls:=[Els k24 [] [],El k24 y12.1 [VI y12.1.f0,.string y12.1.f1,VI y12.1.f2,.slice A14 y12.1.f3.length c15],Blk b17 [VI y12.1.f0,.string y12.1.f1,VI y12.1.f2,.slice A14 y12.1.f3.length c15] 24,Blk b1 [.slice A2 a0_0.length c3,VI y12.2.1,VI y12.2.2] 67,Blk b11 [VI 0,.string (⟨#[]⟩:ByteArray),VI 0,.slice none 0 0] 24,Blk b10 [VI a1.f0,.string a1.f1,VI a1.f2,.slice (some ⟨b17,0,none⟩) 1 1] 24]) [1,0,2,3,4,5] 6 rfl rfl rfl ?_
 refine TC.two (ch:=Els k24 [y12.1] [VI y12.1.f0,.string y12.1.f1,VI y12.1.f2,.slice A14 y12.1.f3.length c15]) (Els.snoc k24) ?_
 refine TC.sel (Ls:=[Blk b17 [VI y12.1.f0,.string y12.1.f1,VI y12.1.f2,.slice A14 y12.1.f3.length c15] 24,Els k24 [y12.1] [VI y12.1.f0,.string y12.1.f1,VI y12.1.f2,.slice A14 y12.1.f3.length c15],Blk b1 [.slice A2 a0_0.length c3,VI y12.2.1,VI y12.2.2] 67,Blk b11 [VI 0,.string (⟨#[]⟩:ByteArray),VI 0,.slice none 0 0] 24,Blk b10 [VI a1.f0,.string a1.f1,VI a1.f2,.slice (some ⟨b17,0,none⟩) 1 1] 24]) [1,0,2,3,4] 5 rfl rfl rfl ?_
 refine TC.two (ch:=Row k24 24 (.slice (some ⟨b17,0,none⟩) 1 1) ([y12.1]:List S24)) (Row.lit k24 rfl rfl) ?_
 refine TC.regionAnyS (L0:=(Blk b11 [VI 0,.string (⟨#[]⟩:ByteArray),VI 0,.slice none 0 0] 24::Blk b10 [VI a1.f0,.string a1.f1,VI a1.f2,.slice (some ⟨b17,0,none⟩) 1 1] 24::L)) [9] [0,1,2,3,4,8] mixed (by kernel_rfl) ?_
 refine TA.take 0 rfl (by kernel_rfl) rfl (PQ.then_ PQ.body) rfl (Val.fieldAddrB Try.underlying24 rfl fsz22 rfl rfl rfl) (fun W hO=>hO.selT (Ls:=[Blk b11 [VI 0,.string (⟨#[]⟩:ByteArray),VI 0,.slice none 0 0] 24,Blk b10 [VI a1.f0,.string a1.f1,VI a1.f2,.slice (some ⟨b17,0,none⟩) 1 1] 24]) [2,3] 4 rfl rfl rfl) ?_
 refine TA.take 1 rfl (by kernel_rfl) rfl (PQ.then_ PQ.body) rfl (Val.loadB 1 agg22 rfl rfl rfl) (fun W hO=>hO.selT (Ls:=[Blk b11 [VI 0,.string (⟨#[]⟩:ByteArray),VI 0,.slice none 0 0] 24,Blk b10 [VI a1.f0,.string a1.f1,VI a1.f2,.slice (some ⟨b17,0,none⟩) 1 1] 24]) [2,3] 4 rfl rfl rfl) ?_
 refine TA.take 2 rfl (by kernel_rfl) rfl (PQ.then_ PQ.body) rfl (Val.move rfl) (fun W hO=>hO.selT (Ls:=[Blk b11 [VI 0,.string (⟨#[]⟩:ByteArray),VI 0,.slice none 0 0] 24,Blk b10 [VI a1.f0,.string a1.f1,VI a1.f2,.slice (some ⟨b17,0,none⟩) 1 1] 24]) [2,3] 4 rfl rfl rfl) ?_
 refine TA.take 3 rfl (by kernel_rfl) rfl (PQ.then_ PQ.body) rfl (Val.move rfl) (fun W hO=>hO.selT (Ls:=[Blk b11 [VI 0,.string (⟨#[]⟩:ByteArray),VI 0,.slice none 0 0] 24,Blk b10 [VI a1.f0,.string a1.f1,VI a1.f2,.slice (some ⟨b17,0,none⟩) 1 1] 24]) [2,3] 4 rfl rfl rfl) ?_
 refine TA.take 4 rfl (by kernel_rfl) rfl (PQ.then_ PQ.body) rfl (Val.cmp rfl rfl run_add) (fun W hO=>hO.selT (Ls:=[Blk b11 [VI 0,.string (⟨#[]⟩:ByteArray),VI 0,.slice none 0 0] 24,Blk b10 [VI a1.f0,.string a1.f1,VI a1.f2,.slice (some ⟨b17,0,none⟩) 1 1] 24]) [2,3] 4 rfl rfl rfl) ?_
 refine TK.sel (Ls:=[Blk b1 [.slice A2 a0_0.length c3,VI y12.2.1,VI y12.2.2] 67,Row k24 24 (.slice (some ⟨b17,0,none⟩) 1 1) ([y12.1]:List S24),Blk b11 [VI 0,.string (⟨#[]⟩:ByteArray),VI 0,.slice none 0 0] 24,Blk b10 [VI a1.f0,.string a1.f1,VI a1.f2,.slice (some ⟨b17,0,none⟩) 1 1] 24]) [1,0,2,3] 4 rfl rfl rfl ?_
 obtain ⟨y28,hy29,h⟩:=bind_no h
 refine TA.eff 5 rfl (by kernel_rfl) rfl (TL.callV (Lin:=[Blk b1 [.slice A2 a0_0.length c3,VI y12.2.1,VI y12.2.2] 67]) (args:=[VP b1 0,VI (IntKind.i64.wrap (a2 + 1))]) rfl rfl rfl hbd49 rfl rfl (ih49 (a0_0:=a0_0) (a0_1:=y12.2.1) (a0_2:=y12.2.2) (a1:=IntKind.i64.wrap (a2 + 1)) hr4 hl5 hy29) rfl ?_)
 rintro _ _ _ _ ⟨rfl,A30,c31,rfl,rfl⟩
 refine TA.next (fun W hO=>hO.selT (Ls:=[Blk b11 [VI 0,.string (⟨#[]⟩:ByteArray),VI 0,.slice none 0 0] 24,Blk b10 [VI a1.f0,.string a1.f1,VI a1.f2,.slice (some ⟨b17,0,none⟩) 1 1] 24]) [3,4] 5 rfl rfl rfl) ?_
 refine TA.eff 6 rfl (by kernel_rfl) rfl (TL.buildSlice (xs:=[.tmp 18]) (vs:=[.agg #[VI y28.1.f0,.string y28.1.f1,VI y28.1.f2,.slice A30 y28.1.f3.length c31]]) (cs:=[VI y28.1.f0,.string y28.1.f1,VI y28.1.f2,.slice A30 y28.1.f3.length c31]) rfl rfl Try.underlying22 zs24 rfl rfl rfl rfl rfl rfl rfl rfl (fun b33=>?_))
 refine TA.next (fun W hO=>hO.selT (Ls:=[Blk b11 [VI 0,.string (⟨#[]⟩:ByteArray),VI 0,.slice none 0 0] 24,Blk b10 [VI a1.f0,.string a1.f1,VI a1.f2,.slice (some ⟨b17,0,none⟩) 1 1] 24]) [4,5] 6 rfl rfl rfl) ?_
 refine TK.sel (Ls:=[Row k24 24 (.slice A30 y28.1.f3.length c31) y28.1.f3,Blk b33 [VI y28.1.f0,.string y28.1.f1,VI y28.1.f2,.slice A30 y28.1.f3.length c31] 24,Blk b1 [.slice A2 a0_0.length c3,VI y28.2.1,VI y28.2.2] 67,Row k24 24 (.slice (some ⟨b17,0,none⟩) 1 1) ([y12.1]:List S24),Blk b11 [VI 0,.string (⟨#[]⟩:ByteArray),VI 0,.slice none 0 0] 24,Blk b10 [VI a1.f0,.string a1.f1,VI a1.f2,.slice (some ⟨b17,0,none⟩) 1 1] 24]) [2,0,1,3,4,5] 6 rfl rfl rfl ?_
 refine TK.conv (ch':=El k24 y28.1 [VI y28.1.f0,.string y28.1.f1,VI y28.1.f2,.slice A30 y28.1.f3.length c31]) (fun B W F hh=>k24_mkM W B F y28.1 hh) ?_
 refine TK.sel (Ls:=[Row k24 24 (.slice (some ⟨b17,0,none⟩) 1 1) ([y12.1]:List S24),El k24 y28.1 [VI y28.1.f0,.string y28.1.f1,VI y28.1.f2,.slice A30 y28.1.f3.length c31],Blk b33 [VI y28.1.f0,.string y28.1.f1,VI y28.1.f2,.slice A30 y28.1.f3.length c31] 24,Blk b1 [.slice A2 a0_0.length c3,VI y28.2.1,VI y28.2.2] 67,Blk b11 [VI 0,.string (⟨#[]⟩:ByteArray),VI 0,.slice none 0 0] 24,Blk b10 [VI a1.f0,.string a1.f1,VI a1.f2,.slice (some ⟨b17,0,none⟩) 1 1] 24]) [3,0,1,2,4,5] 6 rfl rfl rfl ?_
 obtain ⟨ha34,h⟩:=ite_no h
 refine TA.eff 7 rfl (by kernel_rfl) rfl (TL.append (xs:=([y12.1]:List S24)) k24 rfl rfl Try.underlying22 inf24 rfl (Nat.le_of_ble_eq_true rfl) (Nat.le_of_ble_eq_true rfl) rfl rfl (by omega) (fun A35 c36=>?_))
 refine TA.next (fun W hO=>hO.selT (Ls:=[Blk b11 [VI 0,.string (⟨#[]⟩:ByteArray),VI 0,.slice none 0 0] 24,Blk b10 [VI a1.f0,.string a1.f1,VI a1.f2,.slice (some ⟨b17,0,none⟩) 1 1] 24]) [2,3] 4 rfl rfl rfl) ?_
 refine TA.take 8 rfl (by kernel_rfl) rfl (PQ.then_ PQ.body) rfl (Val.fieldAddrB Try.underlying24 rfl fsz22 rfl rfl rfl) (fun W hO=>hO.selT (Ls:=[Blk b11 [VI 0,.string (⟨#[]⟩:ByteArray),VI 0,.slice none 0 0] 24,Blk b10 [VI a1.f0,.string a1.f1,VI a1.f2,.slice (some ⟨b17,0,none⟩) 1 1] 24]) [2,3] 4 rfl rfl rfl) ?_
 refine TA.eff 9 rfl (by kernel_rfl) rfl (TL.store 3 (ds:=[.slice A35 (([y12.1]:List S24) ++ [y28.1]).length c36]) (cs':=[VI a1.f0,.string a1.f1,VI a1.f2,.slice A35 (([y12.1]:List S24) ++ [y28.1]).length c36]) (L':=(Row k24 24 (.slice A35 (([y12.1]:List S24) ++ [y28.1]).length c36) (([y12.1]:List S24) ++ [y28.1])::Blk b1 [.slice A2 a0_0.length c3,VI y28.2.1,VI y28.2.2] 67::Blk b11 [VI 0,.string (⟨#[]⟩:ByteArray),VI 0,.slice none 0 0] 24::Blk b10 [VI a1.f0,.string a1.f1,VI a1.f2,.slice A35 (([y12.1]:List S24) ++ [y28.1]).length c36] 24::L)) rfl fsz22 rfl rfl rfl rfl rfl (Nat.le_of_ble_eq_true rfl) rfl rfl ?_)
 refine TA.last rfl ?_
 refine TA.done (by kernel_rfl) ?_
 refine TQ.then_ ?_
 refine TC.seq ?_
 refine TC.seq ?_
 obtain ⟨j44,hj44,h⟩:=jn_no h
 refine TC.tail (fun a W=>∃ (x42:Bool) (x43:Int),j44 x42 x43=some r∧Fr 39 a [(0,VP b1 0),(2,VI a2),(4,VP b10 0),(6,VP b11 0),(28,.bool x42)]∧Own G (Blk b1 [.slice A2 a0_0.length c3,VI x43,VI y28.2.2] 67::Blk b10 [VI a1.f0,.string a1.f1,VI a1.f2,.slice A35 (([y12.1]:List S24) ++ [y28.1]).length c36] 24::Blk b11 [VI 0,.string (⟨#[]⟩:ByteArray),VI 0,.slice none 0 0] 24::Row k24 24 (.slice A35 (([y12.1]:List S24) ++ [y28.1]).length c36) (([y12.1]:List S24) ++ [y28.1])::L) W) ?_ ?_
 ·
  rintro a W ⟨x42,x43,h,hF,hO⟩
  rw [hj44] at h
  refine TQ.use ?_ hF hO
  clear hF hO
  refine TQ.then_ ?_
  obtain ⟨j70,hj70,h⟩:=jn_no h
  refine TC.tail (fun a W=>∃ (x64:Int) (x65:Int) (l66:(List S24)) (A67:Option Addr) (c68:Nat),j70 x64 x65 l66=some r∧Fr 39 a [(4,VP b10 0),(6,VP b11 0)]∧Own G (Blk b1 [.slice A2 a0_0.length c3,VI x64,VI x65] 67::Blk b10 [VI a1.f0,.string a1.f1,VI a1.f2,.slice A67 l66.length c68] 24::Blk b11 [VI 0,.string (⟨#[]⟩:ByteArray),VI 0,.slice none 0 0] 24::Row k24 24 (.slice A67 l66.length c68) l66::L) W) ?_ ?_
  ·
   rintro a W ⟨x64,x65,l66,A67,c68,h,hF,hO⟩
   rw [hj70] at h
   refine TQ.use ?_ hF hO
   clear hF hO
   refine TQ.then_ ?_
   refine TC.seq ?_
   refine TC.region ?_
   refine TV rfl rfl rfl (Val.loadsB 1 (cs:=[VI a1.f0,.string a1.f1,VI a1.f2,.slice A67 l66.length c68]) agg24 fsz24 rfl rfl rfl rfl) ?_
   refine TL.cons (TL.store 2 (ds:=[VI a1.f0,.string a1.f1,VI a1.f2,.slice A67 l66.length c68]) (cs':=[VI a1.f0,.string a1.f1,VI a1.f2,.slice A67 l66.length c68]) (L':=(Blk b1 [.slice A2 a0_0.length c3,VI x64,VI x65] 67::Blk b10 [VI a1.f0,.string a1.f1,VI a1.f2,.slice A67 l66.length c68] 24::Blk b11 [VI a1.f0,.string a1.f1,VI a1.f2,.slice A67 l66.length c68] 24::Row k24 24 (.slice A67 l66.length c68) l66::L)) rfl fsz24 rfl rfl rfl rfl rfl (Nat.le_of_ble_eq_true rfl) rfl rfl ?_)
   refine TL.nil ?_
   refine TQ.then_ ?_
   refine TC.ret ?_
   obtain rfl:=Option.some.inj h
   exact TQ.fin (.inl rfl) rfl Try.results71 (.cells 2 rfl rfl agg24 fsz24 .nil) rfl (FRel.mk (Ls:=[Blk b1 [.slice A2 a0_0.length c3,VI x64,VI x65] 67,Row k24 24 (.slice A67 l66.length c68) l66]) [0,3] 4 (Gd.le.refl _) rfl rfl rfl ⟨rfl,A67,c68,rfl,rfl⟩)
  ·
   refine TC.cond_b rfl h (fun hc71 h=>?_) (fun hc71 h=>?_)
   ·
    refine TC.regionAnyS (L0:=(Blk b10 [VI a1.f0,.string a1.f1,VI a1.f2,.slice A35 (([y12.1]:List S24) ++ [y28.1]).length c36] 24::Blk b11 [VI 0,.string (⟨#[]⟩:ByteArray),VI 0,.slice none 0 0] 24::L)) [9] [0,1,2,3,4,8] mixed (by kernel_rfl) ?_
    refine TA.take 0 rfl (by kernel_rfl) rfl (PQ.then_ (PQ.then_ PQ.body)) rfl (Val.fieldAddrB Try.underlying24 rfl fsz22 rfl rfl rfl) (fun W hO=>hO.selT (Ls:=[Blk b10 [VI a1.f0,.string a1.f1,VI a1.f2,.slice A35 (([y12.1]:List S24) ++ [y28.1]).length c36] 24,Blk b11 [VI 0,.string (⟨#[]⟩:ByteArray),VI 0,.slice none 0 0] 24]) [1,2] 4 rfl rfl rfl) ?_
    refine TA.take 1 rfl (by kernel_rfl) rfl (PQ.then_ (PQ.then_ PQ.body)) rfl (Val.loadB 0 agg22 rfl rfl rfl) (fun W hO=>hO.selT (Ls:=[Blk b10 [VI a1.f0,.string a1.f1,VI a1.f2,.slice A35 (([y12.1]:List S24) ++ [y28.1]).length c36] 24,Blk b11 [VI 0,.string (⟨#[]⟩:ByteArray),VI 0,.slice none 0 0] 24]) [1,2] 4 rfl rfl rfl) ?_
    refine TA.take 2 rfl (by kernel_rfl) rfl (PQ.then_ (PQ.then_ PQ.body)) rfl (Val.move rfl) (fun W hO=>hO.selT (Ls:=[Blk b10 [VI a1.f0,.string a1.f1,VI a1.f2,.slice A35 (([y12.1]:List S24) ++ [y28.1]).length c36] 24,Blk b11 [VI 0,.string (⟨#[]⟩:ByteArray),VI 0,.slice none 0 0] 24]) [1,2] 4 rfl rfl rfl) ?_
    refine TA.take 3 rfl (by kernel_rfl) rfl (PQ.then_ (PQ.then_ PQ.body)) rfl (Val.move rfl) (fun W hO=>hO.selT (Ls:=[Blk b10 [VI a1.f0,.string a1.f1,VI a1.f2,.slice A35 (([y12.1]:List S24) ++ [y28.1]).length c36] 24,Blk b11 [VI 0,.string (⟨#[]⟩:ByteArray),VI 0,.slice none 0 0] 24]) [1,2] 4 rfl rfl rfl) ?_
    refine TA.take 4 rfl (by kernel_rfl) rfl (PQ.then_ (PQ.then_ PQ.body)) rfl (Val.cmp rfl rfl run_add) (fun W hO=>hO.selT (Ls:=[Blk b10 [VI a1.f0,.string a1.f1,VI a1.f2,.slice A35 (([y12.1]:List S24) ++ [y28.1]).length c36] 24,Blk b11 [VI 0,.string (⟨#[]⟩:ByteArray),VI 0,.slice none 0 0] 24]) [1,2] 4 rfl rfl rfl) ?_
    obtain ⟨y81,hy82,h⟩:=bind_no h
    refine TA.eff 5 rfl (by kernel_rfl) rfl (TL.callV (Lin:=[Blk b1 [.slice A2 a0_0.length c3,VI x43,VI y28.2.2] 67]) (args:=[VP b1 0,VI (IntKind.i64.wrap (a2 + 1))]) rfl rfl rfl hbd49 rfl rfl (ih49 (a0_0:=a0_0) (a0_1:=x43) (a0_2:=y28.2.2) (a1:=IntKind.i64.wrap (a2 + 1)) hr4 hl5 hy82) rfl ?_)
    rintro _ _ _ _ ⟨rfl,A83,c84,rfl,rfl⟩
    refine TA.next (fun W hO=>hO.selT (Ls:=[Blk b10 [VI a1.f0,.string a1.f1,VI a1.f2,.slice A35 (([y12.1]:List S24) ++ [y28.1]).length c36] 24,Blk b11 [VI 0,.string (⟨#[]⟩:ByteArray),VI 0,.slice none 0 0] 24]) [2,3] 5 rfl rfl rfl) ?_
    refine TA.eff 6 rfl (by kernel_rfl) rfl (TL.buildSlice (xs:=[.tmp 34]) (vs:=[.agg #[VI y81.1.f0,.string y81.1.f1,VI y81.1.f2,.slice A83 y81.1.f3.length c84]]) (cs:=[VI y81.1.f0,.string y81.1.f1,VI y81.1.f2,.slice A83 y81.1.f3.length c84]) rfl rfl Try.underlying22 zs24 rfl rfl rfl rfl rfl rfl rfl rfl (fun b86=>?_))
    refine TA.next (fun W hO=>hO.selT (Ls:=[Blk b10 [VI a1.f0,.string a1.f1,VI a1.f2,.slice A35 (([y12.1]:List S24) ++ [y28.1]).length c36] 24,Blk b11 [VI 0,.string (⟨#[]⟩:ByteArray),VI 0,.slice none 0 0] 24]) [3,4] 6 rfl rfl rfl) ?_
    refine TK.sel (Ls:=[Row k24 24 (.slice A83 y81.1.f3.length c84) y81.1.f3,Blk b86 [VI y81.1.f0,.string y81.1.f1,VI y81.1.f2,.slice A83 y81.1.f3.length c84] 24,Blk b1 [.slice A2 a0_0.length c3,VI y81.2.1,VI y81.2.2] 67,Blk b10 [VI a1.f0,.string a1.f1,VI a1.f2,.slice A35 (([y12.1]:List S24) ++ [y28.1]).length c36] 24,Blk b11 [VI 0,.string (⟨#[]⟩:ByteArray),VI 0,.slice none 0 0] 24,Row k24 24 (.slice A35 (([y12.1]:List S24) ++ [y28.1]).length c36) (([y12.1]:List S24) ++ [y28.1])]) [2,0,1,3,4,5] 6 rfl rfl rfl ?_
    refine TK.conv (ch':=El k24 y81.1 [VI y81.1.f0,.string y81.1.f1,VI y81.1.f2,.slice A83 y81.1.f3.length c84]) (fun B W F hh=>k24_mkM W B F y81.1 hh) ?_
    refine TK.sel (Ls:=[Row k24 24 (.slice A35 (([y12.1]:List S24) ++ [y28.1]).length c36) (([y12.1]:List S24) ++ [y28.1]),El k24 y81.1 [VI y81.1.f0,.string y81.1.f1,VI y81.1.f2,.slice A83 y81.1.f3.length c84],Blk b86 [VI y81.1.f0,.string y81.1.f1,VI y81.1.f2,.slice A83 y81.1.f3.length c84] 24,Blk b1 [.slice A2 a0_0.length c3,VI y81.2.1,VI y81.2.2] 67,Blk b10 [VI a1.f0,.string a1.f1,VI a1.f2,.slice A35 (([y12.1]:List S24) ++ [y28.1]).length c36] 24,Blk b11 [VI 0,.string (⟨#[]⟩:ByteArray),VI 0,.slice none 0 0] 24]) [5,0,1,2,3,4] 6 rfl rfl rfl ?_
    obtain ⟨ha87,h⟩:=ite_no h
    refine TA.eff 7 rfl (by kernel_rfl) rfl (TL.append (xs:=(([y12.1]:List S24) ++ [y28.1])) k24 rfl rfl Try.underlying22 inf24 rfl (Nat.le_of_ble_eq_true rfl) (Nat.le_of_ble_eq_true rfl) rfl rfl (by omega) (fun A88 c89=>?_))
    refine TA.next (fun W hO=>hO.selT (Ls:=[Blk b10 [VI a1.f0,.string a1.f1,VI a1.f2,.slice A35 (([y12.1]:List S24) ++ [y28.1]).length c36] 24,Blk b11 [VI 0,.string (⟨#[]⟩:ByteArray),VI 0,.slice none 0 0] 24]) [2,3] 4 rfl rfl rfl) ?_
    refine TA.take 8 rfl (by kernel_rfl) rfl (PQ.then_ (PQ.then_ PQ.body)) rfl (Val.fieldAddrB Try.underlying24 rfl fsz22 rfl rfl rfl) (fun W hO=>hO.selT (Ls:=[Blk b10 [VI a1.f0,.string a1.f1,VI a1.f2,.slice A35 (([y12.1]:List S24) ++ [y28.1]).length c36] 24,Blk b11 [VI 0,.string (⟨#[]⟩:ByteArray),VI 0,.slice none 0 0] 24]) [2,3] 4 rfl rfl rfl) ?_
    refine TA.eff 9 rfl (by kernel_rfl) rfl (TL.store 2 (ds:=[.slice A88 ((([y12.1]:List S24) ++ [y28.1]) ++ [y81.1]).length c89]) (cs':=[VI a1.f0,.string a1.f1,VI a1.f2,.slice A88 ((([y12.1]:List S24) ++ [y28.1]) ++ [y81.1]).length c89]) (L':=(Row k24 24 (.slice A88 ((([y12.1]:List S24) ++ [y28.1]) ++ [y81.1]).length c89) ((([y12.1]:List S24) ++ [y28.1]) ++ [y81.1])::Blk b1 [.slice A2 a0_0.length c3,VI y81.2.1,VI y81.2.2] 67::Blk b10 [VI a1.f0,.string a1.f1,VI a1.f2,.slice A88 ((([y12.1]:List S24) ++ [y28.1]) ++ [y81.1]).length c89] 24::Blk b11 [VI 0,.string (⟨#[]⟩:ByteArray),VI 0,.slice none 0 0] 24::L)) rfl fsz22 rfl rfl rfl rfl rfl (Nat.le_of_ble_eq_true rfl) rfl rfl ?_)
    refine TA.last rfl ?_
    refine TA.done (by kernel_rfl) ?_
    exact fun a W hF hO=>⟨y81.2.1,y81.2.2,((([y12.1]:List S24) ++ [y28.1]) ++ [y81.1]),A88,c89,h,hF.sub ⟨rfl,rfl,trivial⟩,hO.selT (Ls:=[Blk b1 [.slice A2 a0_0.length c3,VI y81.2.1,VI y81.2.2] 67,Blk b10 [VI a1.f0,.string a1.f1,VI a1.f2,.slice A88 ((([y12.1]:List S24) ++ [y28.1]) ++ [y81.1]).length c89] 24,Blk b11 [VI 0,.string (⟨#[]⟩:ByteArray),VI 0,.slice none 0 0] 24,Row k24 24 (.slice A88 ((([y12.1]:List S24) ++ [y28.1]) ++ [y81.1]).length c89) ((([y12.1]:List S24) ++ [y28.1]) ++ [y81.1])]) [1,2,3,0] 4 rfl rfl rfl⟩
   ·
    refine TC.skip ?_
    exact fun a W hF hO=>⟨x43,y28.2.2,(([y12.1]:List S24) ++ [y28.1]),A35,c36,h,hF.sub ⟨rfl,rfl,trivial⟩,hO.selT (Ls:=[Blk b1 [.slice A2 a0_0.length c3,VI x43,VI y28.2.2] 67,Blk b10 [VI a1.f0,.string a1.f1,VI a1.f2,.slice A35 (([y12.1]:List S24) ++ [y28.1]).length c36] 24,Blk b11 [VI 0,.string (⟨#[]⟩:ByteArray),VI 0,.slice none 0 0] 24,Row k24 24 (.slice A35 (([y12.1]:List S24) ++ [y28.1]).length c36) (([y12.1]:List S24) ++ [y28.1])]) [0,1,2,3] 4 rfl rfl rfl⟩
 ·
  refine TC.region ?_
  refine TV rfl rfl rfl (Val.fieldAddrB Try.underlying24 rfl fsz3 rfl rfl rfl) ?_
  refine TV rfl rfl rfl (Val.loadB 3 agg3 rfl rfl rfl) ?_
  refine TV rfl rfl rfl (Val.cmp rfl rfl run_eql) ?_
  refine TV rfl rfl rfl (Val.move rfl) ?_
  refine TK.split (p:=a1.f0=12) h (fun hg90 h=>?_) (fun hg90 h=>?_)
  ·
   have hk91:decide (a1.f0=12)=true:=decide_eq_true hg90
   refine TV (Wt.yes rfl rfl rfl hk91) rfl rfl (Val.move rfl) ?_
   refine TK.sel (Ls:=[Blk b1 [.slice A2 a0_0.length c3,VI y28.2.1,VI y28.2.2] 67,Row k24 24 (.slice A35 (([y12.1]:List S24) ++ [y28.1]).length c36) (([y12.1]:List S24) ++ [y28.1]),Blk b11 [VI 0,.string (⟨#[]⟩:ByteArray),VI 0,.slice none 0 0] 24,Blk b10 [VI a1.f0,.string a1.f1,VI a1.f2,.slice A35 (([y12.1]:List S24) ++ [y28.1]).length c36] 24]) [1,0,2,3] 4 rfl rfl rfl ?_
   obtain ⟨y92,hy93,h⟩:=bind_no h
   refine TL.cons (TL.callV (Lin:=[Blk b1 [.slice A2 a0_0.length c3,VI y28.2.1,VI y28.2.2] 67]) (args:=[VP b1 0,.string (⟨#[101,108,115,101]⟩:ByteArray)]) (Wt.yes rfl rfl rfl hk91) rfl rfl hbd62 rfl rfl (parse_parser_take.calls (a0_0:=a0_0) (a0_1:=y28.2.1) (a0_2:=y28.2.2) (a1:=(⟨#[101,108,115,101]⟩:ByteArray)) hr4 hl5 hy93) rfl ?_)
   rintro _ _ _ _ ⟨rfl,rfl,rfl⟩
   refine TV rfl rfl rfl (Val.pickY rfl hk91 rfl) ?_
   refine TL.nil ?_
   exact fun a W hF hO=>⟨y92.1,y92.2,h,hF.sub ⟨rfl,rfl,rfl,rfl,rfl,trivial⟩,hO.selT (Ls:=[Blk b1 [.slice A2 a0_0.length c3,VI y92.2,VI y28.2.2] 67,Blk b10 [VI a1.f0,.string a1.f1,VI a1.f2,.slice A35 (([y12.1]:List S24) ++ [y28.1]).length c36] 24,Blk b11 [VI 0,.string (⟨#[]⟩:ByteArray),VI 0,.slice none 0 0] 24,Row k24 24 (.slice A35 (([y12.1]:List S24) ++ [y28.1]).length c36) (([y12.1]:List S24) ++ [y28.1])]) [0,3,2,1] 4 rfl rfl rfl⟩
  ·
   have hk94:decide (a1.f0=12)=false:=decide_eq_false hg90
   refine TL.cons (TL.not (Wt.no rfl rfl rfl hk94) rfl ?_)
   refine TL.cons (TL.not (Wt.no rfl rfl rfl hk94) rfl ?_)
   refine TV rfl rfl rfl (Val.pickN rfl hk94 rfl) ?_
   refine TL.nil ?_
   exact fun a W hF hO=>⟨false,y28.2.1,h,hF.sub ⟨rfl,rfl,rfl,rfl,rfl,trivial⟩,hO.selT (Ls:=[Blk b1 [.slice A2 a0_0.length c3,VI y28.2.1,VI y28.2.2] 67,Blk b10 [VI a1.f0,.string a1.f1,VI a1.f2,.slice A35 (([y12.1]:List S24) ++ [y28.1]).length c36] 24,Blk b11 [VI 0,.string (⟨#[]⟩:ByteArray),VI 0,.slice none 0 0] 24,Row k24 24 (.slice A35 (([y12.1]:List S24) ++ [y28.1]).length c36) (([y12.1]:List S24) ++ [y28.1])]) [1,3,2,0] 4 rfl rfl rfl⟩
def parse_parser_block.fix:Nat → ((List S41) → Int → Int → Int → Option (S24 × Int × Int)) × ((List S41) → Int → Int → Int → Option (S24 × Int × Int)) × ((List S41) → Int → Int → S24 → Int → Option (S24 × Int × Int))
 | 0=>((fun _ _ _ _=>none),(fun _ _ _ _=>none),(fun _ _ _ _ _=>none))
 | n + 1=>(parse_parser_block.g (parse_parser_block.fix n).1 (parse_parser_block.fix n).2.1 (parse_parser_block.fix n).2.2,parse_parser_statement.g (parse_parser_block.fix n).1 (parse_parser_block.fix n).2.1 (parse_parser_block.fix n).2.2,parse_parser_branches.g (parse_parser_block.fix n).1 (parse_parser_block.fix n).2.1 (parse_parser_block.fix n).2.2)
theorem parse_parser_block.fixc:∀ k,(∀ {G:Gd} {r:(S24 × Int × Int)} {a0_0:(List S41)} {a0_1:Int} {a0_2:Int} {a1:Int} {b1:Nat} {A2:Option Addr} {c3:Nat} (hr4:Rd G k41 A2 a0_0) (hl5:a0_0.length ≤ c3),(parse_parser_block.fix k).1 a0_0 a0_1 a0_2 a1=some r → Fn Try.prog 49 G [Blk b1 [.slice A2 a0_0.length c3,VI a0_1,VI a0_2] 67] [VP b1 0,VI a1] (parse_parser_block.post G b1 A2 c3 a0_0 a0_1 a0_2 a1 r))∧(∀ {G:Gd} {r:(S24 × Int × Int)} {a0_0:(List S41)} {a0_1:Int} {a0_2:Int} {a1:Int} {b1:Nat} {A2:Option Addr} {c3:Nat} (hr4:Rd G k41 A2 a0_0) (hl5:a0_0.length ≤ c3),(parse_parser_block.fix k).2.1 a0_0 a0_1 a0_2 a1=some r → Fn Try.prog 68 G [Blk b1 [.slice A2 a0_0.length c3,VI a0_1,VI a0_2] 67] [VP b1 0,VI a1] (parse_parser_statement.post G b1 A2 c3 a0_0 a0_1 a0_2 a1 r))∧(∀ {G:Gd} {r:(S24 × Int × Int)} {a0_0:(List S41)} {a0_1:Int} {a0_2:Int} {a1:S24} {a2:Int} {b1:Nat} {A2:Option Addr} {c3:Nat} {A6:Option Addr} {c7:Nat} (hr4:Rd G k41 A2 a0_0) (hl5:a0_0.length ≤ c3) (hr8:Rd G k24 A6 a1.f3) (hl9:a1.f3.length ≤ c7),(parse_parser_block.fix k).2.2 a0_0 a0_1 a0_2 a1 a2=some r → Fn Try.prog 71 G [Blk b1 [.slice A2 a0_0.length c3,VI a0_1,VI a0_2] 67] [VP b1 0,.agg #[VI a1.f0,.string a1.f1,VI a1.f2,.slice A6 a1.f3.length c7],VI a2] (parse_parser_branches.post G b1 A2 c3 A6 c7 a0_0 a0_1 a0_2 a1 a2 r))∧True
 | 0=>⟨(by intros; contradiction),(by intros; contradiction),(by intros; contradiction),trivial⟩
 | k + 1=>by
  have ih:=parse_parser_block.fixc k
  exact ⟨(by
   intro G r a0_0 a0_1 a0_2 a1 b1 A2 c3 hr4 hl5 h
   exact parse_parser_block.step _ _ _ ih.1 ih.2.1 ih.2.2.1 hr4 hl5 h),(by
   intro G r a0_0 a0_1 a0_2 a1 b1 A2 c3 hr4 hl5 h
   exact parse_parser_statement.step _ _ _ ih.1 ih.2.1 ih.2.2.1 hr4 hl5 h),(by
   intro G r a0_0 a0_1 a0_2 a1 a2 b1 A2 c3 A6 c7 hr4 hl5 hr8 hl9 h
   exact parse_parser_branches.step _ _ _ ih.1 ih.2.1 ih.2.2.1 hr4 hl5 hr8 hl9 h),trivial⟩
def parse_parser_block.f (a0_0:(List S41)) (a0_1:Int) (a0_2:Int) (a1:Int):Option (S24 × Int × Int):=(parse_parser_block.fix 100000).1 a0_0 a0_1 a0_2 a1
theorem parse_parser_block.calls {G:Gd} {r:(S24 × Int × Int)} {a0_0:(List S41)} {a0_1:Int} {a0_2:Int} {a1:Int} {b1:Nat} {A2:Option Addr} {c3:Nat} (hr4:Rd G k41 A2 a0_0) (hl5:a0_0.length ≤ c3) (h:parse_parser_block.f a0_0 a0_1 a0_2 a1=some r):Fn Try.prog 49 G [Blk b1 [.slice A2 a0_0.length c3,VI a0_1,VI a0_2] 67] [VP b1 0,VI a1] (parse_parser_block.post G b1 A2 c3 a0_0 a0_1 a0_2 a1 r):=(parse_parser_block.fixc 100000).1 hr4 hl5 h
def parse_parser_statement.f (a0_0:(List S41)) (a0_1:Int) (a0_2:Int) (a1:Int):Option (S24 × Int × Int):=(parse_parser_block.fix 100000).2.1 a0_0 a0_1 a0_2 a1
theorem parse_parser_statement.calls {G:Gd} {r:(S24 × Int × Int)} {a0_0:(List S41)} {a0_1:Int} {a0_2:Int} {a1:Int} {b1:Nat} {A2:Option Addr} {c3:Nat} (hr4:Rd G k41 A2 a0_0) (hl5:a0_0.length ≤ c3) (h:parse_parser_statement.f a0_0 a0_1 a0_2 a1=some r):Fn Try.prog 68 G [Blk b1 [.slice A2 a0_0.length c3,VI a0_1,VI a0_2] 67] [VP b1 0,VI a1] (parse_parser_statement.post G b1 A2 c3 a0_0 a0_1 a0_2 a1 r):=(parse_parser_block.fixc 100000).2.1 hr4 hl5 h
def parse_parser_branches.f (a0_0:(List S41)) (a0_1:Int) (a0_2:Int) (a1:S24) (a2:Int):Option (S24 × Int × Int):=(parse_parser_block.fix 100000).2.2 a0_0 a0_1 a0_2 a1 a2
theorem parse_parser_branches.calls {G:Gd} {r:(S24 × Int × Int)} {a0_0:(List S41)} {a0_1:Int} {a0_2:Int} {a1:S24} {a2:Int} {b1:Nat} {A2:Option Addr} {c3:Nat} {A6:Option Addr} {c7:Nat} (hr4:Rd G k41 A2 a0_0) (hl5:a0_0.length ≤ c3) (hr8:Rd G k24 A6 a1.f3) (hl9:a1.f3.length ≤ c7) (h:parse_parser_branches.f a0_0 a0_1 a0_2 a1 a2=some r):Fn Try.prog 71 G [Blk b1 [.slice A2 a0_0.length c3,VI a0_1,VI a0_2] 67] [VP b1 0,.agg #[VI a1.f0,.string a1.f1,VI a1.f2,.slice A6 a1.f3.length c7],VI a2] (parse_parser_branches.post G b1 A2 c3 A6 c7 a0_0 a0_1 a0_2 a1 a2 r):=(parse_parser_block.fixc 100000).2.2.1 hr4 hl5 hr8 hl9 h
def parse_parser_function.l0 (a0_0:(List S41)):Nat → (List S24) → Int → Int → Option ((List S24) × Int × Int)
 | 0,_,_,_=>none
 | n473 + 1,l438,x442,x443=>(parse_parser_take.f a0_0 x442 x443 (⟨#[44]⟩:ByteArray)).bind fun (y497:(Bool × Int))=>(if y497.1=true then (parse_parser_param.f a0_0 y497.2 x443).bind fun (y510:(S24 × Int × Int))=>(if l438.length < 2513169434916 then parse_parser_function.l0 a0_0 n473 (l438 ++ [y510.1]) y510.2.1 y510.2.2 else none) else some (l438,y497.2,x443))
def parse_parser_function.f (a0_0:(List S41)) (a0_1:Int) (a0_2:Int):Option (S24 × Int × Int):=(parse_parser_start.f a0_0 a0_1 a0_2).bind fun (y7:Int)=>(parse_parser_must.f a0_0 a0_1 a0_2 (⟨#[102,117,110,99]⟩:ByteArray)).bind fun (y10:(Int × Int))=>(parse_parser_text.f a0_0 y10.1 y10.2 1).bind fun (y12:(ByteArray × Int × Int))=>(parse_parser_must.f a0_0 y12.2.1 y12.2.2 (⟨#[40]⟩:ByteArray)).bind fun (y14:(Int × Int))=>(parse_parser_fixed.f a0_0 y14.1 y14.2).bind fun (y16:ByteArray)=>jn (γ:=(S24 × Int × Int)) (fun (x198:Int) (x199:Int) (l200:(List S24))=>(parse_parser_must.f a0_0 x198 x199 (⟨#[41]⟩:ByteArray)).bind fun (y205:(Int × Int))=>(parse_parser_start.f a0_0 y205.1 y205.2).bind fun (y207:Int)=>(parse_parser_fixed.f a0_0 y205.1 y205.2).bind fun (y210:ByteArray)=>jn (γ:=(S24 × Int × Int)) (fun (x218:Int) (x219:Int) (x220:Int) (x221:ByteArray) (x222:Int) (l223:(List S24))=>(parse_parser_block.f a0_0 x218 x219 1).bind fun (y246:(S24 × Int × Int))=>(if l200.length + 2 ≤ 2513169434916 then some ((⟨2,y12.1,y7,(l200 ++ ([(⟨x220,x221,x222,l223⟩:S24),y246.1]:List S24))⟩:S24),y246.2.1,y246.2.2) else none)) (fun (j227:(Int → Int → Int → ByteArray → Int → (List S24) → Option (S24 × Int × Int)))=>(if (!(y210.data.toList == (⟨#[123]⟩:ByteArray).data.toList))=true then (parse_parser_typ.f a0_0 y205.1 y205.2 1).bind fun (y256:(S24 × Int × Int))=>j227 y256.2.1 y256.2.2 y256.1.f0 y256.1.f1 y256.1.f2 y256.1.f3 else j227 y205.1 y205.2 4 (⟨#[]⟩:ByteArray) y207 []))) (fun (j204:(Int → Int → (List S24) → Option (S24 × Int × Int)))=>(if (!(y16.data.toList == (⟨#[41]⟩:ByteArray).data.toList))=true then (parse_parser_param.f a0_0 y14.1 y14.2).bind fun (y368:(S24 × Int × Int))=>(parse_parser_function.l0 a0_0 100000 ([y368.1]:List S24) y368.2.1 y368.2.2).bind fun (l466,x470,x471)=>j204 x470 x471 l466 else j204 y14.1 y14.2 []))
def parse_parser_function.post (G:Gd) (b1:Nat) (A2:Option Addr) (c3:Nat) (a0_0:(List S41)) (a0_1:Int) (a0_2:Int) (r:(S24 × Int × Int)) (v:Value) (G':Gd) (Lr:List Ch):Prop:=G=G'∧∃ (A_1:Option Addr) (c_1:Nat),v=.agg #[VI r.1.f0,.string r.1.f1,VI r.1.f2,.slice A_1 r.1.f3.length c_1]∧Lr=[Blk b1 [.slice A2 a0_0.length c3,VI r.2.1,VI r.2.2] 67,Row k24 24 (.slice A_1 r.1.f3.length c_1) r.1.f3]
theorem parse_parser_function.calls {G:Gd} {r:(S24 × Int × Int)} {a0_0:(List S41)} {a0_1:Int} {a0_2:Int} {b1:Nat} {A2:Option Addr} {c3:Nat} (hr4:Rd G k41 A2 a0_0) (hl5:a0_0.length ≤ c3) (h:parse_parser_function.f a0_0 a0_1 a0_2=some r):Fn Try.prog 30 G [Blk b1 [.slice A2 a0_0.length c3,VI a0_1,VI a0_2] 67] [VP b1 0] (parse_parser_function.post G b1 A2 c3 a0_0 a0_1 a0_2 r):=by
 refine Fn.intro (e:=[(0,VP b1 0)]) 42 Try.func30 rfl Try.ntmps30 rfl rfl (Nat.le_of_ble_eq_true rfl) (fun L=>?_)
 unfold parse_parser_function.f at h
 refine TC.seq ?_
 refine TC.region ?_
 refine TL.cons (TL.alloc (cs:=[VI 0,.string (⟨#[]⟩:ByteArray),VI 0,.slice none 0 0]) rfl rfl zr24 rfl (fun b6=>?_))
 refine TL.nil ?_
 refine TQ.then_ ?_
 refine TC.seq ?_
 refine TC.region ?_
 refine TV rfl rfl rfl (Val.move rfl) ?_
 refine TK.sel (Ls:=[Blk b1 [.slice A2 a0_0.length c3,VI a0_1,VI a0_2] 67,Blk b6 [VI 0,.string (⟨#[]⟩:ByteArray),VI 0,.slice none 0 0] 24]) [1,0] 2 rfl rfl rfl ?_
 obtain ⟨y7,hy8,h⟩:=bind_no h
 refine TL.cons (TL.callV (Lin:=[Blk b1 [.slice A2 a0_0.length c3,VI a0_1,VI a0_2] 67]) (args:=[VP b1 0]) rfl rfl rfl hbd29 rfl rfl (parse_parser_start.calls (a0_0:=a0_0) (a0_1:=a0_1) (a0_2:=a0_2) hr4 hl5 hy8) rfl ?_)
 rintro _ _ _ _ ⟨rfl,rfl,rfl⟩
 refine TV rfl rfl rfl (Val.build (cs:=[VI 2,.string (⟨#[]⟩:ByteArray),VI y7,.slice none 0 0]) (is:=[0,2]) (xs:=[.const (VI 2),.tmp 6]) Try.underlying24 zr24 bld24 rfl rfl rfl rfl) ?_
 refine TL.cons (TL.alloc (cs:=[VI 0,.string (⟨#[]⟩:ByteArray),VI 0,.slice none 0 0]) rfl rfl zr24 rfl (fun b9=>?_))
 refine TL.cons (TL.store 0 (ds:=[VI 2,.string (⟨#[]⟩:ByteArray),VI y7,.slice none 0 0]) (cs':=[VI 2,.string (⟨#[]⟩:ByteArray),VI y7,.slice none 0 0]) (L':=(Blk b9 [VI 2,.string (⟨#[]⟩:ByteArray),VI y7,.slice none 0 0] 24::Blk b1 [.slice A2 a0_0.length c3,VI a0_1,VI a0_2] 67::Blk b6 [VI 0,.string (⟨#[]⟩:ByteArray),VI 0,.slice none 0 0] 24::L)) rfl fsz24 rfl rfl rfl rfl rfl (Nat.le_of_ble_eq_true rfl) rfl rfl ?_)
 refine TL.nil ?_
 refine TQ.then_ ?_
 refine TC.seq ?_
 refine TC.region ?_
 refine TV rfl rfl rfl (Val.move rfl) ?_
 refine TK.sel (Ls:=[Blk b1 [.slice A2 a0_0.length c3,VI a0_1,VI a0_2] 67,Blk b9 [VI 2,.string (⟨#[]⟩:ByteArray),VI y7,.slice none 0 0] 24,Blk b6 [VI 0,.string (⟨#[]⟩:ByteArray),VI 0,.slice none 0 0] 24]) [1,0,2] 3 rfl rfl rfl ?_
 obtain ⟨y10,hy11,h⟩:=bind_no h
 refine TL.cons (TL.callV (Lin:=[Blk b1 [.slice A2 a0_0.length c3,VI a0_1,VI a0_2] 67]) (args:=[VP b1 0,.string (⟨#[102,117,110,99]⟩:ByteArray)]) rfl rfl rfl hbd43 rfl rfl (parse_parser_must.calls (a0_0:=a0_0) (a0_1:=a0_1) (a0_2:=a0_2) (a1:=(⟨#[102,117,110,99]⟩:ByteArray)) hr4 hl5 hy11) rfl ?_)
 rintro _ _ _ _ ⟨rfl,rfl,rfl⟩
 refine TL.nil ?_
 refine TQ.then_ ?_
 refine TC.seq ?_
 refine TC.region ?_
 refine TV rfl rfl rfl (Val.move rfl) ?_
 obtain ⟨y12,hy13,h⟩:=bind_no h
 refine TL.cons (TL.callV (Lin:=[Blk b1 [.slice A2 a0_0.length c3,VI y10.1,VI y10.2] 67]) (args:=[VP b1 0,VI 1]) rfl rfl rfl hbd44 rfl rfl (parse_parser_text.calls (a0_0:=a0_0) (a0_1:=y10.1) (a0_2:=y10.2) (a1:=1) hr4 hl5 hy13) rfl ?_)
 rintro _ _ _ _ ⟨rfl,rfl,rfl⟩
 refine TV rfl rfl rfl (Val.fieldAddrB Try.underlying24 rfl fsz9 rfl rfl rfl) ?_
 refine TL.cons (TL.store 1 (ds:=[.string y12.1]) (cs':=[VI 2,.string y12.1,VI y7,.slice none 0 0]) (L':=(Blk b1 [.slice A2 a0_0.length c3,VI y12.2.1,VI y12.2.2] 67::Blk b9 [VI 2,.string y12.1,VI y7,.slice none 0 0] 24::Blk b6 [VI 0,.string (⟨#[]⟩:ByteArray),VI 0,.slice none 0 0] 24::L)) rfl fsz9 rfl rfl rfl rfl rfl (Nat.le_of_ble_eq_true rfl) rfl rfl ?_)
 refine TL.nil ?_
 refine TQ.then_ ?_
 refine TC.seq ?_
 refine TC.region ?_
 refine TV rfl rfl rfl (Val.move rfl) ?_
 obtain ⟨y14,hy15,h⟩:=bind_no h
 refine TL.cons (TL.callV (Lin:=[Blk b1 [.slice A2 a0_0.length c3,VI y12.2.1,VI y12.2.2] 67]) (args:=[VP b1 0,.string (⟨#[40]⟩:ByteArray)]) rfl rfl rfl hbd43 rfl rfl (parse_parser_must.calls (a0_0:=a0_0) (a0_1:=y12.2.1) (a0_2:=y12.2.2) (a1:=(⟨#[40]⟩:ByteArray)) hr4 hl5 hy15) rfl ?_)
 rintro _ _ _ _ ⟨rfl,rfl,rfl⟩
 refine TL.nil ?_
 refine TQ.then_ ?_
 refine TC.seq ?_
 refine TC.seq ?_
 refine TC.region ?_
 refine TV rfl rfl rfl (Val.move rfl) ?_
 obtain ⟨y16,hy17,h⟩:=bind_no h
 refine TL.cons (TL.callV (Lin:=[Blk b1 [.slice A2 a0_0.length c3,VI y14.1,VI y14.2] 67]) (args:=[VP b1 0]) rfl rfl rfl hbd45 rfl rfl (parse_parser_fixed.calls (a0_0:=a0_0) (a0_1:=y14.1) (a0_2:=y14.2) hr4 hl5 hy17) rfl ?_)
 rintro _ _ _ _ ⟨rfl,rfl,rfl⟩
 refine TV rfl rfl rfl (Val.neT rfl rfl) ?_
 refine TL.nil ?_
 refine TQ.then_ ?_
 obtain ⟨j204,hj204,h⟩:=jn_no h
 refine TC.tail (fun a W=>∃ (x198:Int) (x199:Int) (l200:(List S24)) (A201:Option Addr) (c202:Nat),j204 x198 x199 l200=some r∧Fr 42 a [(0,VP b1 0),(2,VP b6 0),(3,VP b9 0)]∧Own G (Blk b1 [.slice A2 a0_0.length c3,VI x198,VI x199] 67::Blk b6 [VI 0,.string (⟨#[]⟩:ByteArray),VI 0,.slice none 0 0] 24::Blk b9 [VI 2,.string y12.1,VI y7,.slice A201 l200.length c202] 24::Row k24 24 (.slice A201 l200.length c202) l200::L) W) ?_ ?_
 ·
  rintro a W ⟨x198,x199,l200,A201,c202,h,hF,hO⟩
  rw [hj204] at h
  refine TQ.use ?_ hF hO
  clear hF hO
  refine TQ.then_ ?_
  refine TC.seq ?_
  refine TC.region ?_
  refine TV rfl rfl rfl (Val.move rfl) ?_
  obtain ⟨y205,hy206,h⟩:=bind_no h
  refine TL.cons (TL.callV (Lin:=[Blk b1 [.slice A2 a0_0.length c3,VI x198,VI x199] 67]) (args:=[VP b1 0,.string (⟨#[41]⟩:ByteArray)]) rfl rfl rfl hbd43 rfl rfl (parse_parser_must.calls (a0_0:=a0_0) (a0_1:=x198) (a0_2:=x199) (a1:=(⟨#[41]⟩:ByteArray)) hr4 hl5 hy206) rfl ?_)
  rintro _ _ _ _ ⟨rfl,rfl,rfl⟩
  refine TL.nil ?_
  refine TQ.then_ ?_
  refine TC.seq ?_
  refine TC.region ?_
  refine TV rfl rfl rfl (Val.move rfl) ?_
  obtain ⟨y207,hy208,h⟩:=bind_no h
  refine TL.cons (TL.callV (Lin:=[Blk b1 [.slice A2 a0_0.length c3,VI y205.1,VI y205.2] 67]) (args:=[VP b1 0]) rfl rfl rfl hbd29 rfl rfl (parse_parser_start.calls (a0_0:=a0_0) (a0_1:=y205.1) (a0_2:=y205.2) hr4 hl5 hy208) rfl ?_)
  rintro _ _ _ _ ⟨rfl,rfl,rfl⟩
  refine TV rfl rfl rfl (Val.build (cs:=[VI 4,.string (⟨#[]⟩:ByteArray),VI y207,.slice none 0 0]) (is:=[0,2]) (xs:=[.const (VI 4),.tmp 26]) Try.underlying24 zr24 bld24 rfl rfl rfl rfl) ?_
  refine TL.cons (TL.alloc (cs:=[VI 0,.string (⟨#[]⟩:ByteArray),VI 0,.slice none 0 0]) rfl rfl zr24 rfl (fun b209=>?_))
  refine TL.cons (TL.store 0 (ds:=[VI 4,.string (⟨#[]⟩:ByteArray),VI y207,.slice none 0 0]) (cs':=[VI 4,.string (⟨#[]⟩:ByteArray),VI y207,.slice none 0 0]) (L':=(Blk b209 [VI 4,.string (⟨#[]⟩:ByteArray),VI y207,.slice none 0 0] 24::Blk b1 [.slice A2 a0_0.length c3,VI y205.1,VI y205.2] 67::Blk b6 [VI 0,.string (⟨#[]⟩:ByteArray),VI 0,.slice none 0 0] 24::Blk b9 [VI 2,.string y12.1,VI y7,.slice A201 l200.length c202] 24::Row k24 24 (.slice A201 l200.length c202) l200::L)) rfl fsz24 rfl rfl rfl rfl rfl (Nat.le_of_ble_eq_true rfl) rfl rfl ?_)
  refine TL.nil ?_
  refine TQ.then_ ?_
  refine TC.seq ?_
  refine TC.seq ?_
  refine TC.region ?_
  refine TV rfl rfl rfl (Val.move rfl) ?_
  refine TK.sel (Ls:=[Blk b1 [.slice A2 a0_0.length c3,VI y205.1,VI y205.2] 67,Blk b209 [VI 4,.string (⟨#[]⟩:ByteArray),VI y207,.slice none 0 0] 24,Blk b6 [VI 0,.string (⟨#[]⟩:ByteArray),VI 0,.slice none 0 0] 24,Blk b9 [VI 2,.string y12.1,VI y7,.slice A201 l200.length c202] 24,Row k24 24 (.slice A201 l200.length c202) l200]) [1,0,2,3,4] 5 rfl rfl rfl ?_
  obtain ⟨y210,hy211,h⟩:=bind_no h
  refine TL.cons (TL.callV (Lin:=[Blk b1 [.slice A2 a0_0.length c3,VI y205.1,VI y205.2] 67]) (args:=[VP b1 0]) rfl rfl rfl hbd45 rfl rfl (parse_parser_fixed.calls (a0_0:=a0_0) (a0_1:=y205.1) (a0_2:=y205.2) hr4 hl5 hy211) rfl ?_)
  rintro _ _ _ _ ⟨rfl,rfl,rfl⟩
  refine TV rfl rfl rfl (Val.neT rfl rfl) ?_
  refine TL.nil ?_
  refine TQ.then_ ?_
  obtain ⟨j227,hj227,h⟩:=jn_no h
  refine TC.tail (fun a W=>∃ (x218:Int) (x219:Int) (x220:Int) (x221:ByteArray) (x222:Int) (l223:(List S24)) (A224:Option Addr) (c225:Nat),j227 x218 x219 x220 x221 x222 l223=some r∧Fr 42 a [(0,VP b1 0),(2,VP b6 0),(3,VP b9 0),(4,VP b209 0)]∧Own G (Blk b1 [.slice A2 a0_0.length c3,VI x218,VI x219] 67::Blk b209 [VI x220,.string x221,VI x222,.slice A224 l223.length c225] 24::Blk b6 [VI 0,.string (⟨#[]⟩:ByteArray),VI 0,.slice none 0 0] 24::Blk b9 [VI 2,.string y12.1,VI y7,.slice A201 l200.length c202] 24::Row k24 24 (.slice A224 l223.length c225) l223::Row k24 24 (.slice A201 l200.length c202) l200::L) W) ?_ ?_
  ·
   rintro a W ⟨x218,x219,x220,x221,x222,l223,A224,c225,h,hF,hO⟩
   rw [hj227] at h
   refine TQ.use ?_ hF hO
   clear hF hO
   refine TQ.then_ ?_
   refine TC.seq ?_
   refine TC.regionAnyS (L0:=(Blk b209 [VI x220,.string x221,VI x222,.slice A224 l223.length c225] 24::Blk b6 [VI 0,.string (⟨#[]⟩:ByteArray),VI 0,.slice none 0 0] 24::Blk b9 [VI 2,.string y12.1,VI y7,.slice A201 l200.length c202] 24::Row k24 24 (.slice A224 l223.length c225) l223::Row k24 24 (.slice A201 l200.length c202) l200::L)) [6,7,8] [0,1,2,3] mixed (by kernel_rfl) ?_
   refine TA.take 0 rfl (by kernel_rfl) rfl (PQ.then_ PQ.body) rfl (Val.fieldAddrB Try.underlying24 rfl fsz22 rfl rfl rfl) (fun W hO=>hO.selT (Ls:=[Blk b209 [VI x220,.string x221,VI x222,.slice A224 l223.length c225] 24,Blk b6 [VI 0,.string (⟨#[]⟩:ByteArray),VI 0,.slice none 0 0] 24,Blk b9 [VI 2,.string y12.1,VI y7,.slice A201 l200.length c202] 24,Row k24 24 (.slice A224 l223.length c225) l223,Row k24 24 (.slice A201 l200.length c202) l200]) [1,2,3,4,5] 6 rfl rfl rfl) ?_
   refine TA.take 1 rfl (by kernel_rfl) rfl (PQ.then_ PQ.body) rfl (Val.loadB 2 agg22 rfl rfl rfl) (fun W hO=>hO.selT (Ls:=[Blk b209 [VI x220,.string x221,VI x222,.slice A224 l223.length c225] 24,Blk b6 [VI 0,.string (⟨#[]⟩:ByteArray),VI 0,.slice none 0 0] 24,Blk b9 [VI 2,.string y12.1,VI y7,.slice A201 l200.length c202] 24,Row k24 24 (.slice A224 l223.length c225) l223,Row k24 24 (.slice A201 l200.length c202) l200]) [1,2,3,4,5] 6 rfl rfl rfl) ?_
   refine TA.take 2 rfl (by kernel_rfl) rfl (PQ.then_ PQ.body) rfl (Val.loadsB 0 (cs:=[VI x220,.string x221,VI x222,.slice A224 l223.length c225]) agg24 fsz24 rfl rfl rfl rfl) (fun W hO=>hO.selT (Ls:=[Blk b209 [VI x220,.string x221,VI x222,.slice A224 l223.length c225] 24,Blk b6 [VI 0,.string (⟨#[]⟩:ByteArray),VI 0,.slice none 0 0] 24,Blk b9 [VI 2,.string y12.1,VI y7,.slice A201 l200.length c202] 24,Row k24 24 (.slice A224 l223.length c225) l223,Row k24 24 (.slice A201 l200.length c202) l200]) [1,2,3,4,5] 6 rfl rfl rfl) ?_
   refine TA.take 3 rfl (by kernel_rfl) rfl (PQ.then_ PQ.body) rfl (Val.move rfl) (fun W hO=>hO.selT (Ls:=[Blk b209 [VI x220,.string x221,VI x222,.slice A224 l223.length c225] 24,Blk b6 [VI 0,.string (⟨#[]⟩:ByteArray),VI 0,.slice none 0 0] 24,Blk b9 [VI 2,.string y12.1,VI y7,.slice A201 l200.length c202] 24,Row k24 24 (.slice A224 l223.length c225) l223,Row k24 24 (.slice A201 l200.length c202) l200]) [1,2,3,4,5] 6 rfl rfl rfl) ?_
   obtain ⟨y246,hy247,h⟩:=bind_no h
   refine TA.eff 4 rfl (by kernel_rfl) rfl (TL.callV (Lin:=[Blk b1 [.slice A2 a0_0.length c3,VI x218,VI x219] 67]) (args:=[VP b1 0,VI 1]) rfl rfl rfl hbd49 rfl rfl (parse_parser_block.calls (a0_0:=a0_0) (a0_1:=x218) (a0_2:=x219) (a1:=1) hr4 hl5 hy247) rfl ?_)
   rintro _ _ _ _ ⟨rfl,A248,c249,rfl,rfl⟩
   refine TA.next (fun W hO=>hO.selT (Ls:=[Blk b209 [VI x220,.string x221,VI x222,.slice A224 l223.length c225] 24,Blk b6 [VI 0,.string (⟨#[]⟩:ByteArray),VI 0,.slice none 0 0] 24,Blk b9 [VI 2,.string y12.1,VI y7,.slice A201 l200.length c202] 24,Row k24 24 (.slice A224 l223.length c225) l223,Row k24 24 (.slice A201 l200.length c202) l200]) [2,3,4,5,6] 7 rfl rfl rfl) ?_
   refine TA.eff 5 rfl (by kernel_rfl) rfl (TL.buildSlice (xs:=[.tmp 35,.tmp 37]) (vs:=[.agg #[VI x220,.string x221,VI x222,.slice A224 l223.length c225],.agg #[VI y246.1.f0,.string y246.1.f1,VI y246.1.f2,.slice A248 y246.1.f3.length c249]]) (cs:=[VI x220,.string x221,VI x222,.slice A224 l223.length c225,VI y246.1.f0,.string y246.1.f1,VI y246.1.f2,.slice A248 y246.1.f3.length c249]) rfl rfl Try.underlying22 zs24 rfl rfl rfl rfl rfl rfl rfl rfl (fun b251=>?_))
   refine TA.next (fun W hO=>hO.selT (Ls:=[Blk b209 [VI x220,.string x221,VI x222,.slice A224 l223.length c225] 24,Blk b6 [VI 0,.string (⟨#[]⟩:ByteArray),VI 0,.slice none 0 0] 24,Blk b9 [VI 2,.string y12.1,VI y7,.slice A201 l200.length c202] 24,Row k24 24 (.slice A224 l223.length c225) l223,Row k24 24 (.slice A201 l200.length c202) l200]) [3,4,5,6,7] 8 rfl rfl rfl) ?_
   refine TK.new (Els.nil k24) ?_
   refine TK.sel (Ls:=[Row k24 24 (.slice A224 l223.length c225) l223,Els k24 [] [],Blk b251 [VI x220,.string x221,VI x222,.slice A224 l223.length c225,VI y246.1.f0,.string y246.1.f1,VI y246.1.f2,.slice A248 y246.1.f3.length c249] 24,Blk b1 [.slice A2 a0_0.length c3,VI y246.2.1,VI y246.2.2] 67,Row k24 24 (.slice A248 y246.1.f3.length c249) y246.1.f3,Blk b209 [VI x220,.string x221,VI x222,.slice A224 l223.length c225] 24,Blk b6 [VI 0,.string (⟨#[]⟩:ByteArray),VI 0,.slice none 0 0] 24,Blk b9 [VI 2,.string y12.1,VI y7,.slice A201 l200.length c202] 24,Row k24 24 (.slice A201 l200.length c202) l200]) [7,0,1,2,3,4,5,6,8] 9 rfl rfl rfl ?_
   refine TK.conv (ch':=El k24 (⟨x220,x221,x222,l223⟩:S24) [VI x220,.string x221,VI x222,.slice A224 l223.length c225]) (fun B W F hh=>k24_mkM W B F (⟨x220,x221,x222,l223⟩:S24) hh) ?_
   refine TK.sel (Ls:=[Els k24 [] [],El k24 (⟨x220,x221,x222,l223⟩:S24) [VI x220,.string x221,VI x222,.slice A224 l223.length c225],Blk b251 [VI x220,.string x221,VI x222,.slice A224 l223.length c225,VI y246.1.f0,.string y246.1.f1,VI y246.1.f2,.slice A248 y246.1.f3.length c249] 24,Blk b1 [.slice A2 a0_0.length c3,VI y246.2.1,VI y246.2.2] 67,Row k24 24 (.slice A248 y246.1.f3.length c249) y246.1.f3,Blk b209 [VI x220,.string x221,VI x222,.slice A224 l223.length c225] 24,Blk b6 [VI 0,.string (⟨#[]⟩:ByteArray),VI 0,.slice none 0 0] 24,Blk b9 [VI 2,.string y12.1,VI y7,.slice A201 l200.length c202] 24,Row k24 24 (.slice A201 l200.length c202) l200]) [1,0,2,3,4,5,6,7,8] 9 rfl rfl rfl ?_
   refine TK.two (ch:=Els k24 [(⟨x220,x221,x222,l223⟩:S24)] [VI x220,.string x221,VI x222,.slice A224 l223.length c225]) (Els.snoc k24) ?_
   refine TK.sel (Ls:=[Row k24 24 (.slice A248 y246.1.f3.length c249) y246.1.f3,Els k24 [(⟨x220,x221,x222,l223⟩:S24)] [VI x220,.string x221,VI x222,.slice A224 l223.length c225],Blk b251 [VI x220,.string x221,VI x222,.slice A224 l223.length c225,VI y246.1.f0,.string y246.1.f1,VI y246.1.f2,.slice A248 y246.1.f3.length c249] 24,Blk b1 [.slice A2 a0_0.length c3,VI y246.2.1,VI y246.2.2] 67,Blk b209 [VI x220,.string x221,VI x222,.slice A224 l223.length c225] 24,Blk b6 [VI 0,.string (⟨#[]⟩:ByteArray),VI 0,.slice none 0 0] 24,Blk b9 [VI 2,.string y12.1,VI y7,.slice A201 l200.length c202] 24,Row k24 24 (.slice A201 l200.length c202) l200]) [3,0,1,2,4,5,6,7] 8 rfl rfl rfl ?_
   refine TK.conv (ch':=El k24 y246.1 [VI y246.1.f0,.string y246.1.f1,VI y246.1.f2,.slice A248 y246.1.f3.length c249]) (fun B W F hh=>k24_mkM W B F y246.1 hh) ?_
   refine TK.sel (Ls:=[Els k24 [(⟨x220,x221,x222,l223⟩:S24)] [VI x220,.string x221,VI x222,.slice A224 l223.length c225],El k24 y246.1 [VI y246.1.f0,.string y246.1.f1,VI y246.1.f2,.slice A248 y246.1.f3.length c249],Blk b251 [VI x220,.string x221,VI x222,.slice A224 l223.length c225,VI y246.1.f0,.string y246.1.f1,VI y246.1.f2,.slice A248 y246.1.f3.length c249] 24,Blk b1 [.slice A2 a0_0.length c3,VI y246.2.1,VI y246.2.2] 67,Blk b209 [VI x220,.string x221,VI x222,.slice A224 l223.length c225] 24,Blk b6 [VI 0,.string (⟨#[]⟩:ByteArray),VI 0,.slice none 0 0] 24,Blk b9 [VI 2,.string y12.1,VI y7,.slice A201 l200.length c202] 24,Row k24 24 (.slice A201 l200.length c202) l200]) [1,0,2,3,4,5,6,7] 8 rfl rfl rfl ?_
   refine TK.two (ch:=Els k24 [(⟨x220,x221,x222,l223⟩:S24),y246.1] [VI x220,.string x221,VI x222,.slice A224 l223.length c225,VI y246.1.f0,.string y246.1.f1,VI y246.1.f2,.slice A248 y246.1.f3.length c249]) (Els.snoc k24) ?_
   refine TK.sel (Ls:=[Row k24 24 (.slice A201 l200.length c202) l200,Els k24 [(⟨x220,x221,x222,l223⟩:S24),y246.1] [VI x220,.string x221,VI x222,.slice A224 l223.length c225,VI y246.1.f0,.string y246.1.f1,VI y246.1.f2,.slice A248 y246.1.f3.length c249],Blk b251 [VI x220,.string x221,VI x222,.slice A224 l223.length c225,VI y246.1.f0,.string y246.1.f1,VI y246.1.f2,.slice A248 y246.1.f3.length c249] 24,Blk b1 [.slice A2 a0_0.length c3,VI y246.2.1,VI y246.2.2] 67,Blk b209 [VI x220,.string x221,VI x222,.slice A224 l223.length c225] 24,Blk b6 [VI 0,.string (⟨#[]⟩:ByteArray),VI 0,.slice none 0 0] 24,Blk b9 [VI 2,.string y12.1,VI y7,.slice A201 l200.length c202] 24]) [6,0,1,2,3,4,5] 7 rfl rfl rfl ?_
   obtain ⟨ha252,h⟩:=ite_no h
   refine TA.eff 6 rfl (by kernel_rfl) rfl (TL.appendE (xs:=l200) (ys:=([(⟨x220,x221,x222,l223⟩:S24),y246.1]:List S24)) k24 rfl rfl Try.underlying22 inf24 rfl (Nat.le_of_ble_eq_true rfl) (Nat.le_of_ble_eq_true rfl) rfl rfl rfl (by omega) (fun A253 c254=>?_))
   refine TA.last rfl ?_
   refine TA.eff 7 rfl (by kernel_rfl) rfl (TO.val rfl rfl rfl (Val.fieldAddrB Try.underlying24 rfl fsz22 rfl rfl rfl) ?_)
   refine TA.last rfl ?_
   refine TA.eff 8 rfl (by kernel_rfl) rfl (TL.store 4 (ds:=[.slice A253 (l200 ++ ([(⟨x220,x221,x222,l223⟩:S24),y246.1]:List S24)).length c254]) (cs':=[VI 2,.string y12.1,VI y7,.slice A253 (l200 ++ ([(⟨x220,x221,x222,l223⟩:S24),y246.1]:List S24)).length c254]) (L':=(Row k24 24 (.slice A253 (l200 ++ ([(⟨x220,x221,x222,l223⟩:S24),y246.1]:List S24)).length c254) (l200 ++ ([(⟨x220,x221,x222,l223⟩:S24),y246.1]:List S24))::Blk b1 [.slice A2 a0_0.length c3,VI y246.2.1,VI y246.2.2] 67::Blk b209 [VI x220,.string x221,VI x222,.slice A224 l223.length c225] 24::Blk b6 [VI 0,.string (⟨#[]⟩:ByteArray),VI 0,.slice none 0 0] 24::Blk b9 [VI 2,.string y12.1,VI y7,.slice A253 (l200 ++ ([(⟨x220,x221,x222,l223⟩:S24),y246.1]:List S24)).length c254] 24::L)) rfl fsz22 rfl rfl rfl rfl rfl (Nat.le_of_ble_eq_true rfl) rfl rfl ?_)
   refine TA.last rfl ?_
   refine TA.done (by kernel_rfl) ?_
   refine TQ.then_ ?_
   refine TC.seq ?_
   refine TC.region ?_
   refine TV rfl rfl rfl (Val.loadsB 4 (cs:=[VI 2,.string y12.1,VI y7,.slice A253 (l200 ++ ([(⟨x220,x221,x222,l223⟩:S24),y246.1]:List S24)).length c254]) agg24 fsz24 rfl rfl rfl rfl) ?_
   refine TL.cons (TL.store 3 (ds:=[VI 2,.string y12.1,VI y7,.slice A253 (l200 ++ ([(⟨x220,x221,x222,l223⟩:S24),y246.1]:List S24)).length c254]) (cs':=[VI 2,.string y12.1,VI y7,.slice A253 (l200 ++ ([(⟨x220,x221,x222,l223⟩:S24),y246.1]:List S24)).length c254]) (L':=(Row k24 24 (.slice A253 (l200 ++ ([(⟨x220,x221,x222,l223⟩:S24),y246.1]:List S24)).length c254) (l200 ++ ([(⟨x220,x221,x222,l223⟩:S24),y246.1]:List S24))::Blk b1 [.slice A2 a0_0.length c3,VI y246.2.1,VI y246.2.2] 67::Blk b209 [VI x220,.string x221,VI x222,.slice A224 l223.length c225] 24::Blk b6 [VI 2,.string y12.1,VI y7,.slice A253 (l200 ++ ([(⟨x220,x221,x222,l223⟩:S24),y246.1]:List S24)).length c254] 24::Blk b9 [VI 2,.string y12.1,VI y7,.slice A253 (l200 ++ ([(⟨x220,x221,x222,l223⟩:S24),y246.1]:List S24)).length c254] 24::L)) rfl fsz24 rfl rfl rfl rfl rfl (Nat.le_of_ble_eq_true rfl) rfl rfl ?_)
   refine TL.nil ?_
   refine TQ.then_ ?_
   refine TC.ret ?_
   obtain rfl:=Option.some.inj h
   exact TQ.fin (.inl rfl) rfl Try.results30 (.cells 3 rfl rfl agg24 fsz24 .nil) rfl (FRel.mk (Ls:=[Blk b1 [.slice A2 a0_0.length c3,VI y246.2.1,VI y246.2.2] 67,Row k24 24 (.slice A253 (l200 ++ ([(⟨x220,x221,x222,l223⟩:S24),y246.1]:List S24)).length c254) (l200 ++ ([(⟨x220,x221,x222,l223⟩:S24),y246.1]:List S24))]) [1,0] 5 (Gd.le.refl _) rfl rfl rfl ⟨rfl,A253,c254,rfl,rfl⟩)
  ·
   refine TC.cond_b rfl h (fun hc255 h=>?_) (fun hc255 h=>?_)
   ·
    refine TC.region ?_
    refine TV rfl rfl rfl (Val.move rfl) ?_
    obtain ⟨y256,hy257,h⟩:=bind_no h
    refine TL.cons (TL.callV (Lin:=[Blk b1 [.slice A2 a0_0.length c3,VI y205.1,VI y205.2] 67]) (args:=[VP b1 0,VI 1]) rfl rfl rfl hbd48 rfl rfl (parse_parser_typ.calls (a0_0:=a0_0) (a0_1:=y205.1) (a0_2:=y205.2) (a1:=1) hr4 hl5 hy257) rfl ?_)
    rintro _ _ _ _ ⟨rfl,A258,c259,rfl,rfl⟩
    refine TL.cons (TL.store 2 (ds:=[VI y256.1.f0,.string y256.1.f1,VI y256.1.f2,.slice A258 y256.1.f3.length c259]) (cs':=[VI y256.1.f0,.string y256.1.f1,VI y256.1.f2,.slice A258 y256.1.f3.length c259]) (L':=(Blk b1 [.slice A2 a0_0.length c3,VI y256.2.1,VI y256.2.2] 67::Row k24 24 (.slice A258 y256.1.f3.length c259) y256.1.f3::Blk b209 [VI y256.1.f0,.string y256.1.f1,VI y256.1.f2,.slice A258 y256.1.f3.length c259] 24::Blk b6 [VI 0,.string (⟨#[]⟩:ByteArray),VI 0,.slice none 0 0] 24::Blk b9 [VI 2,.string y12.1,VI y7,.slice A201 l200.length c202] 24::Row k24 24 (.slice A201 l200.length c202) l200::L)) rfl fsz24 rfl rfl rfl rfl rfl (Nat.le_of_ble_eq_true rfl) rfl rfl ?_)
    refine TL.nil ?_
    exact fun a W hF hO=>⟨y256.2.1,y256.2.2,y256.1.f0,y256.1.f1,y256.1.f2,y256.1.f3,A258,c259,h,hF.sub ⟨rfl,rfl,rfl,rfl,trivial⟩,hO.selT (Ls:=[Blk b1 [.slice A2 a0_0.length c3,VI y256.2.1,VI y256.2.2] 67,Blk b209 [VI y256.1.f0,.string y256.1.f1,VI y256.1.f2,.slice A258 y256.1.f3.length c259] 24,Blk b6 [VI 0,.string (⟨#[]⟩:ByteArray),VI 0,.slice none 0 0] 24,Blk b9 [VI 2,.string y12.1,VI y7,.slice A201 l200.length c202] 24,Row k24 24 (.slice A258 y256.1.f3.length c259) y256.1.f3,Row k24 24 (.slice A201 l200.length c202) l200]) [0,2,3,4,1,5] 6 rfl rfl rfl⟩
   ·
    refine TC.skip ?_
    exact fun a W hF hO=>⟨y205.1,y205.2,4,(⟨#[]⟩:ByteArray),y207,[],none,0,h,hF.sub ⟨rfl,rfl,rfl,rfl,trivial⟩,(Own.nilRow k24 24 hO).selT (Ls:=[Blk b1 [.slice A2 a0_0.length c3,VI y205.1,VI y205.2] 67,Blk b209 [VI 4,.string (⟨#[]⟩:ByteArray),VI y207,.slice none ([]:List S24).length 0] 24,Blk b6 [VI 0,.string (⟨#[]⟩:ByteArray),VI 0,.slice none 0 0] 24,Blk b9 [VI 2,.string y12.1,VI y7,.slice A201 l200.length c202] 24,Row k24 24 (.slice none ([]:List S24).length 0) ([]:List S24),Row k24 24 (.slice A201 l200.length c202) l200]) [1,2,3,4,0,5] 6 rfl rfl rfl⟩
 ·
  refine TC.cond_b rfl h (fun hc261 h=>?_) (fun hc261 h=>?_)
  ·
   refine TC.region ?_
   refine TV rfl rfl rfl (Val.move rfl) ?_
   refine TV rfl rfl rfl (Val.move rfl) ?_
   refine TV rfl rfl rfl (Val.makeFunc (xs:=[VP b1 0]) (ys:=[]) rfl rfl) ?_
   refine TL.cons (TO.inl (args:=[VP b1 0,.func (.func 47) #[VP b1 0] #[]]) (e':=[(0,VP b1 0),(1,.func (.func 47) #[VP b1 0] #[])]) 17 rfl rfl hbd46 rfl rfl Try.func46 rfl Try.ntmps46 rfl rfl (Nat.le_of_ble_eq_true rfl) (fun a262 hf263=>?_))
   refine TC.seq ?_
   refine TC.region ?_
   refine TV rfl rfl rfl (Val.assign rfl) ?_
   refine TL.nil ?_
   refine TQ.then_ ?_
   refine TC.seq ?_
   refine TC.region ?_
   refine TV rfl rfl rfl (Val.move rfl) ?_
   obtain ⟨y368,hy369,h⟩:=bind_no h
   refine TL.cons (TL.callV (Lin:=[Blk b1 [.slice A2 a0_0.length c3,VI y14.1,VI y14.2] 67]) (args:=[VP b1 0]) rfl rfl rfl hbd47 rfl rfl (parse_parser_param.calls (a0_0:=a0_0) (a0_1:=y14.1) (a0_2:=y14.2) hr4 hl5 hy369) rfl ?_)
   rintro _ _ _ _ ⟨rfl,A370,c371,rfl,rfl⟩
   refine TL.cons (TL.buildSlice (xs:=[.tmp 7]) (vs:=[.agg #[VI y368.1.f0,.string y368.1.f1,VI y368.1.f2,.slice A370 y368.1.f3.length c371]]) (cs:=[VI y368.1.f0,.string y368.1.f1,VI y368.1.f2,.slice A370 y368.1.f3.length c371]) rfl rfl Try.underlying22 zs24 rfl rfl rfl rfl rfl rfl rfl rfl (fun b373=>?_))
   refine TV rfl rfl rfl (Val.assign rfl) ?_
   refine TL.nil ?_
   refine TQ.then_ ?_
   refine TC.seq ?_
   refine TC.new (Els.nil k24) ?_
   refine TC.sel (Ls:=[Row k24 24 (.slice A370 y368.1.f3.length c371) y368.1.f3,Els k24 [] [],Blk b373 [VI y368.1.f0,.string y368.1.f1,VI y368.1.f2,.slice A370 y368.1.f3.length c371] 24,Blk b1 [.slice A2 a0_0.length c3,VI y368.2.1,VI y368.2.2] 67,Blk b9 [VI 2,.string y12.1,VI y7,.slice none 0 0] 24,Blk b6 [VI 0,.string (⟨#[]⟩:ByteArray),VI 0,.slice none 0 0] 24]) [3,0,1,2,4,5] 6 rfl rfl rfl ?_
   refine TC.conv (ch':=El k24 y368.1 [VI y368.1.f0,.string y368.1.f1,VI y368.1.f2,.slice A370 y368.1.f3.length c371]) (fun B W F hh=>k24_mkM W B F y368.1 hh) ?_
   refine TC.sel (Ls:=[Els k24 [] [],El k24 y368.1 [VI y368.1.f0,.string y368.1.f1,VI y368.1.f2,.slice A370 y368.1.f3.length c371],Blk b373 [VI y368.1.f0,.string y368.1.f1,VI y368.1.f2,.slice A370 y368.1.f3.length c371] 24,Blk b1 [.slice A2 a0_0.length c3,VI y368.2.1,VI y368.2.2] 67,Blk b9 [VI 2,.string y12.1,VI y7,.slice none 0 0] 24,Blk b6 [VI 0,.string (⟨#[]⟩:ByteArray),VI 0,.slice none 0 0] 24]) [1,0,2,3,4,5] 6 rfl rfl rfl ?_
   refine TC.two (ch:=Els k24 [y368.1] [VI y368.1.f0,.string y368.1.f1,VI y368.1.f2,.slice A370 y368.1.f3.length c371]) (Els.snoc k24) ?_
   refine TC.sel (Ls:=[Blk b373 [VI y368.1.f0,.string y368.1.f1,VI y368.1.f2,.slice A370 y368.1.f3.length c371] 24,Els k24 [y368.1] [VI y368.1.f0,.string y368.1.f1,VI y368.1.f2,.slice A370 y368.1.f3.length c371],Blk b1 [.slice A2 a0_0.length c3,VI y368.2.1,VI y368.2.2] 67,Blk b9 [VI 2,.string y12.1,VI y7,.slice none 0 0] 24,Blk b6 [VI 0,.string (⟨#[]⟩:ByteArray),VI 0,.slice none 0 0] 24]) [1,0,2,3,4] 5 rfl rfl rfl ?_
   refine TC.two (ch:=Row k24 24 (.slice (some ⟨b373,0,none⟩) 1 1) ([y368.1]:List S24)) (Row.lit k24 rfl rfl) ?_
   obtain ⟨o472,ho472,ko472⟩:=bind_no h
   clear h
   refine TC.tail (fun a W=>∃ (l466:(List S24)) (x470:Int) (x471:Int) (A467:Option Addr) (c468:Nat),(l466,x470,x471)=o472∧Fr 17 a [(5,.slice A467 l466.length c468)]∧Own G (Blk b1 [.slice A2 a0_0.length c3,VI x470,VI x471] 67::Blk b6 [VI 0,.string (⟨#[]⟩:ByteArray),VI 0,.slice none 0 0] 24::Blk b9 [VI 2,.string y12.1,VI y7,.slice none 0 0] 24::Row k24 24 (.slice A467 l466.length c468) l466::L) W) ?_ ?_
   ·
    rintro a W ⟨l466,x470,x471,A467,c468,rfl,hF,hO⟩
    have h:=ko472
    clear ko472 ho472
    refine TQ.use ?_ hF hO
    clear hF hO
    refine TQ.then_ ?_
    refine TC.seq ?_
    refine TC.region ?_
    refine TV rfl rfl rfl (Val.move rfl) ?_
    refine TV rfl rfl rfl (Val.assign rfl) ?_
    refine TL.nil ?_
    refine TQ.then_ ?_
    refine TC.ret ?_
    refine TQ.fin (v:=.slice A467 l466.length c468) (.inl rfl) rfl Try.results46 (.tmp rfl .nil) rfl (After.mk hf263 rfl ?_)
    refine TV rfl rfl rfl (Val.fieldAddrB Try.underlying24 rfl fsz22 rfl rfl rfl) ?_
    refine TL.cons (TL.store 2 (ds:=[.slice A467 l466.length c468]) (cs':=[VI 2,.string y12.1,VI y7,.slice A467 l466.length c468]) (L':=(Blk b1 [.slice A2 a0_0.length c3,VI x470,VI x471] 67::Blk b6 [VI 0,.string (⟨#[]⟩:ByteArray),VI 0,.slice none 0 0] 24::Blk b9 [VI 2,.string y12.1,VI y7,.slice A467 l466.length c468] 24::Row k24 24 (.slice A467 l466.length c468) l466::L)) rfl fsz22 rfl rfl rfl rfl rfl (Nat.le_of_ble_eq_true rfl) rfl rfl ?_)
    refine TL.nil ?_
    exact fun a W hF hO=>⟨x470,x471,l466,A467,c468,h,hF.sub ⟨rfl,rfl,rfl,trivial⟩,hO.selT (Ls:=[Blk b1 [.slice A2 a0_0.length c3,VI x470,VI x471] 67,Blk b6 [VI 0,.string (⟨#[]⟩:ByteArray),VI 0,.slice none 0 0] 24,Blk b9 [VI 2,.string y12.1,VI y7,.slice A467 l466.length c468] 24,Row k24 24 (.slice A467 l466.length c468) l466]) [0,1,2,3] 4 rfl rfl rfl⟩
   ·
    refine TC.block ?_
    intro a W hF hO
    have hS:∃ (l438:(List S24)) (x442:Int) (x443:Int) (A439:Option Addr) (c440:Nat),parse_parser_function.l0 a0_0 100000 l438 x442 x443=some o472∧Fr 17 a [(0,VP b1 0),(1,.func (.func 47) #[VP b1 0] #[]),(5,.slice A439 l438.length c440)]∧Own G (Blk b1 [.slice A2 a0_0.length c3,VI x442,VI x443] 67::Blk b6 [VI 0,.string (⟨#[]⟩:ByteArray),VI 0,.slice none 0 0] 24::Blk b9 [VI 2,.string y12.1,VI y7,.slice none 0 0] 24::Row k24 24 (.slice A439 l438.length c440) l438::L) W:=by
     exact ⟨([y368.1]:List S24),y368.2.1,y368.2.2,(some ⟨b373,0,none⟩),1,ho472,hF.sub ⟨rfl,rfl,rfl,trivial⟩,hO.selT (Ls:=[Blk b1 [.slice A2 a0_0.length c3,VI y368.2.1,VI y368.2.2] 67,Blk b6 [VI 0,.string (⟨#[]⟩:ByteArray),VI 0,.slice none 0 0] 24,Blk b9 [VI 2,.string y12.1,VI y7,.slice none 0 0] 24,Row k24 24 (.slice (some ⟨b373,0,none⟩) ([y368.1]:List S24).length 1) ([y368.1]:List S24)]) [1,3,2,0] 4 rfl rfl rfl⟩
    clear hF hO ho472 ko472
    refine TC.loop (fun n473 a W=>∃ (l438:(List S24)) (x442:Int) (x443:Int) (A439:Option Addr) (c440:Nat),parse_parser_function.l0 a0_0 n473 l438 x442 x443=some o472∧Fr 17 a [(0,VP b1 0),(1,.func (.func 47) #[VP b1 0] #[]),(5,.slice A439 l438.length c440)]∧Own G (Blk b1 [.slice A2 a0_0.length c3,VI x442,VI x443] 67::Blk b6 [VI 0,.string (⟨#[]⟩:ByteArray),VI 0,.slice none 0 0] 24::Blk b9 [VI 2,.string y12.1,VI y7,.slice none 0 0] 24::Row k24 24 (.slice A439 l438.length c440) l438::L) W) ?_ ?_ hS
    ·
     rintro a W ⟨l438,x442,x443,A439,c440,h,hF,hO⟩
     exact none_no h
    ·
     clear hS
     rintro n473 a W ⟨l438,x442,x443,A439,c440,h,hF,hO⟩
     rw [parse_parser_function.l0] at h
     refine TC.use ?_ hF hO
     clear hF hO
     refine TC.seq ?_
     refine TC.seq ?_
     refine TC.region ?_
     refine TV rfl rfl rfl (Val.move rfl) ?_
     obtain ⟨y497,hy498,h⟩:=bind_no h
     refine TL.cons (TL.callV (Lin:=[Blk b1 [.slice A2 a0_0.length c3,VI x442,VI x443] 67]) (args:=[VP b1 0,.string (⟨#[44]⟩:ByteArray)]) rfl rfl rfl hbd62 rfl rfl (parse_parser_take.calls (a0_0:=a0_0) (a0_1:=x442) (a0_2:=x443) (a1:=(⟨#[44]⟩:ByteArray)) hr4 hl5 hy498) rfl ?_)
     rintro _ _ _ _ ⟨rfl,rfl,rfl⟩
     refine TL.nil ?_
     refine TQ.then_ ?_
     refine TC.cond_b rfl h (fun hc500 h=>?_) (fun hc500 h=>?_)
     ·
      refine TC.skip ?_
      refine TQ.then_ ?_
      refine TC.block ?_
      refine TC.region ?_
      refine TV rfl rfl rfl (Val.move rfl) ?_
      refine TV rfl rfl rfl (Val.move rfl) ?_
      obtain ⟨y510,hy511,h⟩:=bind_no h
      refine TL.cons (TL.callV (Lin:=[Blk b1 [.slice A2 a0_0.length c3,VI y497.2,VI x443] 67]) (args:=[VP b1 0]) rfl rfl rfl hbd47 rfl rfl (parse_parser_param.calls (a0_0:=a0_0) (a0_1:=y497.2) (a0_2:=x443) hr4 hl5 hy511) rfl ?_)
      rintro _ _ _ _ ⟨rfl,A512,c513,rfl,rfl⟩
      refine TL.cons (TL.buildSlice (xs:=[.tmp 13]) (vs:=[.agg #[VI y510.1.f0,.string y510.1.f1,VI y510.1.f2,.slice A512 y510.1.f3.length c513]]) (cs:=[VI y510.1.f0,.string y510.1.f1,VI y510.1.f2,.slice A512 y510.1.f3.length c513]) rfl rfl Try.underlying22 zs24 rfl rfl rfl rfl rfl rfl rfl rfl (fun b515=>?_))
      refine TK.sel (Ls:=[Row k24 24 (.slice A512 y510.1.f3.length c513) y510.1.f3,Blk b515 [VI y510.1.f0,.string y510.1.f1,VI y510.1.f2,.slice A512 y510.1.f3.length c513] 24,Blk b1 [.slice A2 a0_0.length c3,VI y510.2.1,VI y510.2.2] 67,Blk b6 [VI 0,.string (⟨#[]⟩:ByteArray),VI 0,.slice none 0 0] 24,Blk b9 [VI 2,.string y12.1,VI y7,.slice none 0 0] 24,Row k24 24 (.slice A439 l438.length c440) l438]) [2,0,1,3,4,5] 6 rfl rfl rfl ?_
      refine TK.conv (ch':=El k24 y510.1 [VI y510.1.f0,.string y510.1.f1,VI y510.1.f2,.slice A512 y510.1.f3.length c513]) (fun B W F hh=>k24_mkM W B F y510.1 hh) ?_
      refine TK.sel (Ls:=[Row k24 24 (.slice A439 l438.length c440) l438,El k24 y510.1 [VI y510.1.f0,.string y510.1.f1,VI y510.1.f2,.slice A512 y510.1.f3.length c513],Blk b515 [VI y510.1.f0,.string y510.1.f1,VI y510.1.f2,.slice A512 y510.1.f3.length c513] 24,Blk b1 [.slice A2 a0_0.length c3,VI y510.2.1,VI y510.2.2] 67,Blk b6 [VI 0,.string (⟨#[]⟩:ByteArray),VI 0,.slice none 0 0] 24,Blk b9 [VI 2,.string y12.1,VI y7,.slice none 0 0] 24]) [5,0,1,2,3,4] 6 rfl rfl rfl ?_
      obtain ⟨ha516,h⟩:=ite_no h
      refine TL.cons (TL.append (xs:=l438) k24 rfl rfl Try.underlying22 inf24 rfl (Nat.le_of_ble_eq_true rfl) (Nat.le_of_ble_eq_true rfl) rfl rfl (by omega) (fun A517 c518=>?_))
      refine TV rfl rfl rfl (Val.assign rfl) ?_
      refine TL.nil ?_
      refine TQ.inB ?_
      exact fun a W hF hO=>⟨(l438 ++ [y510.1]),y510.2.1,y510.2.2,A517,c518,h,hF.sub ⟨rfl,rfl,rfl,trivial⟩,hO.selT (Ls:=[Blk b1 [.slice A2 a0_0.length c3,VI y510.2.1,VI y510.2.2] 67,Blk b6 [VI 0,.string (⟨#[]⟩:ByteArray),VI 0,.slice none 0 0] 24,Blk b9 [VI 2,.string y12.1,VI y7,.slice none 0 0] 24,Row k24 24 (.slice A517 (l438 ++ [y510.1]).length c518) (l438 ++ [y510.1])]) [1,2,3,0] 4 rfl rfl rfl⟩
     ·
      refine TC.exit ?_
      refine TQ.thenX ?_
      refine TQ.thenX ?_
      refine TQ.inBX ?_
      exact fun a W hF hO=>⟨l438,y497.2,x443,A439,c440,Option.some.inj h,hF.sub ⟨rfl,trivial⟩,hO.selT (Ls:=[Blk b1 [.slice A2 a0_0.length c3,VI y497.2,VI x443] 67,Blk b6 [VI 0,.string (⟨#[]⟩:ByteArray),VI 0,.slice none 0 0] 24,Blk b9 [VI 2,.string y12.1,VI y7,.slice none 0 0] 24,Row k24 24 (.slice A439 l438.length c440) l438]) [0,1,2,3] 4 rfl rfl rfl⟩
  ·
   refine TC.skip ?_
   exact fun a W hF hO=>⟨y14.1,y14.2,[],none,0,h,hF.sub ⟨rfl,rfl,rfl,trivial⟩,(Own.nilRow k24 24 hO).selT (Ls:=[Blk b1 [.slice A2 a0_0.length c3,VI y14.1,VI y14.2] 67,Blk b6 [VI 0,.string (⟨#[]⟩:ByteArray),VI 0,.slice none 0 0] 24,Blk b9 [VI 2,.string y12.1,VI y7,.slice none ([]:List S24).length 0] 24,Row k24 24 (.slice none ([]:List S24).length 0) ([]:List S24)]) [1,3,2,0] 4 rfl rfl rfl⟩
end Go.Proofs.Ythlhmoocgjddpaa.Sy
set_option linter.unusedVariables false
set_option linter.unusedSimpArgs false
namespace Go.Proofs.Ythlhmoocgjddpaa.Sy
open Go Go.RowKit Go.Proofs.YthlhmoocgjddpaaW.PrintWords
def Rs (b : Int) (r : S24) (p1 e1 : Int) : Prop := e1 = 0 → b < p1 ∧ Dp (p1 - b + 1).toNat r
def sw (x : Int × Int × List S24) : List S24 × Int × Int := (x.2.2, x.1, x.2.1)
theorem bind_sw {β : Type} {x : Option (Int × Int × List S24)} {f : Int × Int × List S24 → Option β} : x.bind f = (x.map sw).bind (fun y => f (y.2.1, y.2.2, y.1)) := by cases x <;> rfl
theorem map_bd {α β γ : Type} {x : Option α} {f : α → Option β} {g : β → γ} : Option.map g (x.bind f) = x.bind (fun y => Option.map g (f y)) := by cases x <;> rfl
theorem Gv.done {α β : Type} {Z : Prop} {n p e o : Int} {T : Prop} {x x' : Option (β × Int × Int)} {f f' : β × Int × Int → Option (α × Int × Int)} {R1 : β → Int → Int → Prop} {R : α → Int → Int → Prop} {g : β → α} (hx : Gv Z n T o p e x x' R1)
    (hf : ∀ r p1 e1, f (r, p1, e1) = some (g r, p1, e1)) (hf' : ∀ r p1 e1, f' (r, p1, e1) = some (g r, p1, e1)) (hR : ∀ r p1 e1, p ≤ p1 → p1 ≤ n → (e1 = 0 → e = 0) → R1 r p1 e1 → R (g r) p1 e1) : Gv Z n T o p e (x.bind f) (x'.bind f') R := by
  obtain ⟨r, p1, e1, h1, h2, h3, h4, h5, h6, h7⟩ := hx
  refine ⟨g r, p1, e1, by rw [h1, Option.bind_some, hf], h2, h3, h4, h5, hR _ _ _ h2 h3 (fun h => ?_) h6, fun h => by rw [h7 h, Option.bind_some, hf']⟩
  apply Classical.byContradiction; intro hn
  exact hn ((h4 hn).2 ▸ h)
section
variable {l l' : List S41} {o : Int} {T : Prop}
abbrev P4n := List S41 → Int → Int → S24 → Int → Option (S24 × Int × Int)
theorem simple_f (A : Ag l l' o T) {n0 : S24} {d : Int} (hd : 0 ≤ d ∧ d ≤ 100) :
    ∀ p e : Int, 0 ≤ p → p ≤ l.length → Gv False l.length T o p e (parse_parser_simple.f l p e n0 d) (parse_parser_simple.f l' (p + o) e n0 d) (Rs p) := by
  intro p e h0 h1
  have hlen := A.mx
  have hl2 := A.len
  have ho0 := A.o0
  unfold parse_parser_simple.f
  dsimp only [jn]
  rw [w64 (n := d + 1) (by omega) (by omega)]
  refine Gv.bind (expr_f A (by omega) (by omega) h0 h1) (fun r p1 e1 g1 g2 g3 g4 => ?_)
  gvd
  gvt
  · gvd; gvi
    obtain ⟨g5, g6⟩ := g4 hz
    refine Gv.bind (expr_f A (by omega) (by omega) (by omega) (by omega)) (fun r2 p2 e2 k1 k2 k3 k4 => ?_)
    gvd
    rw [if_pos (by simp), if_pos (by simp)]
    exact Gv.pure k2 id (fun h => ⟨by omega, Dp.node (DL.snoc (DL.one g6) ((k4 h).2.mono (by omega)) (by have := (k4 h).1; omega)) (by omega)⟩)
  · gvd; gvi
    have : at? [r] 0 = some r := rfl
    rw [this]
    simp only [Option.bind_some]
    by_cases hk : r.f0 = 25
    · simp only [hk, decide_true]
      gvi
      exact Gv.pure (by omega) id (fun h => ⟨(g4 h).1, Dp.node (DL.one ((g4 h).2.mono (by omega))) (by omega)⟩)
    · simp only [hk, decide_false]
      gvi
      gvw
      exact Gv.pure (by omega) id (fun h => absurd h he')
theorem branches_g (A : Ag l l' o T) {r1 r2 : P4} {r3 : P4n} {n0 : S24} {d : Int} (hd : 0 ≤ d ∧ d ≤ 100)
    (hb : ∀ p e : Int, 0 ≤ p → p ≤ l.length → Gv False l.length T o p e (r1 l p e (d + 1)) (r1 l' (p + o) e (d + 1)) (Rp p)) :
    ∀ p e : Int, 0 ≤ p → p ≤ l.length → Gv False l.length T o p e (parse_parser_branches.g r1 r2 r3 l p e n0 d) (parse_parser_branches.g r1 r2 r3 l' (p + o) e n0 d) (Rs p) := by
  intro p e h0 h1
  have hlen := A.mx
  have hl2 := A.len
  have ho0 := A.o0
  unfold parse_parser_branches.g
  dsimp only [jn]
  rw [w64 (n := d + 1) (by omega) (by omega)]
  refine Gv.bind (expr_f A (by omega) (by omega) h0 h1) (fun r p1 e1 g1 g2 g3 g4 => ?_)
  gvd
  refine Gv.bind (hb p1 e1 (by omega) (by omega)) (fun r2 p2 e2 k1 k2 k3 k4 => ?_)
  gvd
  rw [if_pos (show [r].length < 2513169434916 by simp), if_pos (show [r].length < 2513169434916 by simp)]
  have hz1 : e2 = 0 → e1 = 0 := fun h => by
    apply Classical.byContradiction; intro hn
    have := k3 hn; omega
  have fin : e2 = 0 → DL (p2 - p) ([r] ++ [r2]) := fun h => by
    obtain ⟨g5, g6⟩ := g4 (hz1 h)
    obtain ⟨k5, k6⟩ := k4 h
    exact DL.snoc (DL.one g6) (k6.mono (by omega)) (by omega)
  by_cases hc : n0.f0 = 12
  · rw [if_pos hc, if_pos hc]
    gvt
    · gvd; gvi
      refine Gv.bind (hb q e2 (by omega) (by omega)) (fun r3 p3 e3 m1 m2 m3 m4 => ?_)
      gvd
      rw [if_pos (by simp), if_pos (by simp)]
      exact Gv.pure m2 id (fun h => ⟨by omega, Dp.node (DL.snoc (fin hz) ((m4 h).2.mono (by omega)) (by have := (m4 h).1; omega)) (by omega)⟩)
    · gvd; gvi
      exact Gv.pure k2 id (fun h => ⟨by have := (k4 h).1; omega, Dp.node ((fin h).mono (by omega)) (by omega)⟩)
  · rw [if_neg hc, if_neg hc]
    gvi
    exact Gv.pure k2 id (fun h => ⟨by have := (k4 h).1; omega, Dp.node ((fin h).mono (by omega)) (by omega)⟩)
theorem statement_g (A : Ag l l' o T) {r1 r2 : P4} {r3 : P4n} {d : Int} (hd : 0 ≤ d ∧ d ≤ 101)
    (hb : d ≤ 100 → ∀ n0 : S24, ∀ p e : Int, 0 ≤ p → p ≤ l.length → Gv False l.length T o p e (r3 l p e n0 d) (r3 l' (p + o) e n0 d) (Rs p)) :
    ∀ p e : Int, 0 ≤ p → p ≤ l.length → Gv False l.length T o p e (parse_parser_statement.g r1 r2 r3 l p e d) (parse_parser_statement.g r1 r2 r3 l' (p + o) e d) (Rp p) := by
  intro p e h0 h1
  have hlen := A.mx
  have hl2 := A.len
  have ho0 := A.o0
  unfold parse_parser_statement.g
  dsimp only [jn]
  rw [w64 (n := d + 1) (by omega) (by omega)]
  gvs; gvy
  · gvi
    gvt
    · gvi
      refine Gv.bind (hb hd1 _ q e (by omega) (by omega)) (fun r p1 e1 g1 g2 g3 g4 => ?_)
      exact Gv.pure g2 id (fun h => ⟨by omega, (g4 h).2.mono (by omega)⟩)
    · gvi
      gvt
      · gvi
        refine Gv.bind (hb hd1 _ q e (by omega) (by omega)) (fun r p1 e1 g1 g2 g3 g4 => ?_)
        exact Gv.pure g2 id (fun h => ⟨by omega, (g4 h).2.mono (by omega)⟩)
      · gvi
        gvt
        · gvi
          have key : ∀ (p2 e2 : Int) (t : ByteArray), q ≤ p2 → p2 ≤ l.length → Gv False l.length T o p2 e2 ((parse_parser_typ.f l p2 e2 (d + 1)).bind fun y => (parse_parser_must.f l y.2.1 y.2.2 ⟨#[59]⟩).bind fun z => some (⟨10, t, v, [y.1]⟩, z.1, z.2)) ((parse_parser_typ.f l' (p2 + o) e2 (d + 1)).bind fun y => (parse_parser_must.f l' y.2.1 y.2.2 ⟨#[59]⟩).bind fun z => some (⟨10, t, v, [y.1]⟩, z.1, z.2)) (Rp p) := by
            intro p2 e2 t k1 k2
            refine Gv.bind (typ_f A (by omega) (by omega) (by omega) (by omega)) (fun r p1 e1 g1 g2 g3 g4 => ?_)
            gvd
            gvm
            · exact Gv.pure (by omega) id (fun h => ⟨by omega, Dp.node (DL.one ((g4 h).2.mono (by omega))) (by omega)⟩)
            · exact Gv.pure (by omega) id (fun h => absurd h he')
          gvx
          · exact key _ _ _ (by omega) (by omega)
          · exact key _ _ _ (by omega) (by omega)
        · gvi
          gvt
          · gvi
            gvf
            by_cases hc : (! (s.data.toList == (⟨#[59]⟩ : ByteArray).data.toList)) = true
            · rw [if_pos hc, if_pos hc]
              refine Gv.bind (expr_f A (by omega) (by omega) (by omega) (by omega)) (fun r p1 e1 g1 g2 g3 g4 => ?_)
              gvd
              gvm
              · exact Gv.pure (by omega) id (fun h => ⟨by omega, Dp.node (DL.one ((g4 h).2.mono (by omega))) (by omega)⟩)
              · exact Gv.pure (by omega) id (fun h => absurd h he')
            · rw [if_neg hc, if_neg hc]
              gvm
              · exact Gv.pure (by omega) id (fun h => ⟨by omega, Dp.node DL.nil (by omega)⟩)
              · exact Gv.pure (by omega) id (fun h => absurd h he')
          · gvi
            gvt
            · gvi
              refine Gv.bind (expr_f A (by omega) (by omega) (by omega) (by omega)) (fun r p1 e1 g1 g2 g3 g4 => ?_)
              gvd
              gvm
              · exact Gv.pure (by omega) id (fun h => ⟨by omega, Dp.node (DL.one ((g4 h).2.mono (by omega))) (by omega)⟩)
              · exact Gv.pure (by omega) id (fun h => absurd h he')
            · gvi
              refine Gv.bind (simple_f A ⟨hd.1, hd1⟩ p e h0 h1) (fun r p1 e1 g1 g2 g3 g4 => ?_)
              gvd
              gvm
              · exact Gv.pure (by omega) id (fun h => ⟨by omega, (Dp.mono (k' := (q - p).toNat) (x := r) (g4 h).2 (by omega)).eta⟩)
              · exact Gv.pure (by omega) id (fun h => absurd h he')
  · gvi
    exact Gv.pure h1 id (fun h => absurd h he')
theorem block_loop (A : Ag l l' o T) {rec : P4} {d : Int}
    (hr : ∀ p e : Int, 0 ≤ p → p ≤ l.length → Gv False l.length T o p e (rec l p e d) (rec l' (p + o) e d) (Rp p)) :
    ∀ (n : Nat) (p e b : Int) (acc : List S24), 0 ≤ p → p ≤ l.length → (l.length : Int) - p + (if e = 0 then 1 else 0) < n → acc.length + n ≤ 200000 → b ≤ p → (e = 0 → DL (p - b) acc) →
      Gv False l.length T o p e ((parse_parser_block.l0 rec l d n p e acc).map sw) ((parse_parser_block.l0 rec l' d n (p + o) e acc).map sw) (RL b) := by
  intro n
  induction n with
  | zero => intro p e b acc h0 h1 h2; split at h2 <;> omega
  | succ n ih =>
    intro p e b acc h0 h1 h2 h3 h4 h5
    rw [parse_parser_block.l0, parse_parser_block.l0]
    dsimp only [jn]
    by_cases he : e = 0
    · rw [if_pos he, if_pos he, map_bd, map_bd]
      rw [if_pos he] at h2
      gvf
      by_cases hc : (! (s.data.toList == (⟨#[125]⟩ : ByteArray).data.toList)) = true
      · rw [if_pos hc, if_pos hc, map_bd, map_bd]
        refine Gv.bind (hr p e h0 h1) (fun r p1 e1 g1 g2 g3 g4 => ?_)
        gvd
        rw [if_pos (by omega), if_pos (by omega)]
        refine ih _ _ _ _ (by omega) g2 ?_ (by simp; omega) (by omega) (fun h => ?_)
        · by_cases h : e1 = 0
          · rw [if_pos h]; have := (g4 h).1; omega
          · rw [if_neg h]; omega
        · obtain ⟨g5, g6⟩ := g4 h
          exact (h5 he).snoc (g6.mono (by omega)) (by omega)
      · rw [if_neg hc, if_neg hc]
        exact Gv.pure h1 id (fun h => h5 h)
    · rw [if_neg he, if_neg he]
      gvi
      exact Gv.pure h1 id (fun h => h5 h)
theorem block_g (A : Ag l l' o T) {r1 r2 : P4} {r3 : P4n} {d : Int}
    (hr : ∀ p e : Int, 0 ≤ p → p ≤ l.length → Gv False l.length T o p e (r2 l p e d) (r2 l' (p + o) e d) (Rp p)) {Z : Prop} :
    ∀ p e : Int, 0 ≤ p → p ≤ l.length → Gv Z l.length T o p e (parse_parser_block.g r1 r2 r3 l p e d) (parse_parser_block.g r1 r2 r3 l' (p + o) e d) (Rp p) := by
  intro p e h0 h1
  have hlen := A.mx
  have hl2 := A.len
  have ho0 := A.o0
  unfold parse_parser_block.g
  have key : ∀ (p2 e2 v : Int), p ≤ p2 → p2 ≤ l.length → (e2 = 0 → p < p2) → Gv Z l.length T o p2 e2
      ((parse_parser_block.l0 r2 l d 100000 p2 e2 []).bind fun y => (parse_parser_must.f l y.1 y.2.1 ⟨#[125]⟩).bind fun z => some (⟨9, ⟨#[]⟩, v, y.2.2⟩, z.1, z.2))
      ((parse_parser_block.l0 r2 l' d 100000 (p2 + o) e2 []).bind fun y => (parse_parser_must.f l' y.1 y.2.1 ⟨#[125]⟩).bind fun z => some (⟨9, ⟨#[]⟩, v, y.2.2⟩, z.1, z.2)) (Rp p) := by
    intro p2 e2 v k1 k2 k3
    rw [bind_sw, bind_sw]
    refine Gv.bind (block_loop A hr 100000 p2 e2 p2 [] (by omega) k2 (by split <;> omega) (by simp) (by omega) (fun _ => DL.nil)) (fun r p1 e1 g1 g2 g3 g4 => ?_)
    gvd
    refine Gv.last (r := ⟨9, ⟨#[]⟩, v, r⟩) (fun _ _ => rfl) (fun _ _ => rfl) (by decide) A (by omega) g2 (fun h _ => ⟨by omega, Dp.node ((g4 h).mono ?_) (by omega)⟩) (fun e1 h h' => absurd h' h)
    have : e2 = 0 := by
      apply Classical.byContradiction; intro hn
      have := g3 hn; omega
    have := k3 this
    omega
  gvs
  gvm
  · exact key _ _ _ (by omega) (by omega) (fun _ => by omega)
  · exact key _ _ _ (by omega) (by omega) (fun h => absurd h he')
theorem block_fix (A : Ag l l' o T) : ∀ (n : Nat),
    (∀ d : Int, 0 ≤ d → d ≤ 101 → 10 * (102 - d) + 3 ≤ n → ∀ Z : Prop, ∀ p e : Int, 0 ≤ p → p ≤ l.length → Gv Z l.length T o p e ((parse_parser_block.fix n).1 l p e d) ((parse_parser_block.fix n).1 l' (p + o) e d) (Rp p)) ∧
    (∀ d : Int, 0 ≤ d → d ≤ 101 → 10 * (102 - d) + 2 ≤ n → ∀ p e : Int, 0 ≤ p → p ≤ l.length → Gv False l.length T o p e ((parse_parser_block.fix n).2.1 l p e d) ((parse_parser_block.fix n).2.1 l' (p + o) e d) (Rp p)) ∧
    (∀ d : Int, 0 ≤ d → d ≤ 100 → 10 * (102 - d) + 1 ≤ n → ∀ n0 : S24, ∀ p e : Int, 0 ≤ p → p ≤ l.length → Gv False l.length T o p e ((parse_parser_block.fix n).2.2 l p e n0 d) ((parse_parser_block.fix n).2.2 l' (p + o) e n0 d) (Rs p)) := by
  intro n
  induction n with
  | zero => refine ⟨?_, ?_, ?_⟩ <;> intros <;> omega
  | succ n ih =>
    obtain ⟨i1, i2, i3⟩ := ih
    simp only [parse_parser_block.fix]
    refine ⟨?_, ?_, ?_⟩
    · intro d h0 h1 h2 Z
      exact block_g A (i2 d h0 h1 (by omega))
    · intro d h0 h1 h2
      exact statement_g A ⟨h0, h1⟩ (fun hd => i3 d h0 hd (by omega))
    · intro d h0 h1 h2 n0
      exact branches_g A ⟨h0, h1⟩ (i1 (d + 1) (by omega) (by omega) (by omega) False)
def RF (b : Int) (r : List S24) (p1 e1 : Int) : Prop := r.length ≤ 200000 ∧ (e1 = 0 → DL (p1 - b) r)
theorem function_loop (A : Ag l l' o T) :
    ∀ (n : Nat) (p e b : Int) (acc : List S24), 0 ≤ p → p ≤ l.length → (l.length : Int) - p < n → acc.length + n ≤ 200000 → b ≤ p → (e = 0 → DL (p - b) acc) →
      Gv False l.length T o p e (parse_parser_function.l0 l n acc p e) (parse_parser_function.l0 l' n acc (p + o) e) (RF b) := by
  intro n
  induction n with
  | zero => intro p e b acc h0 h1 h2; omega
  | succ n ih =>
    intro p e b acc h0 h1 h2 h3 h4 h5
    rw [parse_parser_function.l0, parse_parser_function.l0]
    gvt
    · gvd; gvi
      refine Gv.bind (param_f A (by omega) (by omega)) (fun r p1 e1 g1 g2 g3 g4 => ?_)
      gvd
      rw [if_pos (by omega), if_pos (by omega)]
      refine ih _ _ _ _ (by omega) g2 (by omega) (by simp; omega) (by omega) (fun he => ?_)
      obtain ⟨g5, g6⟩ := g4 he
      exact (h5 (by omega)).snoc (g6.mono (by omega)) (by omega)
    · gvd; gvi
      exact Gv.pure h1 id ⟨by omega, fun he => h5 he⟩
theorem function_f (A : Ag l l' o T) {Z : Prop} {p e : Int} (h0 : 0 ≤ p) (h1 : p ≤ l.length) : Gv Z l.length T o p e (parse_parser_function.f l p e) (parse_parser_function.f l' (p + o) e) (Rp p) := by
  have hlen := A.mx
  have hl2 := A.len
  have ho0 := A.o0
  unfold parse_parser_function.f
  dsimp only [jn]
  -- the block, behind all else
  have blk : ∀ (p2 e2 v : Int) (t : ByteArray) (ks : List S24) (x : S24), p ≤ p2 → p2 ≤ l.length → ks.length ≤ 200000 → (e2 = 0 → p + 2 < p2 ∧ DL (p2 - p - 2) ks ∧ Dp (p2 - p - 1).toNat x) → Gv Z l.length T o p2 e2
      ((parse_parser_block.f l p2 e2 1).bind fun y => if ks.length + 2 ≤ 2513169434916 then some (⟨2, t, v, ks ++ [x, y.1]⟩, y.2.1, y.2.2) else none)
      ((parse_parser_block.f l' (p2 + o) e2 1).bind fun y => if ks.length + 2 ≤ 2513169434916 then some (⟨2, t, v, ks ++ [x, y.1]⟩, y.2.1, y.2.2) else none) (Rp p) := by
    intro p2 e2 v t ks x k1 k2 k3 k4
    have kk : ks.length + 2 ≤ 2513169434916 := by omega
    refine Gv.done (g := fun y => ⟨2, t, v, ks ++ [x, y]⟩) ((block_fix A 100000).1 1 (by omega) (by omega) (by omega) Z p2 e2 (by omega) k2) (fun _ _ _ => if_pos kk) (fun _ _ _ => if_pos kk) (fun r p1 e1 g1 g2 gz g4 h => ?_)
    obtain ⟨g5, g6⟩ := g4 h
    obtain ⟨k5, k6, k7⟩ := k4 (gz h)
    refine ⟨by omega, Dp.node ?_ (by omega)⟩
    have : ks ++ [x, r] = (ks ++ [x]) ++ [r] := by simp
    rw [this]
    exact (k6.snoc (n' := p2 - p - 1) k7 (by omega)).snoc (g6.mono (by omega)) (by omega)
  -- the result's type, and the block
  have res : ∀ (p2 e2 v : Int) (t : ByteArray) (ks : List S24), p ≤ p2 → p2 ≤ l.length → ks.length ≤ 200000 → (e2 = 0 → p + 3 ≤ p2 ∧ DL (p2 - p - 2) ks) → Gv Z l.length T o p2 e2
      ((parse_parser_must.f l p2 e2 ⟨#[41]⟩).bind fun y => (parse_parser_start.f l y.1 y.2).bind fun w => (parse_parser_fixed.f l y.1 y.2).bind fun s =>
        if (!(s.data.toList == (⟨#[123]⟩ : ByteArray).data.toList)) = true then (parse_parser_typ.f l y.1 y.2 1).bind fun z => (parse_parser_block.f l z.2.1 z.2.2 1).bind fun y => if ks.length + 2 ≤ 2513169434916 then some (⟨2, t, v, ks ++ [⟨z.1.f0, z.1.f1, z.1.f2, z.1.f3⟩, y.1]⟩, y.2.1, y.2.2) else none
        else (parse_parser_block.f l y.1 y.2 1).bind fun y => if ks.length + 2 ≤ 2513169434916 then some (⟨2, t, v, ks ++ [⟨4, ⟨#[]⟩, w, []⟩, y.1]⟩, y.2.1, y.2.2) else none)
      ((parse_parser_must.f l' (p2 + o) e2 ⟨#[41]⟩).bind fun y => (parse_parser_start.f l' y.1 y.2).bind fun w => (parse_parser_fixed.f l' y.1 y.2).bind fun s =>
        if (!(s.data.toList == (⟨#[123]⟩ : ByteArray).data.toList)) = true then (parse_parser_typ.f l' y.1 y.2 1).bind fun z => (parse_parser_block.f l' z.2.1 z.2.2 1).bind fun y => if ks.length + 2 ≤ 2513169434916 then some (⟨2, t, v, ks ++ [⟨z.1.f0, z.1.f1, z.1.f2, z.1.f3⟩, y.1]⟩, y.2.1, y.2.2) else none
        else (parse_parser_block.f l' y.1 y.2 1).bind fun y => if ks.length + 2 ≤ 2513169434916 then some (⟨2, t, v, ks ++ [⟨4, ⟨#[]⟩, w, []⟩, y.1]⟩, y.2.1, y.2.2) else none) (Rp p) := by
    intro p2 e2 v t ks k1 k2 k3 k4
    have tail : ∀ (p3 e3 : Int), p2 ≤ p3 → p3 ≤ l.length → (e3 = 0 → p2 < p3 ∧ e2 = 0) → Gv Z l.length T o p3 e3
        ((parse_parser_start.f l p3 e3).bind fun w => (parse_parser_fixed.f l p3 e3).bind fun s =>
          if (!(s.data.toList == (⟨#[123]⟩ : ByteArray).data.toList)) = true then (parse_parser_typ.f l p3 e3 1).bind fun z => (parse_parser_block.f l z.2.1 z.2.2 1).bind fun y => if ks.length + 2 ≤ 2513169434916 then some (⟨2, t, v, ks ++ [⟨z.1.f0, z.1.f1, z.1.f2, z.1.f3⟩, y.1]⟩, y.2.1, y.2.2) else none
          else (parse_parser_block.f l p3 e3 1).bind fun y => if ks.length + 2 ≤ 2513169434916 then some (⟨2, t, v, ks ++ [⟨4, ⟨#[]⟩, w, []⟩, y.1]⟩, y.2.1, y.2.2) else none)
        ((parse_parser_start.f l' (p3 + o) e3).bind fun w => (parse_parser_fixed.f l' (p3 + o) e3).bind fun s =>
          if (!(s.data.toList == (⟨#[123]⟩ : ByteArray).data.toList)) = true then (parse_parser_typ.f l' (p3 + o) e3 1).bind fun z => (parse_parser_block.f l' z.2.1 z.2.2 1).bind fun y => if ks.length + 2 ≤ 2513169434916 then some (⟨2, t, v, ks ++ [⟨z.1.f0, z.1.f1, z.1.f2, z.1.f3⟩, y.1]⟩, y.2.1, y.2.2) else none
          else (parse_parser_block.f l' (p3 + o) e3 1).bind fun y => if ks.length + 2 ≤ 2513169434916 then some (⟨2, t, v, ks ++ [⟨4, ⟨#[]⟩, w, []⟩, y.1]⟩, y.2.1, y.2.2) else none) (Rp p) := by
      intro p3 e3 m1 m2 m3
      refine Gv.start A (by omega) (by omega) (fun w => ?_)
      gvf
      by_cases hc : (!(s.data.toList == (⟨#[123]⟩ : ByteArray).data.toList)) = true
      · rw [if_pos hc, if_pos hc]
        refine Gv.bind (typ_f A (by omega) (by omega) (by omega) (by omega)) (fun r p1 e1 g1 g2 g3 g4 => ?_)
        gvd
        refine blk _ _ _ _ _ _ (by omega) g2 k3 (fun h => ?_)
        obtain ⟨g5, g6⟩ := g4 h
        have hz3 : e3 = 0 := by
          apply Classical.byContradiction; intro hn
          have := g3 hn; omega
        obtain ⟨m4, m5⟩ := m3 hz3
        obtain ⟨k5, k6⟩ := k4 m5
        exact ⟨by omega, k6.mono (by omega), (Dp.mono (k' := (p1 - p - 1).toNat) (x := r) g6 (by omega)).eta⟩
      · rw [if_neg hc, if_neg hc]
        refine blk _ _ _ _ _ _ (by omega) m2 k3 (fun h => ?_)
        obtain ⟨m4, m5⟩ := m3 h
        obtain ⟨k5, k6⟩ := k4 m5
        exact ⟨by omega, k6.mono (by omega), Dp.node DL.nil (by omega)⟩
    gvm
    · exact tail _ _ (by omega) (by omega) (fun h => ⟨by omega, h⟩)
    · exact tail _ _ (by omega) (by omega) (fun h => absurd h he')
  -- the parameters
  have par : ∀ (p2 e2 v : Int) (t : ByteArray), p ≤ p2 → p2 ≤ l.length → (e2 = 0 → p + 3 ≤ p2) → Gv Z l.length T o p2 e2
      ((parse_parser_fixed.f l p2 e2).bind fun s => if (!(s.data.toList == (⟨#[41]⟩ : ByteArray).data.toList)) = true then (parse_parser_param.f l p2 e2).bind fun y => (parse_parser_function.l0 l 100000 [y.1] y.2.1 y.2.2).bind fun z => (parse_parser_must.f l z.2.1 z.2.2 ⟨#[41]⟩).bind fun y => (parse_parser_start.f l y.1 y.2).bind fun w => (parse_parser_fixed.f l y.1 y.2).bind fun s =>
          if (!(s.data.toList == (⟨#[123]⟩ : ByteArray).data.toList)) = true then (parse_parser_typ.f l y.1 y.2 1).bind fun x => (parse_parser_block.f l x.2.1 x.2.2 1).bind fun y => if z.1.length + 2 ≤ 2513169434916 then some (⟨2, t, v, z.1 ++ [⟨x.1.f0, x.1.f1, x.1.f2, x.1.f3⟩, y.1]⟩, y.2.1, y.2.2) else none
          else (parse_parser_block.f l y.1 y.2 1).bind fun y => if z.1.length + 2 ≤ 2513169434916 then some (⟨2, t, v, z.1 ++ [⟨4, ⟨#[]⟩, w, []⟩, y.1]⟩, y.2.1, y.2.2) else none
        else (parse_parser_must.f l p2 e2 ⟨#[41]⟩).bind fun y => (parse_parser_start.f l y.1 y.2).bind fun w => (parse_parser_fixed.f l y.1 y.2).bind fun s =>
          if (!(s.data.toList == (⟨#[123]⟩ : ByteArray).data.toList)) = true then (parse_parser_typ.f l y.1 y.2 1).bind fun x => (parse_parser_block.f l x.2.1 x.2.2 1).bind fun y => if ([] : List S24).length + 2 ≤ 2513169434916 then some (⟨2, t, v, [] ++ [⟨x.1.f0, x.1.f1, x.1.f2, x.1.f3⟩, y.1]⟩, y.2.1, y.2.2) else none
          else (parse_parser_block.f l y.1 y.2 1).bind fun y => if ([] : List S24).length + 2 ≤ 2513169434916 then some (⟨2, t, v, [] ++ [⟨4, ⟨#[]⟩, w, []⟩, y.1]⟩, y.2.1, y.2.2) else none)
      ((parse_parser_fixed.f l' (p2 + o) e2).bind fun s => if (!(s.data.toList == (⟨#[41]⟩ : ByteArray).data.toList)) = true then (parse_parser_param.f l' (p2 + o) e2).bind fun y => (parse_parser_function.l0 l' 100000 [y.1] y.2.1 y.2.2).bind fun z => (parse_parser_must.f l' z.2.1 z.2.2 ⟨#[41]⟩).bind fun y => (parse_parser_start.f l' y.1 y.2).bind fun w => (parse_parser_fixed.f l' y.1 y.2).bind fun s =>
          if (!(s.data.toList == (⟨#[123]⟩ : ByteArray).data.toList)) = true then (parse_parser_typ.f l' y.1 y.2 1).bind fun x => (parse_parser_block.f l' x.2.1 x.2.2 1).bind fun y => if z.1.length + 2 ≤ 2513169434916 then some (⟨2, t, v, z.1 ++ [⟨x.1.f0, x.1.f1, x.1.f2, x.1.f3⟩, y.1]⟩, y.2.1, y.2.2) else none
          else (parse_parser_block.f l' y.1 y.2 1).bind fun y => if z.1.length + 2 ≤ 2513169434916 then some (⟨2, t, v, z.1 ++ [⟨4, ⟨#[]⟩, w, []⟩, y.1]⟩, y.2.1, y.2.2) else none
        else (parse_parser_must.f l' (p2 + o) e2 ⟨#[41]⟩).bind fun y => (parse_parser_start.f l' y.1 y.2).bind fun w => (parse_parser_fixed.f l' y.1 y.2).bind fun s =>
          if (!(s.data.toList == (⟨#[123]⟩ : ByteArray).data.toList)) = true then (parse_parser_typ.f l' y.1 y.2 1).bind fun x => (parse_parser_block.f l' x.2.1 x.2.2 1).bind fun y => if ([] : List S24).length + 2 ≤ 2513169434916 then some (⟨2, t, v, [] ++ [⟨x.1.f0, x.1.f1, x.1.f2, x.1.f3⟩, y.1]⟩, y.2.1, y.2.2) else none
          else (parse_parser_block.f l' y.1 y.2 1).bind fun y => if ([] : List S24).length + 2 ≤ 2513169434916 then some (⟨2, t, v, [] ++ [⟨4, ⟨#[]⟩, w, []⟩, y.1]⟩, y.2.1, y.2.2) else none) (Rp p) := by
    intro p2 e2 v t k1 k2 k3
    gvf
    by_cases hc : (!(s.data.toList == (⟨#[41]⟩ : ByteArray).data.toList)) = true
    · rw [if_pos hc, if_pos hc]
      refine Gv.bind (param_f A (by omega) (by omega)) (fun r p1 e1 g1 g2 g3 g4 => ?_)
      gvd
      refine Gv.bind (function_loop A 100000 p1 e1 p2 [r] (by omega) g2 (by omega) (by simp) (by omega) (fun h => DL.one (g4 h).2)) (fun ks p4 e4 m1 m2 m3 m4 => ?_)
      gvd
      refine res _ _ _ _ _ (by omega) m2 m4.1 (fun h => ?_)
      have hz1 : e1 = 0 := by
        apply Classical.byContradiction; intro hn
        have := m3 hn; omega
      have hz2 : e2 = 0 := by
        apply Classical.byContradiction; intro hn
        have := g3 hn; omega
      have := k3 hz2
      exact ⟨by omega, (m4.2 h).mono (by omega)⟩
    · rw [if_neg hc, if_neg hc]
      exact res _ _ _ _ _ (by omega) k2 (by simp) (fun h => ⟨k3 h, DL.nil⟩)
  gvs
  gvm
  · gvd
    gvx
    · gvd
      gvm
      · exact par _ _ _ _ (by omega) (by omega) (fun _ => by omega)
      · exact par _ _ _ _ (by omega) (by omega) (fun h => absurd h he')
    · gvd
      gvm
      · exact absurd hz he'
      · exact par _ _ _ _ (by omega) (by omega) (fun h => absurd h he')
  · gvd
    gvx
    · exact absurd hz he'
    · gvd
      gvm
      · exact absurd hz he'
      · exact par _ _ _ _ (by omega) (by omega) (fun h => absurd h he')
end
end Go.Proofs.Ythlhmoocgjddpaa.Sy
set_option linter.unusedVariables false
set_option linter.unusedSimpArgs false
set_option maxRecDepth 100000
set_option maxHeartbeats 4000000
namespace Go.Proofs.Ythlhmoocgjddpaa.Sy
open Go Go.RowKit Go.Proofs.YthlhmoocgjddpaaW.PrintWords 
def parse_Parse.l0 (a0:(List S41)):Nat → Int → Int → (List S24) → Option (Int × Int × (List S24))
 | 0,_,_,_=>none
 | n163 + 1,x104,x105,l106=>jn (γ:=(Int × Int × (List S24))) (fun (x216:Bool)=>(if x216=true then (parse_parser_function.f a0 x104 x105).bind fun (y247:(S24 × Int × Int))=>(if l106.length < 2513169434916 then parse_Parse.l0 a0 n163 y247.2.1 y247.2.2 (l106 ++ [y247.1]) else none) else some (x104,x105,l106))) (fun (j217:(Bool → Option (Int × Int × (List S24))))=>(if x105=0 then j217 (decide (x104 < (a0.length:Int))) else j217 false))
def parse_Parse.f (a0:(List S41)):Option (S24 × Int × Int):=(parse_parser_start.f a0 0 0).bind fun (y7:Int)=>(parse_Parse.l0 a0 100000 0 0 []).bind fun (x156,x157,l158)=>(if (!decide (x157=0))=true then some ((⟨0,(⟨#[]⟩:ByteArray),0,([]:List S24)⟩:S24),x156,x157) else some ((⟨1,(⟨#[]⟩:ByteArray),y7,l158⟩:S24),x156,0))
def parse_Parse.post (G:Gd)  (r:(S24 × Int × Int)) (v:Value) (G':Gd) (Lr:List Ch):Prop:=G=G'∧∃ (A_1:Option Addr) (c_1:Nat),v=.tuple #[.agg #[VI r.1.f0,.string r.1.f1,VI r.1.f2,.slice A_1 r.1.f3.length c_1],VI r.2.1,VI r.2.2]∧Lr=[Row k24 24 (.slice A_1 r.1.f3.length c_1) r.1.f3]
theorem parse_Parse.calls {G:Gd} {r:(S24 × Int × Int)} {a0:(List S41)} {A1:Option Addr} {c2:Nat} (hr3:Rd G k41 A1 a0) (hl4:a0.length ≤ c2) (h:parse_Parse.f a0=some r):Fn Try.prog 18 G [] [.slice A1 a0.length c2] (parse_Parse.post G  r):=by
 refine Fn.intro (e:=[(0,.slice A1 a0.length c2)]) 53 Try.func18 rfl Try.ntmps18 rfl rfl (Nat.le_of_ble_eq_true rfl) (fun L=>?_)
 unfold parse_Parse.f at h
 refine TC.seq ?_
 refine TC.region ?_
 refine TL.cons (TL.alloc (cs:=[VI 0,.string (⟨#[]⟩:ByteArray),VI 0,.slice none 0 0]) rfl rfl zr24 rfl (fun b5=>?_))
 refine TV rfl rfl rfl (Val.assign rfl) ?_
 refine TV rfl rfl rfl (Val.assign rfl) ?_
 refine TL.nil ?_
 refine TQ.then_ ?_
 refine TC.seq ?_
 refine TC.region ?_
 refine TV rfl rfl rfl (Val.move rfl) ?_
 refine TV rfl rfl rfl (Val.build (cs:=[.slice A1 a0.length c2,VI 0,VI 0]) (is:=[0]) (xs:=[.tmp 7]) Try.underlying67 zr67 bld67 rfl rfl rfl rfl) ?_
 refine TL.cons (TL.box (cs:=[.slice A1 a0.length c2,VI 0,VI 0]) rfl rfl rfl rfl (fun b6=>?_))
 refine TV rfl rfl rfl (Val.assign rfl) ?_
 refine TL.nil ?_
 refine TQ.then_ ?_
 refine TC.seq ?_
 refine TC.region ?_
 refine TV rfl rfl rfl (Val.move rfl) ?_
 obtain ⟨y7,hy8,h⟩:=bind_no h
 refine TL.cons (TL.callV (Lin:=[Blk b6 [.slice A1 a0.length c2,VI 0,VI 0] 67]) (args:=[VP b6 0]) rfl rfl rfl hbd29 rfl rfl (parse_parser_start.calls (a0_0:=a0) (a0_1:=0) (a0_2:=0) hr3 hl4 hy8) rfl ?_)
 rintro _ _ _ _ ⟨rfl,rfl,rfl⟩
 refine TV rfl rfl rfl (Val.build (cs:=[VI 1,.string (⟨#[]⟩:ByteArray),VI y7,.slice none 0 0]) (is:=[0,2]) (xs:=[.const (VI 1),.tmp 11]) Try.underlying24 zr24 bld24 rfl rfl rfl rfl) ?_
 refine TL.cons (TL.alloc (cs:=[VI 0,.string (⟨#[]⟩:ByteArray),VI 0,.slice none 0 0]) rfl rfl zr24 rfl (fun b9=>?_))
 refine TL.cons (TL.store 0 (ds:=[VI 1,.string (⟨#[]⟩:ByteArray),VI y7,.slice none 0 0]) (cs':=[VI 1,.string (⟨#[]⟩:ByteArray),VI y7,.slice none 0 0]) (L':=(Blk b9 [VI 1,.string (⟨#[]⟩:ByteArray),VI y7,.slice none 0 0] 24::Blk b6 [.slice A1 a0.length c2,VI 0,VI 0] 67::Blk b5 [VI 0,.string (⟨#[]⟩:ByteArray),VI 0,.slice none 0 0] 24::L)) rfl fsz24 rfl rfl rfl rfl rfl (Nat.le_of_ble_eq_true rfl) rfl rfl ?_)
 refine TL.nil ?_
 refine TQ.then_ ?_
 refine TC.seq ?_
 obtain ⟨o162,ho162,ko162⟩:=bind_no h
 clear h
 refine TC.tail (fun a W=>∃ (x156:Int) (x157:Int) (l158:(List S24)) (A159:Option Addr) (c160:Nat),(x156,x157,l158)=o162∧Fr 53 a [(2,VP b5 0),(5,VP b6 0),(6,VP b9 0)]∧Own G (Blk b5 [VI 0,.string (⟨#[]⟩:ByteArray),VI 0,.slice none 0 0] 24::Blk b6 [.slice A1 a0.length c2,VI x156,VI x157] 67::Blk b9 [VI 1,.string (⟨#[]⟩:ByteArray),VI y7,.slice A159 l158.length c160] 24::Row k24 24 (.slice A159 l158.length c160) l158::L) W) ?_ ?_
 ·
  rintro a W ⟨x156,x157,l158,A159,c160,rfl,hF,hO⟩
  have h:=ko162
  clear ko162 ho162
  refine TQ.use ?_ hF hO
  clear hF hO
  refine TQ.then_ ?_
  refine TC.seq ?_
  refine TC.seq ?_
  refine TC.region ?_
  refine TV rfl rfl rfl (Val.move rfl) ?_
  refine TV rfl rfl rfl (Val.nilCheck rfl) ?_
  refine TV rfl rfl rfl (Val.fieldAddrB Try.underlying67 rfl fsz33 rfl rfl rfl) ?_
  refine TV rfl rfl rfl (Val.loadB 1 agg33 rfl rfl rfl) ?_
  refine TV rfl rfl rfl (Val.cmp rfl rfl run_neq) ?_
  refine TL.nil ?_
  refine TQ.then_ ?_
  refine TC.cond_b rfl h (fun hc211 h=>?_) (fun hc211 h=>?_)
  ·
   refine TC.seq ?_
   refine TC.regionAnyS (L0:=(Blk b6 [.slice A1 a0.length c2,VI x156,VI x157] 67::Blk b9 [VI 1,.string (⟨#[]⟩:ByteArray),VI y7,.slice A159 l158.length c160] 24::Row k24 24 (.slice A159 l158.length c160) l158::L)) [] [0,1,2,3,4,5,6,7,8,10,11] mixed (by kernel_rfl) ?_
   refine TA.take 0 rfl (by kernel_rfl) rfl (PQ.then_ (PQ.then_ PQ.body)) rfl (Val.build (cs:=[VI 0,.string (⟨#[]⟩:ByteArray),VI 0,.slice none 0 0]) (is:=[]) (xs:=[]) Try.underlying24 zr24 bld24 rfl rfl rfl rfl) (fun W hO=>hO.selT (Ls:=[Blk b6 [.slice A1 a0.length c2,VI x156,VI x157] 67,Blk b9 [VI 1,.string (⟨#[]⟩:ByteArray),VI y7,.slice A159 l158.length c160] 24,Row k24 24 (.slice A159 l158.length c160) l158]) [1,2,3] 4 rfl rfl rfl) ?_
   refine TA.take 1 rfl (by kernel_rfl) rfl (PQ.then_ (PQ.then_ PQ.body)) rfl (Val.move rfl) (fun W hO=>hO.selT (Ls:=[Blk b6 [.slice A1 a0.length c2,VI x156,VI x157] 67,Blk b9 [VI 1,.string (⟨#[]⟩:ByteArray),VI y7,.slice A159 l158.length c160] 24,Row k24 24 (.slice A159 l158.length c160) l158]) [1,2,3] 4 rfl rfl rfl) ?_
   refine TA.take 2 rfl (by kernel_rfl) rfl (PQ.then_ (PQ.then_ PQ.body)) rfl (Val.nilCheck rfl) (fun W hO=>hO.selT (Ls:=[Blk b6 [.slice A1 a0.length c2,VI x156,VI x157] 67,Blk b9 [VI 1,.string (⟨#[]⟩:ByteArray),VI y7,.slice A159 l158.length c160] 24,Row k24 24 (.slice A159 l158.length c160) l158]) [1,2,3] 4 rfl rfl rfl) ?_
   refine TA.take 3 rfl (by kernel_rfl) rfl (PQ.then_ (PQ.then_ PQ.body)) rfl (Val.fieldAddrB Try.underlying67 rfl fsz3 rfl rfl rfl) (fun W hO=>hO.selT (Ls:=[Blk b6 [.slice A1 a0.length c2,VI x156,VI x157] 67,Blk b9 [VI 1,.string (⟨#[]⟩:ByteArray),VI y7,.slice A159 l158.length c160] 24,Row k24 24 (.slice A159 l158.length c160) l158]) [1,2,3] 4 rfl rfl rfl) ?_
   refine TA.take 4 rfl (by kernel_rfl) rfl (PQ.then_ (PQ.then_ PQ.body)) rfl (Val.loadB 0 agg3 rfl rfl rfl) (fun W hO=>hO.selT (Ls:=[Blk b6 [.slice A1 a0.length c2,VI x156,VI x157] 67,Blk b9 [VI 1,.string (⟨#[]⟩:ByteArray),VI y7,.slice A159 l158.length c160] 24,Row k24 24 (.slice A159 l158.length c160) l158]) [1,2,3] 4 rfl rfl rfl) ?_
   refine TA.take 5 rfl (by kernel_rfl) rfl (PQ.then_ (PQ.then_ PQ.body)) rfl (Val.move rfl) (fun W hO=>hO.selT (Ls:=[Blk b6 [.slice A1 a0.length c2,VI x156,VI x157] 67,Blk b9 [VI 1,.string (⟨#[]⟩:ByteArray),VI y7,.slice A159 l158.length c160] 24,Row k24 24 (.slice A159 l158.length c160) l158]) [1,2,3] 4 rfl rfl rfl) ?_
   refine TA.take 6 rfl (by kernel_rfl) rfl (PQ.then_ (PQ.then_ PQ.body)) rfl (Val.nilCheck rfl) (fun W hO=>hO.selT (Ls:=[Blk b6 [.slice A1 a0.length c2,VI x156,VI x157] 67,Blk b9 [VI 1,.string (⟨#[]⟩:ByteArray),VI y7,.slice A159 l158.length c160] 24,Row k24 24 (.slice A159 l158.length c160) l158]) [1,2,3] 4 rfl rfl rfl) ?_
   refine TA.take 7 rfl (by kernel_rfl) rfl (PQ.then_ (PQ.then_ PQ.body)) rfl (Val.fieldAddrB Try.underlying67 rfl fsz33 rfl rfl rfl) (fun W hO=>hO.selT (Ls:=[Blk b6 [.slice A1 a0.length c2,VI x156,VI x157] 67,Blk b9 [VI 1,.string (⟨#[]⟩:ByteArray),VI y7,.slice A159 l158.length c160] 24,Row k24 24 (.slice A159 l158.length c160) l158]) [1,2,3] 4 rfl rfl rfl) ?_
   refine TA.take 8 rfl (by kernel_rfl) rfl (PQ.then_ (PQ.then_ PQ.body)) rfl (Val.loadB 0 agg33 rfl rfl rfl) (fun W hO=>hO.selT (Ls:=[Blk b6 [.slice A1 a0.length c2,VI x156,VI x157] 67,Blk b9 [VI 1,.string (⟨#[]⟩:ByteArray),VI y7,.slice A159 l158.length c160] 24,Row k24 24 (.slice A159 l158.length c160) l158]) [1,2,3] 4 rfl rfl rfl) ?_
   refine TA.eff 9 rfl (by kernel_rfl) rfl (TL.store 0 (ds:=[VI 0,.string (⟨#[]⟩:ByteArray),VI 0,.slice none 0 0]) (cs':=[VI 0,.string (⟨#[]⟩:ByteArray),VI 0,.slice none 0 0]) (L':=(Blk b5 [VI 0,.string (⟨#[]⟩:ByteArray),VI 0,.slice none 0 0] 24::Blk b6 [.slice A1 a0.length c2,VI x156,VI x157] 67::Blk b9 [VI 1,.string (⟨#[]⟩:ByteArray),VI y7,.slice A159 l158.length c160] 24::Row k24 24 (.slice A159 l158.length c160) l158::L)) rfl fsz24 rfl rfl rfl rfl rfl (Nat.le_of_ble_eq_true rfl) rfl rfl ?_)
   refine TA.next (fun W hO=>hO.selT (Ls:=[Blk b6 [.slice A1 a0.length c2,VI x156,VI x157] 67,Blk b9 [VI 1,.string (⟨#[]⟩:ByteArray),VI y7,.slice A159 l158.length c160] 24,Row k24 24 (.slice A159 l158.length c160) l158]) [1,2,3] 4 rfl rfl rfl) ?_
   refine TA.take 10 rfl (by kernel_rfl) rfl (PQ.then_ (PQ.then_ PQ.body)) rfl (Val.assign rfl) (fun W hO=>hO.selT (Ls:=[Blk b6 [.slice A1 a0.length c2,VI x156,VI x157] 67,Blk b9 [VI 1,.string (⟨#[]⟩:ByteArray),VI y7,.slice A159 l158.length c160] 24,Row k24 24 (.slice A159 l158.length c160) l158]) [1,2,3] 4 rfl rfl rfl) ?_
   refine TA.take 11 rfl (by kernel_rfl) rfl (PQ.then_ (PQ.then_ PQ.body)) rfl (Val.assign rfl) (fun W hO=>hO.selT (Ls:=[Blk b6 [.slice A1 a0.length c2,VI x156,VI x157] 67,Blk b9 [VI 1,.string (⟨#[]⟩:ByteArray),VI y7,.slice A159 l158.length c160] 24,Row k24 24 (.slice A159 l158.length c160) l158]) [1,2,3] 4 rfl rfl rfl) ?_
   refine TA.done (by kernel_rfl) ?_
   refine TQ.then_ ?_
   refine TC.ret ?_
   refine TQ.thenR ?_
   refine TQ.nilRow k24 24 ?_
   obtain rfl:=Option.some.inj h
   exact TQ.fin (.inl rfl) rfl Try.results18 (.cells 1 rfl rfl agg24 fsz24 (.tmp rfl (.tmp rfl .nil))) rfl (FRel.mk (Ls:=[Row k24 24 (.slice none 0 0) ([]:List S24)]) [0] 5 (Gd.le.refl _) rfl rfl rfl ⟨rfl,none,0,rfl,rfl⟩)
  ·
   refine TC.skip ?_
   refine TQ.then_ ?_
   refine TC.seq ?_
   refine TC.regionAnyS (L0:=(Blk b6 [.slice A1 a0.length c2,VI x156,VI x157] 67::Blk b9 [VI 1,.string (⟨#[]⟩:ByteArray),VI y7,.slice A159 l158.length c160] 24::Row k24 24 (.slice A159 l158.length c160) l158::L)) [] [0,1,2,3,4,6,7] mixed (by kernel_rfl) ?_
   refine TA.take 0 rfl (by kernel_rfl) rfl (PQ.then_ PQ.body) rfl (Val.loadsB 1 (cs:=[VI 1,.string (⟨#[]⟩:ByteArray),VI y7,.slice A159 l158.length c160]) agg24 fsz24 rfl rfl rfl rfl) (fun W hO=>hO.selT (Ls:=[Blk b6 [.slice A1 a0.length c2,VI x156,VI x157] 67,Blk b9 [VI 1,.string (⟨#[]⟩:ByteArray),VI y7,.slice A159 l158.length c160] 24,Row k24 24 (.slice A159 l158.length c160) l158]) [1,2,3] 4 rfl rfl rfl) ?_
   refine TA.take 1 rfl (by kernel_rfl) rfl (PQ.then_ PQ.body) rfl (Val.move rfl) (fun W hO=>hO.selT (Ls:=[Blk b6 [.slice A1 a0.length c2,VI x156,VI x157] 67,Blk b9 [VI 1,.string (⟨#[]⟩:ByteArray),VI y7,.slice A159 l158.length c160] 24,Row k24 24 (.slice A159 l158.length c160) l158]) [1,2,3] 4 rfl rfl rfl) ?_
   refine TA.take 2 rfl (by kernel_rfl) rfl (PQ.then_ PQ.body) rfl (Val.nilCheck rfl) (fun W hO=>hO.selT (Ls:=[Blk b6 [.slice A1 a0.length c2,VI x156,VI x157] 67,Blk b9 [VI 1,.string (⟨#[]⟩:ByteArray),VI y7,.slice A159 l158.length c160] 24,Row k24 24 (.slice A159 l158.length c160) l158]) [1,2,3] 4 rfl rfl rfl) ?_
   refine TA.take 3 rfl (by kernel_rfl) rfl (PQ.then_ PQ.body) rfl (Val.fieldAddrB Try.underlying67 rfl fsz3 rfl rfl rfl) (fun W hO=>hO.selT (Ls:=[Blk b6 [.slice A1 a0.length c2,VI x156,VI x157] 67,Blk b9 [VI 1,.string (⟨#[]⟩:ByteArray),VI y7,.slice A159 l158.length c160] 24,Row k24 24 (.slice A159 l158.length c160) l158]) [1,2,3] 4 rfl rfl rfl) ?_
   refine TA.take 4 rfl (by kernel_rfl) rfl (PQ.then_ PQ.body) rfl (Val.loadB 0 agg3 rfl rfl rfl) (fun W hO=>hO.selT (Ls:=[Blk b6 [.slice A1 a0.length c2,VI x156,VI x157] 67,Blk b9 [VI 1,.string (⟨#[]⟩:ByteArray),VI y7,.slice A159 l158.length c160] 24,Row k24 24 (.slice A159 l158.length c160) l158]) [1,2,3] 4 rfl rfl rfl) ?_
   refine TA.eff 5 rfl (by kernel_rfl) rfl (TL.store 0 (ds:=[VI 1,.string (⟨#[]⟩:ByteArray),VI y7,.slice A159 l158.length c160]) (cs':=[VI 1,.string (⟨#[]⟩:ByteArray),VI y7,.slice A159 l158.length c160]) (L':=(Blk b5 [VI 1,.string (⟨#[]⟩:ByteArray),VI y7,.slice A159 l158.length c160] 24::Blk b6 [.slice A1 a0.length c2,VI x156,VI x157] 67::Blk b9 [VI 1,.string (⟨#[]⟩:ByteArray),VI y7,.slice A159 l158.length c160] 24::Row k24 24 (.slice A159 l158.length c160) l158::L)) rfl fsz24 rfl rfl rfl rfl rfl (Nat.le_of_ble_eq_true rfl) rfl rfl ?_)
   refine TA.next (fun W hO=>hO.selT (Ls:=[Blk b6 [.slice A1 a0.length c2,VI x156,VI x157] 67,Blk b9 [VI 1,.string (⟨#[]⟩:ByteArray),VI y7,.slice A159 l158.length c160] 24,Row k24 24 (.slice A159 l158.length c160) l158]) [1,2,3] 4 rfl rfl rfl) ?_
   refine TA.take 6 rfl (by kernel_rfl) rfl (PQ.then_ PQ.body) rfl (Val.assign rfl) (fun W hO=>hO.selT (Ls:=[Blk b6 [.slice A1 a0.length c2,VI x156,VI x157] 67,Blk b9 [VI 1,.string (⟨#[]⟩:ByteArray),VI y7,.slice A159 l158.length c160] 24,Row k24 24 (.slice A159 l158.length c160) l158]) [1,2,3] 4 rfl rfl rfl) ?_
   refine TA.take 7 rfl (by kernel_rfl) rfl (PQ.then_ PQ.body) rfl (Val.assign rfl) (fun W hO=>hO.selT (Ls:=[Blk b6 [.slice A1 a0.length c2,VI x156,VI x157] 67,Blk b9 [VI 1,.string (⟨#[]⟩:ByteArray),VI y7,.slice A159 l158.length c160] 24,Row k24 24 (.slice A159 l158.length c160) l158]) [1,2,3] 4 rfl rfl rfl) ?_
   refine TA.done (by kernel_rfl) ?_
   refine TQ.then_ ?_
   refine TC.ret ?_
   obtain rfl:=Option.some.inj h
   exact TQ.fin (.inl rfl) rfl Try.results18 (.cells 0 rfl rfl agg24 fsz24 (.tmp rfl (.tmp rfl .nil))) rfl (FRel.mk (Ls:=[Row k24 24 (.slice A159 l158.length c160) l158]) [3] 4 (Gd.le.refl _) rfl rfl rfl ⟨rfl,A159,c160,rfl,rfl⟩)
 ·
  refine TC.block ?_
  intro a W hF hO
  have hS:∃ (x104:Int) (x105:Int) (l106:(List S24)) (A107:Option Addr) (c108:Nat),parse_Parse.l0 a0 100000 x104 x105 l106=some o162∧Fr 53 a [(0,.slice A1 a0.length c2),(2,VP b5 0),(5,VP b6 0),(6,VP b9 0)]∧Own G (Blk b5 [VI 0,.string (⟨#[]⟩:ByteArray),VI 0,.slice none 0 0] 24::Blk b6 [.slice A1 a0.length c2,VI x104,VI x105] 67::Blk b9 [VI 1,.string (⟨#[]⟩:ByteArray),VI y7,.slice A107 l106.length c108] 24::Row k24 24 (.slice A107 l106.length c108) l106::L) W:=by
   exact ⟨0,0,[],none,0,ho162,hF.sub ⟨rfl,rfl,rfl,rfl,trivial⟩,(Own.nilRow k24 24 hO).selT (Ls:=[Blk b5 [VI 0,.string (⟨#[]⟩:ByteArray),VI 0,.slice none 0 0] 24,Blk b6 [.slice A1 a0.length c2,VI 0,VI 0] 67,Blk b9 [VI 1,.string (⟨#[]⟩:ByteArray),VI y7,.slice none ([]:List S24).length 0] 24,Row k24 24 (.slice none ([]:List S24).length 0) ([]:List S24)]) [3,2,1,0] 4 rfl rfl rfl⟩
  clear hF hO ho162 ko162
  refine TC.loop (fun n163 a W=>∃ (x104:Int) (x105:Int) (l106:(List S24)) (A107:Option Addr) (c108:Nat),parse_Parse.l0 a0 n163 x104 x105 l106=some o162∧Fr 53 a [(0,.slice A1 a0.length c2),(2,VP b5 0),(5,VP b6 0),(6,VP b9 0)]∧Own G (Blk b5 [VI 0,.string (⟨#[]⟩:ByteArray),VI 0,.slice none 0 0] 24::Blk b6 [.slice A1 a0.length c2,VI x104,VI x105] 67::Blk b9 [VI 1,.string (⟨#[]⟩:ByteArray),VI y7,.slice A107 l106.length c108] 24::Row k24 24 (.slice A107 l106.length c108) l106::L) W) ?_ ?_ hS
  ·
   rintro a W ⟨x104,x105,l106,A107,c108,h,hF,hO⟩
   exact none_no h
  ·
   clear hS
   rintro n163 a W ⟨x104,x105,l106,A107,c108,h,hF,hO⟩
   rw [parse_Parse.l0] at h
   refine TC.use ?_ hF hO
   clear hF hO
   refine TC.seq ?_
   refine TC.seq ?_
   obtain ⟨j217,hj217,h⟩:=jn_no h
   refine TC.tail (fun a W=>∃ (x216:Bool),j217 x216=some o162∧Fr 53 a [(0,.slice A1 a0.length c2),(2,VP b5 0),(5,VP b6 0),(6,VP b9 0),(26,.bool x216)]∧Own G (Blk b5 [VI 0,.string (⟨#[]⟩:ByteArray),VI 0,.slice none 0 0] 24::Blk b6 [.slice A1 a0.length c2,VI x104,VI x105] 67::Blk b9 [VI 1,.string (⟨#[]⟩:ByteArray),VI y7,.slice A107 l106.length c108] 24::Row k24 24 (.slice A107 l106.length c108) l106::L) W) ?_ ?_
   ·
    rintro a W ⟨x216,h,hF,hO⟩
    rw [hj217] at h
    refine TQ.use ?_ hF hO
    clear hF hO
    refine TQ.then_ ?_
    refine TC.cond_b rfl h (fun hc219 h=>?_) (fun hc219 h=>?_)
    ·
     refine TC.skip ?_
     refine TQ.then_ ?_
     refine TC.block ?_
     refine TC.regionAnyS (L0:=(Blk b5 [VI 0,.string (⟨#[]⟩:ByteArray),VI 0,.slice none 0 0] 24::Blk b9 [VI 1,.string (⟨#[]⟩:ByteArray),VI y7,.slice A107 l106.length c108] 24::L)) [7] [0,1,2,6] mixed (by kernel_rfl) ?_
     refine TA.take 0 rfl (by kernel_rfl) rfl (PQ.inB (PQ.then_ (PQ.inB (PQ.then_ (PQ.then_ PQ.body))))) rfl (Val.fieldAddrB Try.underlying24 rfl fsz22 rfl rfl rfl) (fun W hO=>hO.selT (Ls:=[Blk b5 [VI 0,.string (⟨#[]⟩:ByteArray),VI 0,.slice none 0 0] 24,Blk b9 [VI 1,.string (⟨#[]⟩:ByteArray),VI y7,.slice A107 l106.length c108] 24]) [0,2] 4 rfl rfl rfl) ?_
     refine TA.take 1 rfl (by kernel_rfl) rfl (PQ.inB (PQ.then_ (PQ.inB (PQ.then_ (PQ.then_ PQ.body))))) rfl (Val.loadB 1 agg22 rfl rfl rfl) (fun W hO=>hO.selT (Ls:=[Blk b5 [VI 0,.string (⟨#[]⟩:ByteArray),VI 0,.slice none 0 0] 24,Blk b9 [VI 1,.string (⟨#[]⟩:ByteArray),VI y7,.slice A107 l106.length c108] 24]) [0,2] 4 rfl rfl rfl) ?_
     refine TA.take 2 rfl (by kernel_rfl) rfl (PQ.inB (PQ.then_ (PQ.inB (PQ.then_ (PQ.then_ PQ.body))))) rfl (Val.move rfl) (fun W hO=>hO.selT (Ls:=[Blk b5 [VI 0,.string (⟨#[]⟩:ByteArray),VI 0,.slice none 0 0] 24,Blk b9 [VI 1,.string (⟨#[]⟩:ByteArray),VI y7,.slice A107 l106.length c108] 24]) [0,2] 4 rfl rfl rfl) ?_
     refine TK.sel (Ls:=[Blk b6 [.slice A1 a0.length c2,VI x104,VI x105] 67,Blk b5 [VI 0,.string (⟨#[]⟩:ByteArray),VI 0,.slice none 0 0] 24,Blk b9 [VI 1,.string (⟨#[]⟩:ByteArray),VI y7,.slice A107 l106.length c108] 24,Row k24 24 (.slice A107 l106.length c108) l106]) [1,0,2,3] 4 rfl rfl rfl ?_
     obtain ⟨y247,hy248,h⟩:=bind_no h
     refine TA.eff 3 rfl (by kernel_rfl) rfl (TL.callV (Lin:=[Blk b6 [.slice A1 a0.length c2,VI x104,VI x105] 67]) (args:=[VP b6 0]) rfl rfl rfl hbd30 rfl rfl (parse_parser_function.calls (a0_0:=a0) (a0_1:=x104) (a0_2:=x105) hr3 hl4 hy248) rfl ?_)
     rintro _ _ _ _ ⟨rfl,A249,c250,rfl,rfl⟩
     refine TA.next (fun W hO=>hO.selT (Ls:=[Blk b5 [VI 0,.string (⟨#[]⟩:ByteArray),VI 0,.slice none 0 0] 24,Blk b9 [VI 1,.string (⟨#[]⟩:ByteArray),VI y7,.slice A107 l106.length c108] 24]) [2,3] 5 rfl rfl rfl) ?_
     refine TA.eff 4 rfl (by kernel_rfl) rfl (TL.buildSlice (xs:=[.tmp 30]) (vs:=[.agg #[VI y247.1.f0,.string y247.1.f1,VI y247.1.f2,.slice A249 y247.1.f3.length c250]]) (cs:=[VI y247.1.f0,.string y247.1.f1,VI y247.1.f2,.slice A249 y247.1.f3.length c250]) rfl rfl Try.underlying22 zs24 rfl rfl rfl rfl rfl rfl rfl rfl (fun b252=>?_))
     refine TA.next (fun W hO=>hO.selT (Ls:=[Blk b5 [VI 0,.string (⟨#[]⟩:ByteArray),VI 0,.slice none 0 0] 24,Blk b9 [VI 1,.string (⟨#[]⟩:ByteArray),VI y7,.slice A107 l106.length c108] 24]) [3,4] 6 rfl rfl rfl) ?_
     refine TK.sel (Ls:=[Row k24 24 (.slice A249 y247.1.f3.length c250) y247.1.f3,Blk b252 [VI y247.1.f0,.string y247.1.f1,VI y247.1.f2,.slice A249 y247.1.f3.length c250] 24,Blk b6 [.slice A1 a0.length c2,VI y247.2.1,VI y247.2.2] 67,Blk b5 [VI 0,.string (⟨#[]⟩:ByteArray),VI 0,.slice none 0 0] 24,Blk b9 [VI 1,.string (⟨#[]⟩:ByteArray),VI y7,.slice A107 l106.length c108] 24,Row k24 24 (.slice A107 l106.length c108) l106]) [2,0,1,3,4,5] 6 rfl rfl rfl ?_
     refine TK.conv (ch':=El k24 y247.1 [VI y247.1.f0,.string y247.1.f1,VI y247.1.f2,.slice A249 y247.1.f3.length c250]) (fun B W F hh=>k24_mkM W B F y247.1 hh) ?_
     refine TK.sel (Ls:=[Row k24 24 (.slice A107 l106.length c108) l106,El k24 y247.1 [VI y247.1.f0,.string y247.1.f1,VI y247.1.f2,.slice A249 y247.1.f3.length c250],Blk b252 [VI y247.1.f0,.string y247.1.f1,VI y247.1.f2,.slice A249 y247.1.f3.length c250] 24,Blk b6 [.slice A1 a0.length c2,VI y247.2.1,VI y247.2.2] 67,Blk b5 [VI 0,.string (⟨#[]⟩:ByteArray),VI 0,.slice none 0 0] 24,Blk b9 [VI 1,.string (⟨#[]⟩:ByteArray),VI y7,.slice A107 l106.length c108] 24]) [5,0,1,2,3,4] 6 rfl rfl rfl ?_
     obtain ⟨ha253,h⟩:=ite_no h
     refine TA.eff 5 rfl (by kernel_rfl) rfl (TL.append (xs:=l106) k24 rfl rfl Try.underlying22 inf24 rfl (Nat.le_of_ble_eq_true rfl) (Nat.le_of_ble_eq_true rfl) rfl rfl (by omega) (fun A254 c255=>?_))
     refine TA.next (fun W hO=>hO.selT (Ls:=[Blk b5 [VI 0,.string (⟨#[]⟩:ByteArray),VI 0,.slice none 0 0] 24,Blk b9 [VI 1,.string (⟨#[]⟩:ByteArray),VI y7,.slice A107 l106.length c108] 24]) [2,3] 4 rfl rfl rfl) ?_
     refine TA.take 6 rfl (by kernel_rfl) rfl (PQ.inB (PQ.then_ (PQ.inB (PQ.then_ (PQ.then_ PQ.body))))) rfl (Val.fieldAddrB Try.underlying24 rfl fsz22 rfl rfl rfl) (fun W hO=>hO.selT (Ls:=[Blk b5 [VI 0,.string (⟨#[]⟩:ByteArray),VI 0,.slice none 0 0] 24,Blk b9 [VI 1,.string (⟨#[]⟩:ByteArray),VI y7,.slice A107 l106.length c108] 24]) [2,3] 4 rfl rfl rfl) ?_
     refine TA.eff 7 rfl (by kernel_rfl) rfl (TL.store 3 (ds:=[.slice A254 (l106 ++ [y247.1]).length c255]) (cs':=[VI 1,.string (⟨#[]⟩:ByteArray),VI y7,.slice A254 (l106 ++ [y247.1]).length c255]) (L':=(Row k24 24 (.slice A254 (l106 ++ [y247.1]).length c255) (l106 ++ [y247.1])::Blk b6 [.slice A1 a0.length c2,VI y247.2.1,VI y247.2.2] 67::Blk b5 [VI 0,.string (⟨#[]⟩:ByteArray),VI 0,.slice none 0 0] 24::Blk b9 [VI 1,.string (⟨#[]⟩:ByteArray),VI y7,.slice A254 (l106 ++ [y247.1]).length c255] 24::L)) rfl fsz22 rfl rfl rfl rfl rfl (Nat.le_of_ble_eq_true rfl) rfl rfl ?_)
     refine TA.last rfl ?_
     refine TA.done (by kernel_rfl) ?_
     refine TQ.inB ?_
     exact fun a W hF hO=>⟨y247.2.1,y247.2.2,(l106 ++ [y247.1]),A254,c255,h,hF.sub ⟨rfl,rfl,rfl,rfl,trivial⟩,hO.selT (Ls:=[Blk b5 [VI 0,.string (⟨#[]⟩:ByteArray),VI 0,.slice none 0 0] 24,Blk b6 [.slice A1 a0.length c2,VI y247.2.1,VI y247.2.2] 67,Blk b9 [VI 1,.string (⟨#[]⟩:ByteArray),VI y7,.slice A254 (l106 ++ [y247.1]).length c255] 24,Row k24 24 (.slice A254 (l106 ++ [y247.1]).length c255) (l106 ++ [y247.1])]) [2,1,3,0] 4 rfl rfl rfl⟩
    ·
     refine TC.exit ?_
     refine TQ.thenX ?_
     refine TQ.thenX ?_
     refine TQ.inBX ?_
     exact fun a W hF hO=>⟨x104,x105,l106,A107,c108,Option.some.inj h,hF.sub ⟨rfl,rfl,rfl,trivial⟩,hO.selT (Ls:=[Blk b5 [VI 0,.string (⟨#[]⟩:ByteArray),VI 0,.slice none 0 0] 24,Blk b6 [.slice A1 a0.length c2,VI x104,VI x105] 67,Blk b9 [VI 1,.string (⟨#[]⟩:ByteArray),VI y7,.slice A107 l106.length c108] 24,Row k24 24 (.slice A107 l106.length c108) l106]) [0,1,2,3] 4 rfl rfl rfl⟩
   ·
    refine TC.region ?_
    refine TV rfl rfl rfl (Val.move rfl) ?_
    refine TV rfl rfl rfl (Val.nilCheck rfl) ?_
    refine TV rfl rfl rfl (Val.fieldAddrB Try.underlying67 rfl fsz33 rfl rfl rfl) ?_
    refine TV rfl rfl rfl (Val.loadB 1 agg33 rfl rfl rfl) ?_
    refine TV rfl rfl rfl (Val.cmp rfl rfl run_eql) ?_
    refine TV rfl rfl rfl (Val.move rfl) ?_
    refine TK.split (p:=x105=0) h (fun hg256 h=>?_) (fun hg256 h=>?_)
    ·
     have hk257:decide (x105=0)=true:=decide_eq_true hg256
     refine TV (Wt.yes rfl rfl rfl hk257) rfl rfl (Val.move rfl) ?_
     refine TV (Wt.yes rfl rfl rfl hk257) rfl rfl (Val.nilCheck rfl) ?_
     refine TV (Wt.yes rfl rfl rfl hk257) rfl rfl (Val.fieldAddrB Try.underlying67 rfl fsz3 rfl rfl rfl) ?_
     refine TV (Wt.yes rfl rfl rfl hk257) rfl rfl (Val.loadB 1 agg3 rfl rfl rfl) ?_
     refine TV (Wt.yes rfl rfl rfl hk257) rfl rfl (Val.move rfl) ?_
     refine TV (Wt.yes rfl rfl rfl hk257) rfl rfl (Val.len Try.underlying32 rfl) ?_
     refine TV (Wt.yes rfl rfl rfl hk257) rfl rfl (Val.cmp rfl rfl run_lss) ?_
     refine TV rfl rfl rfl (Val.pickY rfl hk257 rfl) ?_
     refine TL.nil ?_
     exact fun a W hF hO=>⟨decide (x104 < (a0.length:Int)),h,hF.sub ⟨rfl,rfl,rfl,rfl,rfl,trivial⟩,hO.selT (Ls:=[Blk b5 [VI 0,.string (⟨#[]⟩:ByteArray),VI 0,.slice none 0 0] 24,Blk b6 [.slice A1 a0.length c2,VI x104,VI x105] 67,Blk b9 [VI 1,.string (⟨#[]⟩:ByteArray),VI y7,.slice A107 l106.length c108] 24,Row k24 24 (.slice A107 l106.length c108) l106]) [0,1,2,3] 4 rfl rfl rfl⟩
    ·
     have hk258:decide (x105=0)=false:=decide_eq_false hg256
     refine TL.cons (TL.not (Wt.no rfl rfl rfl hk258) rfl ?_)
     refine TL.cons (TL.not (Wt.no rfl rfl rfl hk258) rfl ?_)
     refine TL.cons (TL.not (Wt.no rfl rfl rfl hk258) rfl ?_)
     refine TL.cons (TL.not (Wt.no rfl rfl rfl hk258) rfl ?_)
     refine TL.cons (TL.not (Wt.no rfl rfl rfl hk258) rfl ?_)
     refine TL.cons (TL.not (Wt.no rfl rfl rfl hk258) rfl ?_)
     refine TL.cons (TL.not (Wt.no rfl rfl rfl hk258) rfl ?_)
     refine TV rfl rfl rfl (Val.pickN rfl hk258 rfl) ?_
     refine TL.nil ?_
     exact fun a W hF hO=>⟨false,h,hF.sub ⟨rfl,rfl,rfl,rfl,rfl,trivial⟩,hO.selT (Ls:=[Blk b5 [VI 0,.string (⟨#[]⟩:ByteArray),VI 0,.slice none 0 0] 24,Blk b6 [.slice A1 a0.length c2,VI x104,VI x105] 67,Blk b9 [VI 1,.string (⟨#[]⟩:ByteArray),VI y7,.slice A107 l106.length c108] 24,Row k24 24 (.slice A107 l106.length c108) l106]) [0,1,2,3] 4 rfl rfl rfl⟩
def parse_Size.post (G:Gd)  (r:Int) (v:Value) (G':Gd) (Lr:List Ch):Prop:=G=G'∧v=VI r∧Lr=[]
def parse_Size.l0 (rec11:(S24 → Option Int)) (a0:S24):Nat → Int → Int → Option (Int)
 | 0,_,_=>none
 | n114 + 1,x76,x77=>(if x77 < (a0.f3.length:Int) then (at? a0.f3 x77).bind fun y167=>(rec11 y167).bind fun (y181:Int)=>parse_Size.l0 rec11 a0 n114 (IntKind.i64.wrap (x76 + y181)) (IntKind.i64.wrap (x77 + 1)) else some x76)
def parse_Size.g (rec11:(S24 → Option Int)) (a0:S24):Option Int:=(parse_Size.l0 rec11 a0 (a0.f3.length + 1) 1 0).bind fun (x112:Int)=>some x112
theorem parse_Size.step (rec11:(S24 → Option Int)) (ih11:∀ {G:Gd} {r:Int} {a0:S24} {A1:Option Addr} {c2:Nat} (hr3:Rd G k24 A1 a0.f3) (hl4:a0.f3.length ≤ c2),rec11 a0=some r → Fn Try.prog 11 G [] [.agg #[VI a0.f0,.string a0.f1,VI a0.f2,.slice A1 a0.f3.length c2]] (parse_Size.post G  r)) {G:Gd} {r:Int} {a0:S24} {A1:Option Addr} {c2:Nat} (hr3:Rd G k24 A1 a0.f3) (hl4:a0.f3.length ≤ c2) (h:parse_Size.g rec11 a0=some r):Fn Try.prog 11 G [] [.agg #[VI a0.f0,.string a0.f1,VI a0.f2,.slice A1 a0.f3.length c2]] (parse_Size.post G  r):=by
 refine Fn.intro (e:=[(0,.agg #[VI a0.f0,.string a0.f1,VI a0.f2,.slice A1 a0.f3.length c2])]) 19 Try.func11 rfl Try.ntmps11 rfl rfl (Nat.le_of_ble_eq_true rfl) (fun L=>?_)
 unfold parse_Size.g at h
 refine TC.seq ?_
 refine TC.region ?_
 refine TL.cons (TL.box (cs:=[VI a0.f0,.string a0.f1,VI a0.f2,.slice A1 a0.f3.length c2]) rfl rfl rfl rfl (fun b5=>?_))
 refine TV rfl rfl rfl (Val.assign rfl) ?_
 refine TL.nil ?_
 refine TQ.then_ ?_
 refine TC.seq ?_
 refine TC.region ?_
 refine TV rfl rfl rfl (Val.assign rfl) ?_
 refine TL.nil ?_
 refine TQ.then_ ?_
 refine TC.seq ?_
 refine TC.seq ?_
 refine TC.region ?_
 refine TV rfl rfl rfl (Val.fieldAddrB Try.underlying24 rfl fsz22 rfl rfl rfl) ?_
 refine TV rfl rfl rfl (Val.loadB 0 agg22 rfl rfl rfl) ?_
 refine TV rfl rfl rfl (Val.len Try.underlying22 rfl) ?_
 refine TV rfl rfl rfl (Val.move rfl) ?_
 refine TL.nil ?_
 refine TQ.then_ ?_
 obtain ⟨o113,ho113,ko113⟩:=bind_no h
 clear h
 refine TC.tail (fun a W=>∃ (x112:Int),x112=o113∧Fr 19 a [(3,VI x112)]∧Own G (L) W) ?_ ?_
 ·
  rintro a W ⟨x112,rfl,hF,hO⟩
  have h:=ko113
  clear ko113 ho113
  refine TQ.use ?_ hF hO
  clear hF hO
  refine TQ.then_ ?_
  refine TC.seq ?_
  refine TC.region ?_
  refine TV rfl rfl rfl (Val.move rfl) ?_
  refine TV rfl rfl rfl (Val.assign rfl) ?_
  refine TL.nil ?_
  refine TQ.then_ ?_
  refine TC.ret ?_
  obtain rfl:=Option.some.inj h
  exact TQ.fin (.inl rfl) rfl Try.results11 (.tmp rfl .nil) rfl (FRel.mk (Ls:=[]) [] 0 (Gd.le.refl _) rfl rfl rfl ⟨rfl,rfl,rfl⟩)
 ·
  refine TC.block ?_
  intro a W hF hO
  have hS:∃ (x76:Int) (x77:Int),parse_Size.l0 rec11 a0 (a0.f3.length + 1) x76 x77=some o113∧Fr 19 a [(3,VI x76),(7,.slice A1 a0.f3.length c2),(8,VI (a0.f3.length:Int)),(9,VI x77)]∧Own G (L) W:=by
   exact ⟨1,0,ho113,hF.sub ⟨rfl,rfl,rfl,rfl,trivial⟩,hO.selT (Ls:=[]) [] 1 rfl rfl rfl⟩
  clear hF hO ho113 ko113
  refine TC.loop (fun n114 a W=>∃ (x76:Int) (x77:Int),parse_Size.l0 rec11 a0 n114 x76 x77=some o113∧Fr 19 a [(3,VI x76),(7,.slice A1 a0.f3.length c2),(8,VI (a0.f3.length:Int)),(9,VI x77)]∧Own G (L) W) ?_ ?_ hS
  ·
   rintro a W ⟨x76,x77,h,hF,hO⟩
   exact none_no h
  ·
   clear hS
   rintro n114 a W ⟨x76,x77,h,hF,hO⟩
   rw [parse_Size.l0] at h
   refine TC.use ?_ hF hO
   clear hF hO
   refine TC.seq ?_
   refine TC.region ?_
   refine TV rfl rfl rfl (Val.cmp rfl rfl run_lss) ?_
   refine TL.nil ?_
   refine TQ.then_ ?_
   refine TC.seq ?_
   refine TC.cond_p rfl h (fun hc150 h=>?_) (fun hc150 h=>?_)
   ·
    refine TC.skip ?_
    refine TQ.then_ ?_
    refine TC.seq ?_
    refine TC.block ?_
    refine TC.seq ?_
    refine TC.region ?_
    obtain ⟨y167,hx168,h⟩:=bind_no h
    obtain ⟨ad169,cs175,hA170,hi171,hj172,hcl173,hK174⟩:=Rd.at hr3 hx168
    obtain ⟨A176,c177,rfl,hr178,hl179⟩:=k24_openR hK174
    refine TV rfl rfl rfl (Val.indexAddr Try.underlying22 fsz24 rfl hA170 rfl hi171 hj172) ?_
    refine TV rfl rfl rfl (Val.loadsS (cs:=[VI y167.f0,.string y167.f1,VI y167.f2,.slice A176 y167.f3.length c177]) agg24 fsz24 rfl rfl (Cl.sub (off:=0) (n:=4) hcl173 rfl)) ?_
    refine TL.cons (TL.alloc (cs:=[VI 0,.string (⟨#[]⟩:ByteArray),VI 0,.slice none 0 0]) rfl rfl zr24 rfl (fun b180=>?_))
    refine TL.cons (TL.store 0 (ds:=[VI y167.f0,.string y167.f1,VI y167.f2,.slice A176 y167.f3.length c177]) (cs':=[VI y167.f0,.string y167.f1,VI y167.f2,.slice A176 y167.f3.length c177]) (L':=(Blk b180 [VI y167.f0,.string y167.f1,VI y167.f2,.slice A176 y167.f3.length c177] 24::L)) rfl fsz24 rfl rfl rfl rfl rfl (Nat.le_of_ble_eq_true rfl) rfl rfl ?_)
    refine TL.nil ?_
    refine TQ.then_ ?_
    refine TC.region ?_
    refine TV rfl rfl rfl (Val.move rfl) ?_
    refine TV rfl rfl rfl (Val.loadsB 0 (cs:=[VI y167.f0,.string y167.f1,VI y167.f2,.slice A176 y167.f3.length c177]) agg24 fsz24 rfl rfl rfl rfl) ?_
    obtain ⟨y181,hy182,h⟩:=bind_no h
    refine TL.cons (TL.callV (Lin:=[]) (args:=[.agg #[VI y167.f0,.string y167.f1,VI y167.f2,.slice A176 y167.f3.length c177]]) rfl rfl rfl hbd11 rfl rfl (ih11 (a0:=y167) hr178 hl179 hy182) rfl ?_)
    rintro _ _ _ _ ⟨rfl,rfl,rfl⟩
    refine TV rfl rfl rfl (Val.cmp rfl rfl run_add) ?_
    refine TV rfl rfl rfl (Val.assign rfl) ?_
    refine TL.nil ?_
    refine TQ.inB ?_
    refine TQ.then_ ?_
    refine TC.region ?_
    refine TV rfl rfl rfl (Val.cmp rfl rfl run_add) ?_
    refine TV rfl rfl rfl (Val.move rfl) ?_
    refine TL.nil ?_
    exact fun a W hF hO=>⟨IntKind.i64.wrap (x76 + y181),IntKind.i64.wrap (x77 + 1),h,hF.sub ⟨rfl,rfl,rfl,rfl,trivial⟩,hO.selT (Ls:=[]) [] 1 rfl rfl rfl⟩
   ·
    refine TC.exit ?_
    refine TQ.thenX ?_
    refine TQ.thenX ?_
    refine TQ.inBX ?_
    exact fun a W hF hO=>⟨x76,Option.some.inj h,hF.sub ⟨rfl,trivial⟩,hO.selT (Ls:=[]) [] 0 rfl rfl rfl⟩
def parse_Size.fix:Nat → (S24 → Option Int)
 | 0=>(fun _=>none)
 | n + 1=>parse_Size.g (parse_Size.fix n)
theorem parse_Size.fixc:∀ k,(∀ {G:Gd} {r:Int} {a0:S24} {A1:Option Addr} {c2:Nat} (hr3:Rd G k24 A1 a0.f3) (hl4:a0.f3.length ≤ c2),(parse_Size.fix k) a0=some r → Fn Try.prog 11 G [] [.agg #[VI a0.f0,.string a0.f1,VI a0.f2,.slice A1 a0.f3.length c2]] (parse_Size.post G  r))∧True
 | 0=>⟨(by intros; contradiction),trivial⟩
 | k + 1=>by
  have ih:=parse_Size.fixc k
  exact ⟨(by
   intro G r a0 A1 c2 hr3 hl4 h
   exact parse_Size.step _ ih.1 hr3 hl4 h),trivial⟩
def parse_Size.f (a0:S24):Option Int:=(parse_Size.fix 100000) a0
theorem parse_Size.calls {G:Gd} {r:Int} {a0:S24} {A1:Option Addr} {c2:Nat} (hr3:Rd G k24 A1 a0.f3) (hl4:a0.f3.length ≤ c2) (h:parse_Size.f a0=some r):Fn Try.prog 11 G [] [.agg #[VI a0.f0,.string a0.f1,VI a0.f2,.slice A1 a0.f3.length c2]] (parse_Size.post G  r):=(parse_Size.fixc 100000).1 hr3 hl4 h
end Go.Proofs.Ythlhmoocgjddpaa.Sy
set_option linter.unusedVariables false
set_option linter.unusedSimpArgs false
namespace Go.Proofs.Ythlhmoocgjddpaa.Sy
open Go Go.RowKit Go.Proofs.YthlhmoocgjddpaaW.PrintWords
theorem parse_loop {l l' : List S41} {o : Int} {T : Prop} (A : Ag l l' o T) : ∀ (k : Nat) (p e : Int), 0 ≤ p → p ≤ l.length → (l.length : Int) - p + (if e = 0 then 1 else 0) ≤ k →
    ∃ ks p1 e1, p ≤ p1 ∧ p1 ≤ l.length ∧ (e ≠ 0 → e1 = e) ∧ (e1 = 0 → p1 = l.length ∧ DL (l.length - p) ks) ∧
      ∀ (n : Nat) (acc : List S24), (l.length : Int) - p + (if e = 0 then 1 else 0) < n → acc.length + n ≤ 200000 →
        parse_Parse.l0 l n p e acc = some (p1, e1, acc ++ ks) ∧
        ((p1 < l.length ∨ T) → parse_Parse.l0 l' n (p + o) e acc = some (p1 + o, e1, acc ++ ks)) ∧
        (e1 = 0 → ∃ n' : Nat, n ≤ n' + ((l.length : Int) - p) ∧ n' ≤ n ∧ acc.length + ks.length + n' ≤ 200000 ∧ parse_Parse.l0 l' n (p + o) e acc = parse_Parse.l0 l' n' (l.length + o) 0 (acc ++ ks)) := by
  intro k
  induction k with
  | zero =>
    intro p e h0 h1 h2
    have he : e ≠ 0 := by
      intro h; rw [if_pos h] at h2; omega
    refine ⟨[], p, e, by omega, h1, fun _ => rfl, fun h => absurd h he, fun n acc hn ha => ?_⟩
    obtain ⟨n, rfl⟩ : ∃ m, n = m + 1 := ⟨n - 1, by rw [if_neg he] at hn; omega⟩
    refine ⟨?_, fun _ => ?_, fun h => absurd h he⟩
    · rw [parse_Parse.l0]; simp [jn, he]
    · rw [parse_Parse.l0]; simp [jn, he]
  | succ k ih =>
    intro p e h0 h1 h2
    by_cases he : e = 0
    · subst he
      rw [if_pos rfl] at h2
      have hl2 := A.len
      by_cases hp : p < l.length
      · obtain ⟨r, p2, e2, f1, f2, f3, _, f5, f6, f7⟩ := function_f A (Z := True) (p := p) (e := 0) h0 h1
        have f5 := f5 trivial
        obtain ⟨ks, p1, e1, g1, g2, g3, g4, g5⟩ := ih p2 e2 (by omega) f3 (by by_cases h : e2 = 0; rw [if_pos h]; have := f5 h; omega; rw [if_neg h]; omega)
        have hz : e1 = 0 → e2 = 0 := fun h => by
          apply Classical.byContradiction; intro hn
          exact hn ((g3 hn) ▸ h)
        refine ⟨r :: ks, p1, e1, by omega, g2, fun h => absurd rfl h, fun h => ⟨(g4 h).1, ?_⟩, fun n acc hn ha => ?_⟩
        · obtain ⟨c1, c2⟩ := (g4 h).2
          have c3 := f6 (hz h)
          refine ⟨by have := c3.1; simp; omega, fun y hy => ?_⟩
          rcases List.mem_cons.1 hy with h' | h'
          · rw [h']; exact c3.2.mono (by omega)
          · exact (c2 y h').mono (by omega)
        rw [if_pos rfl] at hn
        obtain ⟨n, rfl⟩ : ∃ m, n = m + 1 := ⟨n - 1, by omega⟩
        have hl : acc.length < 2513169434916 := by omega
        obtain ⟨q1, q2, q3⟩ := g5 n (acc ++ [r]) (by by_cases h : e2 = 0; rw [if_pos h]; have := f5 h; omega; rw [if_neg h]; omega) (by simp; omega)
        have hk : acc ++ [r] ++ ks = acc ++ r :: ks := by simp
        rw [hk] at q1 q2 q3
        have hq : p + o < l'.length := by omega
        refine ⟨?_, fun hc => ?_, fun hc => ?_⟩
        · rw [parse_Parse.l0]
          simp only [jn, hp, decide_true, if_true, f1, Option.bind_some, hl]
          exact q1
        · have f8 := f7 (by rcases hc with h | h; exact .inl (by omega); exact .inr (.inl h))
          rw [parse_Parse.l0]
          simp only [jn, hq, decide_true, if_true, f8, Option.bind_some, hl]
          exact q2 hc
        · have f8 := f7 (.inr (.inr ⟨trivial, hz hc⟩))
          obtain ⟨n', m1, m2, m3, m4⟩ := q3 hc
          have := f5 (hz hc)
          refine ⟨n', by omega, by omega, by simp at m3 ⊢; omega, ?_⟩
          rw [parse_Parse.l0]
          simp only [jn, hq, decide_true, if_true, f8, Option.bind_some, hl]
          exact m4
      · refine ⟨[], p, 0, by omega, h1, fun h => absurd rfl h, fun _ => ⟨by omega, DL.nil⟩, fun n acc hn ha => ?_⟩
        rw [if_pos rfl] at hn
        refine ⟨?_, fun hc => ?_, fun hc => ?_⟩
        · obtain ⟨n, rfl⟩ : ∃ m, n = m + 1 := ⟨n - 1, by omega⟩
          rw [parse_Parse.l0]; simp [jn, hp]
        · obtain ⟨n, rfl⟩ : ∃ m, n = m + 1 := ⟨n - 1, by omega⟩
          have := A.all (hc.resolve_left hp)
          have hq : ¬ (p + o < l'.length) := by omega
          rw [parse_Parse.l0]; simp [jn, hq]
        · refine ⟨n, by omega, by omega, by simpa using ha, ?_⟩
          have : p + o = l.length + o := by omega
          rw [this, List.append_nil]
    · refine ⟨[], p, e, by omega, h1, fun _ => rfl, fun h => absurd h he, fun n acc hn ha => ?_⟩
      obtain ⟨n, rfl⟩ : ∃ m, n = m + 1 := ⟨n - 1, by rw [if_neg he] at hn; omega⟩
      refine ⟨?_, fun _ => ?_, fun h => absurd h he⟩
      · rw [parse_Parse.l0]; simp [jn, he]
      · rw [parse_Parse.l0]; simp [jn, he]
theorem parse_f {l : List S41} {p1 e1 : Int} {ks : List S24} (hl : (l.length : Int) ≤ 50000) (h : parse_Parse.l0 l 100000 0 0 [] = some (p1, e1, ks)) :
    parse_Parse.f l = some (if e1 = 0 then (⟨1, ⟨#[]⟩, stt l 0, ks⟩, p1, 0) else (⟨0, ⟨#[]⟩, 0, []⟩, p1, e1)) := by
  unfold parse_Parse.f
  rw [start_f hl (by omega), Option.bind_some, h, Option.bind_some]
  by_cases he : e1 = 0 <;> simp [he]
/-! #### Size -/
theorem size_loop {rec : S24 → Option Int} {x : S24} {v : S24 → Int} (hv : ∀ y ∈ x.f3, rec y = some (v y)) : ∀ (ys : List S24) (m i : Nat) (a : Int), x.f3.drop i = ys → ys.length < m → i + ys.length ≤ 1000000000000 →
    parse_Size.l0 rec x m (IntKind.i64.wrap a) i = some (IntKind.i64.wrap (a + (ys.map v).sum)) := by
  intro ys
  induction ys with
  | nil =>
    intro m i a hd hm hi
    obtain ⟨m, rfl⟩ : ∃ j, m = j + 1 := ⟨m - 1, by simp at hm; omega⟩
    have := List.drop_eq_nil_iff.1 hd
    rw [parse_Size.l0, if_neg (by omega)]
    simp
  | cons y ys ih2 =>
    intro m i a hd hm hi
    obtain ⟨m, rfl⟩ : ∃ j, m = j + 1 := ⟨m - 1, by simp at hm; omega⟩
    have hl : i < x.f3.length := by
      apply Classical.byContradiction; intro hn
      rw [List.drop_eq_nil_of_le (by omega)] at hd; cases hd
    rw [List.drop_eq_getElem_cons hl] at hd
    injection hd with h1 h2
    have hy : y ∈ x.f3 := by rw [← h1]; exact List.getElem_mem hl
    have ha : at? x.f3 (i : Int) = some y := by
      unfold at?; rw [if_pos (by omega)]; simp [List.getElem?_eq_getElem hl, h1]
    rw [parse_Size.l0, if_pos (by omega), ha, Option.bind_some, hv y hy, Option.bind_some]
    have e1 : IntKind.i64.wrap ((i : Int) + 1) = ((i + 1 : Nat) : Int) := by rw [w64 (by omega) (by simp at hi; omega)]; omega
    have e2 : IntKind.i64.wrap (IntKind.i64.wrap a + v y) = IntKind.i64.wrap (a + v y) := by
      rw [IntKind.wrap_i64, IntKind.wrap_i64, IntKind.wrap_i64]; omega
    rw [e1, e2, ih2 m (i + 1) (a + v y) h2 (by simp at hm; omega) (by simp at hi; omega)]
    simp only [List.map_cons, List.sum_cons]
    congr 2; omega
theorem size_g {rec : S24 → Option Int} {x : S24} {v : S24 → Int} (hv : ∀ y ∈ x.f3, rec y = some (v y)) (hl : x.f3.length ≤ 1000000) : parse_Size.g rec x = some (IntKind.i64.wrap (1 + (x.f3.map v).sum)) := by
  unfold parse_Size.g
  have := size_loop hv x.f3 (x.f3.length + 1) 0 1 rfl (by omega) (by omega)
  rw [w64 (n := 1) (by omega) (by omega)] at this
  rw [show ((0 : Nat) : Int) = 0 from rfl] at this
  rw [this]; rfl
theorem size_tot : ∀ (n : Nat), n ≤ 1000000 → ∀ (x : S24), Dp n x → ∃ k, parse_Size.fix n x = some k := by
  intro n
  induction n with
  | zero => intro _ x h; exact h.elim
  | succ n ih =>
    intro hn x h
    refine ⟨_, size_g (v := fun y => (parse_Size.fix n y).getD 0) (fun y hy => ?_) (by have := h.1; omega)⟩
    obtain ⟨k, hk⟩ := ih (by omega) y (h.2 y hy)
    rw [hk]; rfl
def sz (y : S24) : Int := (parse_Size.fix 99999 y).getD 0
theorem size_f {a c : Int} {b : ByteArray} {ks : List S24} (h : DL 50000 ks) : parse_Size.f ⟨a, b, c, ks⟩ = some (IntKind.i64.wrap (1 + (ks.map sz).sum)) := by
  refine size_g (x := ⟨a, b, c, ks⟩) (v := sz) (fun y hy => ?_) (by have := h.1; show ks.length ≤ _; omega)
  obtain ⟨k, hk⟩ := size_tot 99999 (by omega) y ((h.2 y hy).mono (by omega))
  unfold sz; rw [hk]; rfl
end Go.Proofs.Ythlhmoocgjddpaa.Sy
set_option linter.unusedVariables false
set_option linter.unusedSimpArgs false
set_option maxRecDepth 100000
set_option maxHeartbeats 4000000
namespace Go.Proofs.Ythlhmoocgjddpaa.Sy
open Go Go.RowKit Go.Proofs.YthlhmoocgjddpaaW.PrintWords 
def token_blank.f (a0:Int):Option Bool:=(if a0=32 then some true else (if a0=9 then some true else (if a0=10 then some true else some (decide (a0=13)))))
def token_blank.post (G:Gd)  (r:Bool) (v:Value) (G':Gd) (Lr:List Ch):Prop:=G=G'∧v=.bool r∧Lr=[]
theorem token_blank.calls {G:Gd} {r:Bool} {a0:Int} (h:token_blank.f a0=some r):Fn Try.prog 54 G [] [.int .u8 a0] (token_blank.post G  r):=by
 refine Fn.intro (e:=[(0,.int .u8 a0)]) 17 Try.func54 rfl Try.ntmps54 rfl rfl (Nat.le_of_ble_eq_true rfl) (fun L=>?_)
 unfold token_blank.f at h
 refine TC.seq ?_
 refine TC.region ?_
 refine TV rfl rfl rfl (Val.assign rfl) ?_
 refine TL.nil ?_
 refine TQ.then_ ?_
 refine TC.seq ?_
 refine TC.region ?_
 refine TV rfl rfl rfl (Val.move rfl) ?_
 refine TV rfl rfl rfl (Val.cmp rfl rfl run_eql) ?_
 refine TV rfl rfl rfl (Val.move rfl) ?_
 refine TK.split (p:=a0=32) h (fun hg10 h=>?_) (fun hg10 h=>?_)
 ·
  have hk11:decide (a0=32)=true:=decide_eq_true hg10
  refine TL.cons (TL.not (Wt.no rfl rfl rfl hk11) rfl ?_)
  refine TL.cons (TL.not (Wt.no rfl rfl rfl hk11) rfl ?_)
  refine TV rfl rfl rfl (Val.pickY rfl hk11 rfl) ?_
  refine TV rfl rfl rfl (Val.move rfl) ?_
  refine TL.cons (TL.not (Wt.no rfl rfl rfl rfl) rfl ?_)
  refine TL.cons (TL.not (Wt.no rfl rfl rfl rfl) rfl ?_)
  refine TV rfl rfl rfl (Val.pickY rfl rfl rfl) ?_
  refine TV rfl rfl rfl (Val.move rfl) ?_
  refine TL.cons (TL.not (Wt.no rfl rfl rfl rfl) rfl ?_)
  refine TL.cons (TL.not (Wt.no rfl rfl rfl rfl) rfl ?_)
  refine TV rfl rfl rfl (Val.pickY rfl rfl rfl) ?_
  refine TV rfl rfl rfl (Val.assign rfl) ?_
  refine TL.nil ?_
  refine TQ.then_ ?_
  refine TC.ret ?_
  obtain rfl:=Option.some.inj h
  exact TQ.fin (.inl rfl) rfl Try.results54 (.tmp rfl .nil) rfl (FRel.mk (Ls:=[]) [] 0 (Gd.le.refl _) rfl rfl rfl ⟨rfl,rfl,rfl⟩)
 ·
  have hk12:decide (a0=32)=false:=decide_eq_false hg10
  refine TV (Wt.yes rfl rfl rfl hk12) rfl rfl (Val.move rfl) ?_
  refine TV (Wt.yes rfl rfl rfl hk12) rfl rfl (Val.cmp rfl rfl run_eql) ?_
  refine TV rfl rfl rfl (Val.pickN rfl hk12 rfl) ?_
  refine TV rfl rfl rfl (Val.move rfl) ?_
  refine TK.split (p:=a0=9) h (fun hg13 h=>?_) (fun hg13 h=>?_)
  ·
   have hk14:decide (a0=9)=true:=decide_eq_true hg13
   refine TL.cons (TL.not (Wt.no rfl rfl rfl hk14) rfl ?_)
   refine TL.cons (TL.not (Wt.no rfl rfl rfl hk14) rfl ?_)
   refine TV rfl rfl rfl (Val.pickY rfl hk14 rfl) ?_
   refine TV rfl rfl rfl (Val.move rfl) ?_
   refine TL.cons (TL.not (Wt.no rfl rfl rfl rfl) rfl ?_)
   refine TL.cons (TL.not (Wt.no rfl rfl rfl rfl) rfl ?_)
   refine TV rfl rfl rfl (Val.pickY rfl rfl rfl) ?_
   refine TV rfl rfl rfl (Val.assign rfl) ?_
   refine TL.nil ?_
   refine TQ.then_ ?_
   refine TC.ret ?_
   obtain rfl:=Option.some.inj h
   exact TQ.fin (.inl rfl) rfl Try.results54 (.tmp rfl .nil) rfl (FRel.mk (Ls:=[]) [] 0 (Gd.le.refl _) rfl rfl rfl ⟨rfl,rfl,rfl⟩)
  ·
   have hk15:decide (a0=9)=false:=decide_eq_false hg13
   refine TV (Wt.yes rfl rfl rfl hk15) rfl rfl (Val.move rfl) ?_
   refine TV (Wt.yes rfl rfl rfl hk15) rfl rfl (Val.cmp rfl rfl run_eql) ?_
   refine TV rfl rfl rfl (Val.pickN rfl hk15 rfl) ?_
   refine TV rfl rfl rfl (Val.move rfl) ?_
   refine TK.split (p:=a0=10) h (fun hg16 h=>?_) (fun hg16 h=>?_)
   ·
    have hk17:decide (a0=10)=true:=decide_eq_true hg16
    refine TL.cons (TL.not (Wt.no rfl rfl rfl hk17) rfl ?_)
    refine TL.cons (TL.not (Wt.no rfl rfl rfl hk17) rfl ?_)
    refine TV rfl rfl rfl (Val.pickY rfl hk17 rfl) ?_
    refine TV rfl rfl rfl (Val.assign rfl) ?_
    refine TL.nil ?_
    refine TQ.then_ ?_
    refine TC.ret ?_
    obtain rfl:=Option.some.inj h
    exact TQ.fin (.inl rfl) rfl Try.results54 (.tmp rfl .nil) rfl (FRel.mk (Ls:=[]) [] 0 (Gd.le.refl _) rfl rfl rfl ⟨rfl,rfl,rfl⟩)
   ·
    have hk18:decide (a0=10)=false:=decide_eq_false hg16
    refine TV (Wt.yes rfl rfl rfl hk18) rfl rfl (Val.move rfl) ?_
    refine TV (Wt.yes rfl rfl rfl hk18) rfl rfl (Val.cmp rfl rfl run_eql) ?_
    refine TV rfl rfl rfl (Val.pickN rfl hk18 rfl) ?_
    refine TV rfl rfl rfl (Val.assign rfl) ?_
    refine TL.nil ?_
    refine TQ.then_ ?_
    refine TC.ret ?_
    obtain rfl:=Option.some.inj h
    exact TQ.fin (.inl rfl) rfl Try.results54 (.tmp rfl .nil) rfl (FRel.mk (Ls:=[]) [] 0 (Gd.le.refl _) rfl rfl rfl ⟨rfl,rfl,rfl⟩)
def internal_stringslite_HasPrefix.f (a0:ByteArray) (a1:ByteArray):Option Bool:=(if (a1.size:Int) ≤ (a0.size:Int) then (cutS? a0 0 (a1.size:Int)).bind fun (y8:ByteArray)=>some (y8.data.toList == a1.data.toList) else some false)
def internal_stringslite_HasPrefix.post (G:Gd)  (r:Bool) (v:Value) (G':Gd) (Lr:List Ch):Prop:=G=G'∧v=.bool r∧Lr=[]
theorem internal_stringslite_HasPrefix.calls {G:Gd} {r:Bool} {a0:ByteArray} {a1:ByteArray} (h:internal_stringslite_HasPrefix.f a0 a1=some r):Fn Try.prog 70 G [] [.string a0,.string a1] (internal_stringslite_HasPrefix.post G  r):=by
 refine Fn.intro (e:=[(0,.string a0),(1,.string a1)]) 18 Try.func70 rfl Try.ntmps70 rfl rfl (Nat.le_of_ble_eq_true rfl) (fun L=>?_)
 unfold internal_stringslite_HasPrefix.f at h
 refine TC.seq ?_
 refine TC.region ?_
 refine TV rfl rfl rfl (Val.assign rfl) ?_
 refine TL.nil ?_
 refine TQ.then_ ?_
 refine TC.seq ?_
 refine TC.region ?_
 refine TV rfl rfl rfl (Val.move rfl) ?_
 refine TV rfl rfl rfl (Val.lenS Try.underlying9 rfl) ?_
 refine TV rfl rfl rfl (Val.move rfl) ?_
 refine TV rfl rfl rfl (Val.lenS Try.underlying9 rfl) ?_
 refine TV rfl rfl rfl (Val.cmp rfl rfl run_geq) ?_
 refine TV rfl rfl rfl (Val.move rfl) ?_
 refine TK.split (p:=(a1.size:Int) ≤ (a0.size:Int)) h (fun hg6 h=>?_) (fun hg6 h=>?_)
 ·
  have hk7:decide ((a1.size:Int) ≤ (a0.size:Int))=true:=decide_eq_true hg6
  refine TV (Wt.yes rfl rfl rfl hk7) rfl rfl (Val.move rfl) ?_
  refine TV (Wt.yes rfl rfl rfl hk7) rfl rfl (Val.move rfl) ?_
  refine TV (Wt.yes rfl rfl rfl hk7) rfl rfl (Val.lenS Try.underlying9 rfl) ?_
  obtain ⟨y8,hy9,h⟩:=bind_no h
  refine TV (Wt.yes rfl rfl rfl hk7) rfl rfl (Val.cutS Try.underlying9 rfl rfl rfl hy9) ?_
  refine TV (Wt.yes rfl rfl rfl hk7) rfl rfl (Val.move rfl) ?_
  refine TV (Wt.yes rfl rfl rfl hk7) rfl rfl (Val.eqT rfl rfl) ?_
  refine TV rfl rfl rfl (Val.pickY rfl hk7 rfl) ?_
  refine TV rfl rfl rfl (Val.assign rfl) ?_
  refine TL.nil ?_
  refine TQ.then_ ?_
  refine TC.ret ?_
  obtain rfl:=Option.some.inj h
  exact TQ.fin (.inl rfl) rfl Try.results70 (.tmp rfl .nil) rfl (FRel.mk (Ls:=[]) [] 0 (Gd.le.refl _) rfl rfl rfl ⟨rfl,rfl,rfl⟩)
 ·
  have hk10:decide ((a1.size:Int) ≤ (a0.size:Int))=false:=decide_eq_false hg6
  refine TL.cons (TL.not (Wt.no rfl rfl rfl hk10) rfl ?_)
  refine TL.cons (TL.not (Wt.no rfl rfl rfl hk10) rfl ?_)
  refine TL.cons (TL.not (Wt.no rfl rfl rfl hk10) rfl ?_)
  refine TL.cons (TL.not (Wt.no rfl rfl rfl hk10) rfl ?_)
  refine TL.cons (TL.not (Wt.no rfl rfl rfl hk10) rfl ?_)
  refine TL.cons (TL.not (Wt.no rfl rfl rfl hk10) rfl ?_)
  refine TV rfl rfl rfl (Val.pickN rfl hk10 rfl) ?_
  refine TV rfl rfl rfl (Val.assign rfl) ?_
  refine TL.nil ?_
  refine TQ.then_ ?_
  refine TC.ret ?_
  obtain rfl:=Option.some.inj h
  exact TQ.fin (.inl rfl) rfl Try.results70 (.tmp rfl .nil) rfl (FRel.mk (Ls:=[]) [] 0 (Gd.le.refl _) rfl rfl rfl ⟨rfl,rfl,rfl⟩)
def strings_HasPrefix.f (a0:ByteArray) (a1:ByteArray):Option Bool:=(internal_stringslite_HasPrefix.f a0 a1).bind fun (y1:Bool)=>some y1
def strings_HasPrefix.post (G:Gd)  (r:Bool) (v:Value) (G':Gd) (Lr:List Ch):Prop:=G=G'∧v=.bool r∧Lr=[]
theorem strings_HasPrefix.calls {G:Gd} {r:Bool} {a0:ByteArray} {a1:ByteArray} (h:strings_HasPrefix.f a0 a1=some r):Fn Try.prog 55 G [] [.string a0,.string a1] (strings_HasPrefix.post G  r):=by
 refine Fn.intro (e:=[(0,.string a0),(1,.string a1)]) 8 Try.func55 rfl Try.ntmps55 rfl rfl (Nat.le_of_ble_eq_true rfl) (fun L=>?_)
 unfold strings_HasPrefix.f at h
 refine TC.seq ?_
 refine TC.region ?_
 refine TV rfl rfl rfl (Val.assign rfl) ?_
 refine TL.nil ?_
 refine TQ.then_ ?_
 refine TC.seq ?_
 refine TC.region ?_
 refine TV rfl rfl rfl (Val.move rfl) ?_
 refine TV rfl rfl rfl (Val.move rfl) ?_
 obtain ⟨y1,hy2,h⟩:=bind_no h
 refine TL.cons (TL.callV (Lin:=[]) (args:=[.string a0,.string a1]) rfl rfl rfl hbd70 rfl rfl (internal_stringslite_HasPrefix.calls (a0:=a0) (a1:=a1) hy2) rfl ?_)
 rintro _ _ _ _ ⟨rfl,rfl,rfl⟩
 refine TV rfl rfl rfl (Val.assign rfl) ?_
 refine TL.nil ?_
 refine TQ.then_ ?_
 refine TC.ret ?_
 obtain rfl:=Option.some.inj h
 exact TQ.fin (.inl rfl) rfl Try.results55 (.tmp rfl .nil) rfl (FRel.mk (Ls:=[]) [] 0 (Gd.le.refl _) rfl rfl rfl ⟨rfl,rfl,rfl⟩)
def token_skip_1.f (a0:Int):Option Bool:=some (!decide (a0=10))
def token_skip_1.post (G:Gd)  (r:Bool) (v:Value) (G':Gd) (Lr:List Ch):Prop:=G=G'∧v=.bool r∧Lr=[]
theorem token_skip_1.calls {G:Gd} {r:Bool} {a0:Int} (h:token_skip_1.f a0=some r):Fn Try.prog 56 G [] [.int .u8 a0] (token_skip_1.post G  r):=by
 refine Fn.intro (e:=[(0,.int .u8 a0)]) 5 Try.func56 rfl Try.ntmps56 rfl rfl (Nat.le_of_ble_eq_true rfl) (fun L=>?_)
 unfold token_skip_1.f at h
 refine TC.seq ?_
 refine TC.region ?_
 refine TV rfl rfl rfl (Val.assign rfl) ?_
 refine TL.nil ?_
 refine TQ.then_ ?_
 refine TC.seq ?_
 refine TC.region ?_
 refine TV rfl rfl rfl (Val.move rfl) ?_
 refine TV rfl rfl rfl (Val.cmp rfl rfl run_neq) ?_
 refine TV rfl rfl rfl (Val.assign rfl) ?_
 refine TL.nil ?_
 refine TQ.then_ ?_
 refine TC.ret ?_
 obtain rfl:=Option.some.inj h
 exact TQ.fin (.inl rfl) rfl Try.results56 (.tmp rfl .nil) rfl (FRel.mk (Ls:=[]) [] 0 (Gd.le.refl _) rfl rfl rfl ⟨rfl,rfl,rfl⟩)
def token_skip.l2 (a0:ByteArray):Nat → Int → Option (Int)
 | 0,_=>none
 | n1626 + 1,x1605=>jn (γ:=(Int)) (fun (x1652:Bool)=>(if x1652=true then token_skip.l2 a0 n1626 (IntKind.i64.wrap (x1605 + 1)) else some x1605)) (fun (j1653:(Bool → Option (Int)))=>(if x1605 < (a0.size:Int) then (byte? a0 x1605).bind fun (y1658:Int)=>(token_skip_1.f y1658).bind fun (y1660:Bool)=>j1653 y1660 else j1653 false))
def token_skip.l1 (a0:ByteArray):Nat → Int → Option (Int)
 | 0,_=>none
 | n1484 + 1,x1463=>jn (γ:=(Int)) (fun (x1670:Bool)=>(if x1670=true then token_skip.l1 a0 n1484 (IntKind.i64.wrap (x1463 + 1)) else some x1463)) (fun (j1671:(Bool → Option (Int)))=>(if x1463 < (a0.size:Int) then (byte? a0 x1463).bind fun (y1676:Int)=>(token_blank.f y1676).bind fun (y1678:Bool)=>j1671 y1678 else j1671 false))
def token_skip.l0 (a0:ByteArray):Nat → Int → Option Int
 | 0,_=>none
 | n892 + 1,x594=>(token_skip.l1 a0 (a0.size + 1) x594).bind fun (x1482:Int)=>(cutS? a0 x1482 (a0.size:Int)).bind fun (y1503:ByteArray)=>(strings_HasPrefix.f y1503 (⟨#[47,47]⟩:ByteArray)).bind fun (y1505:Bool)=>(if (!y1505)=true then some x1482 else (token_skip.l2 a0 (a0.size + 1) x1482).bind fun (x1624:Int)=>token_skip.l0 a0 n892 x1624)
def token_skip.f (a0:ByteArray) (a1:Int):Option Int:=(token_skip.l0 a0 (a0.size + 1) a1).bind fun q_=>some q_
def token_skip.post (G:Gd)  (r:Int) (v:Value) (G':Gd) (Lr:List Ch):Prop:=G=G'∧v=VI r∧Lr=[]
theorem token_skip.calls {G:Gd} {r:Int} {a0:ByteArray} {a1:Int} (h:token_skip.f a0 a1=some r):Fn Try.prog 41 G [] [.string a0,VI a1] (token_skip.post G  r):=by
 refine Fn.intro (e:=[(0,.string a0),(1,VI a1)]) 17 Try.func41 rfl Try.ntmps41 rfl rfl (Nat.le_of_ble_eq_true rfl) (fun L=>?_)
 unfold token_skip.f at h
 refine TC.seq ?_
 refine TC.region ?_
 refine TV rfl rfl rfl (Val.assign rfl) ?_
 refine TL.nil ?_
 refine TQ.then_ ?_
 obtain ⟨o891,ho891,ko891⟩:=bind_no h
 clear h
 refine TC.tail (fun a W=>False) (fun a W h=>h.elim) ?_
 ·
  refine TC.block ?_
  intro a W hF hO
  have hS:∃ (x594:Int),token_skip.l0 a0 (a0.size + 1) x594=some o891∧Fr 17 a [(0,.string a0),(1,VI x594)]∧Own G (L) W:=by
   exact ⟨a1,ho891,hF.sub ⟨rfl,rfl,trivial⟩,hO.selT (Ls:=[]) [] 0 rfl rfl rfl⟩
  clear hF hO ho891
  refine TC.loop (fun n892 a W=>∃ (x594:Int),token_skip.l0 a0 n892 x594=some o891∧Fr 17 a [(0,.string a0),(1,VI x594)]∧Own G (L) W) ?_ ?_ hS
  ·
   rintro a W ⟨x594,h,hF,hO⟩
   exact none_no h
  ·
   clear hS
   rintro n892 a W ⟨x594,h,hF,hO⟩
   rw [token_skip.l0] at h
   refine TC.use ?_ hF hO
   clear hF hO
   refine TC.block ?_
   refine TC.seq ?_
   refine TC.region ?_
   refine TV rfl rfl rfl (Val.move rfl) ?_
   refine TV rfl rfl rfl (Val.move rfl) ?_
   refine TL.cons (TO.inl (args:=[.string a0,VI x594,.func (.func 54) #[] #[]]) (e':=[(0,.string a0),(1,VI x594),(2,.func (.func 54) #[] #[])]) 21 rfl rfl hbd53 rfl rfl Try.func53 rfl Try.ntmps53 rfl rfl (Nat.le_of_ble_eq_true rfl) (fun a1367 hf1368=>?_))
   refine TC.seq ?_
   refine TC.region ?_
   refine TV rfl rfl rfl (Val.assign rfl) ?_
   refine TL.nil ?_
   refine TQ.then_ ?_
   refine TC.seq ?_
   obtain ⟨o1483,ho1483,ko1483⟩:=bind_no h
   clear h
   refine TC.tail (fun a W=>∃ (x1482:Int),x1482=o1483∧Fr 21 a [(1,VI x1482)]∧Own G (L) W) ?_ ?_
   ·
    rintro a W ⟨x1482,rfl,hF,hO⟩
    have h:=ko1483
    clear ko1483 ho1483
    refine TQ.use ?_ hF hO
    clear hF hO
    refine TQ.then_ ?_
    refine TC.seq ?_
    refine TC.region ?_
    refine TV rfl rfl rfl (Val.move rfl) ?_
    refine TV rfl rfl rfl (Val.assign rfl) ?_
    refine TL.nil ?_
    refine TQ.then_ ?_
    refine TC.ret ?_
    refine TQ.fin (v:=VI x1482) (.inl rfl) rfl Try.results53 (.tmp rfl .nil) rfl (After.mk hf1368 rfl ?_)
    refine TV rfl rfl rfl (Val.assign rfl) ?_
    refine TL.nil ?_
    refine TQ.then_ ?_
    refine TC.seq ?_
    refine TC.seq ?_
    refine TC.region ?_
    refine TV rfl rfl rfl (Val.move rfl) ?_
    refine TV rfl rfl rfl (Val.move rfl) ?_
    obtain ⟨y1503,hy1504,h⟩:=bind_no h
    refine TV rfl rfl rfl (Val.cutS Try.underlying9 rfl rfl rfl hy1504) ?_
    obtain ⟨y1505,hy1506,h⟩:=bind_no h
    refine TL.cons (TL.callV (Lin:=[]) (args:=[.string y1503,.string (⟨#[47,47]⟩:ByteArray)]) rfl rfl rfl hbd55 rfl rfl (strings_HasPrefix.calls (a0:=y1503) (a1:=(⟨#[47,47]⟩:ByteArray)) hy1506) rfl ?_)
    rintro _ _ _ _ ⟨rfl,rfl,rfl⟩
    refine TV rfl rfl rfl (Val.not_ rfl) ?_
    refine TL.nil ?_
    refine TQ.then_ ?_
    refine TC.cond_b rfl h (fun hc1508 h=>?_) (fun hc1508 h=>?_)
    ·
     refine TC.seq ?_
     refine TC.region ?_
     refine TV rfl rfl rfl (Val.move rfl) ?_
     refine TV rfl rfl rfl (Val.assign rfl) ?_
     refine TL.nil ?_
     refine TQ.then_ ?_
     refine TC.ret ?_
     refine TQ.thenR ?_
     refine TQ.inBR ?_
     refine TQ.thenR ?_
     refine TQ.inBR ?_
     refine TQ.thenR ?_
     obtain rfl:=Option.some.inj h
     have h:=ko891
     obtain rfl:=Option.some.inj h
     exact TQ.fin (.inl rfl) rfl Try.results41 (.tmp rfl .nil) rfl (FRel.mk (Ls:=[]) [] 0 (Gd.le.refl _) rfl rfl rfl ⟨rfl,rfl,rfl⟩)
    ·
     refine TC.skip ?_
     refine TQ.then_ ?_
     refine TC.region ?_
     refine TV rfl rfl rfl (Val.move rfl) ?_
     refine TV rfl rfl rfl (Val.move rfl) ?_
     refine TL.cons (TO.inl (args:=[.string a0,VI x1482,.func (.func 56) #[] #[]]) (e':=[(0,.string a0),(1,VI x1482),(2,.func (.func 56) #[] #[])]) 21 rfl rfl hbd53 rfl rfl Try.func53 rfl Try.ntmps53 rfl rfl (Nat.le_of_ble_eq_true rfl) (fun a1509 hf1510=>?_))
     refine TC.seq ?_
     refine TC.region ?_
     refine TV rfl rfl rfl (Val.assign rfl) ?_
     refine TL.nil ?_
     refine TQ.then_ ?_
     refine TC.seq ?_
     obtain ⟨o1625,ho1625,ko1625⟩:=bind_no h
     clear h
     refine TC.tail (fun a W=>∃ (x1624:Int),x1624=o1625∧Fr 21 a [(1,VI x1624)]∧Own G (L) W) ?_ ?_
     ·
      rintro a W ⟨x1624,rfl,hF,hO⟩
      have h:=ko1625
      clear ko1625 ho1625
      refine TQ.use ?_ hF hO
      clear hF hO
      refine TQ.then_ ?_
      refine TC.seq ?_
      refine TC.region ?_
      refine TV rfl rfl rfl (Val.move rfl) ?_
      refine TV rfl rfl rfl (Val.assign rfl) ?_
      refine TL.nil ?_
      refine TQ.then_ ?_
      refine TC.ret ?_
      refine TQ.fin (v:=VI x1624) (.inl rfl) rfl Try.results53 (.tmp rfl .nil) rfl (After.mk hf1510 rfl ?_)
      refine TV rfl rfl rfl (Val.assign rfl) ?_
      refine TL.nil ?_
      refine TQ.inB ?_
      exact fun a W hF hO=>⟨x1624,h,hF.sub ⟨rfl,rfl,trivial⟩,hO.selT (Ls:=[]) [] 0 rfl rfl rfl⟩
     ·
      refine TC.block ?_
      intro a W hF hO
      have hS:∃ (x1605:Int),token_skip.l2 a0 (a0.size + 1) x1605=some o1625∧Fr 21 a [(0,.string a0),(1,VI x1605),(2,.func (.func 56) #[] #[])]∧Own G (L) W:=by
       exact ⟨x1482,ho1625,hF.sub ⟨rfl,rfl,rfl,trivial⟩,hO.selT (Ls:=[]) [] 0 rfl rfl rfl⟩
      clear hF hO ho1625 ko1625
      refine TC.loop (fun n1626 a W=>∃ (x1605:Int),token_skip.l2 a0 n1626 x1605=some o1625∧Fr 21 a [(0,.string a0),(1,VI x1605),(2,.func (.func 56) #[] #[])]∧Own G (L) W) ?_ ?_ hS
      ·
       rintro a W ⟨x1605,h,hF,hO⟩
       exact none_no h
      ·
       clear hS
       rintro n1626 a W ⟨x1605,h,hF,hO⟩
       rw [token_skip.l2] at h
       refine TC.use ?_ hF hO
       clear hF hO
       refine TC.seq ?_
       refine TC.seq ?_
       obtain ⟨j1653,hj1653,h⟩:=jn_no h
       refine TC.tail (fun a W=>∃ (x1652:Bool),j1653 x1652=some o1625∧Fr 21 a [(0,.string a0),(1,VI x1605),(2,.func (.func 56) #[] #[]),(17,.bool x1652)]∧Own G (L) W) ?_ ?_
       ·
        rintro a W ⟨x1652,h,hF,hO⟩
        rw [hj1653] at h
        refine TQ.use ?_ hF hO
        clear hF hO
        refine TQ.then_ ?_
        refine TC.cond_b rfl h (fun hc1655 h=>?_) (fun hc1655 h=>?_)
        ·
         refine TC.skip ?_
         refine TQ.then_ ?_
         refine TC.block ?_
         refine TC.region ?_
         refine TV rfl rfl rfl (Val.move rfl) ?_
         refine TV rfl rfl rfl (Val.cmp rfl rfl run_add) ?_
         refine TV rfl rfl rfl (Val.assign rfl) ?_
         refine TL.nil ?_
         refine TQ.inB ?_
         exact fun a W hF hO=>⟨IntKind.i64.wrap (x1605 + 1),h,hF.sub ⟨rfl,rfl,rfl,trivial⟩,hO.selT (Ls:=[]) [] 0 rfl rfl rfl⟩
        ·
         refine TC.exit ?_
         refine TQ.thenX ?_
         refine TQ.thenX ?_
         refine TQ.inBX ?_
         exact fun a W hF hO=>⟨x1605,Option.some.inj h,hF.sub ⟨rfl,trivial⟩,hO.selT (Ls:=[]) [] 0 rfl rfl rfl⟩
       ·
        refine TC.region ?_
        refine TV rfl rfl rfl (Val.move rfl) ?_
        refine TV rfl rfl rfl (Val.move rfl) ?_
        refine TV rfl rfl rfl (Val.lenS Try.underlying9 rfl) ?_
        refine TV rfl rfl rfl (Val.cmp rfl rfl run_lss) ?_
        refine TV rfl rfl rfl (Val.move rfl) ?_
        refine TK.split (p:=x1605 < (a0.size:Int)) h (fun hg1656 h=>?_) (fun hg1656 h=>?_)
        ·
         have hk1657:decide (x1605 < (a0.size:Int))=true:=decide_eq_true hg1656
         refine TV (Wt.yes rfl rfl rfl hk1657) rfl rfl (Val.move rfl) ?_
         refine TV (Wt.yes rfl rfl rfl hk1657) rfl rfl (Val.move rfl) ?_
         refine TV (Wt.yes rfl rfl rfl hk1657) rfl rfl (Val.move rfl) ?_
         obtain ⟨y1658,hy1659,h⟩:=bind_no h
         refine TV (Wt.yes rfl rfl rfl hk1657) rfl rfl (Val.indexS Try.underlying9 rfl rfl hy1659) ?_
         obtain ⟨y1660,hy1661,h⟩:=bind_no h
         refine TL.cons (TL.callV (Lin:=[]) (args:=[.int .u8 y1658]) (Wt.yes rfl rfl rfl hk1657) rfl rfl hbd56 rfl rfl (token_skip_1.calls (a0:=y1658) hy1661) rfl ?_)
         rintro _ _ _ _ ⟨rfl,rfl,rfl⟩
         refine TV rfl rfl rfl (Val.pickY rfl hk1657 rfl) ?_
         refine TL.nil ?_
         exact fun a W hF hO=>⟨y1660,h,hF.sub ⟨rfl,rfl,rfl,rfl,trivial⟩,hO.selT (Ls:=[]) [] 0 rfl rfl rfl⟩
        ·
         have hk1662:decide (x1605 < (a0.size:Int))=false:=decide_eq_false hg1656
         refine TL.cons (TL.not (Wt.no rfl rfl rfl hk1662) rfl ?_)
         refine TL.cons (TL.not (Wt.no rfl rfl rfl hk1662) rfl ?_)
         refine TL.cons (TL.not (Wt.no rfl rfl rfl hk1662) rfl ?_)
         refine TL.cons (TL.not (Wt.no rfl rfl rfl hk1662) rfl ?_)
         refine TL.cons (TL.not (Wt.no rfl rfl rfl hk1662) rfl ?_)
         refine TV rfl rfl rfl (Val.pickN rfl hk1662 rfl) ?_
         refine TL.nil ?_
         exact fun a W hF hO=>⟨false,h,hF.sub ⟨rfl,rfl,rfl,rfl,trivial⟩,hO.selT (Ls:=[]) [] 0 rfl rfl rfl⟩
   ·
    refine TC.block ?_
    intro a W hF hO
    have hS:∃ (x1463:Int),token_skip.l1 a0 (a0.size + 1) x1463=some o1483∧Fr 21 a [(0,.string a0),(1,VI x1463),(2,.func (.func 54) #[] #[])]∧Own G (L) W:=by
     exact ⟨x594,ho1483,hF.sub ⟨rfl,rfl,rfl,trivial⟩,hO.selT (Ls:=[]) [] 0 rfl rfl rfl⟩
    clear hF hO ho1483 ko1483
    refine TC.loop (fun n1484 a W=>∃ (x1463:Int),token_skip.l1 a0 n1484 x1463=some o1483∧Fr 21 a [(0,.string a0),(1,VI x1463),(2,.func (.func 54) #[] #[])]∧Own G (L) W) ?_ ?_ hS
    ·
     rintro a W ⟨x1463,h,hF,hO⟩
     exact none_no h
    ·
     clear hS
     rintro n1484 a W ⟨x1463,h,hF,hO⟩
     rw [token_skip.l1] at h
     refine TC.use ?_ hF hO
     clear hF hO
     refine TC.seq ?_
     refine TC.seq ?_
     obtain ⟨j1671,hj1671,h⟩:=jn_no h
     refine TC.tail (fun a W=>∃ (x1670:Bool),j1671 x1670=some o1483∧Fr 21 a [(0,.string a0),(1,VI x1463),(2,.func (.func 54) #[] #[]),(17,.bool x1670)]∧Own G (L) W) ?_ ?_
     ·
      rintro a W ⟨x1670,h,hF,hO⟩
      rw [hj1671] at h
      refine TQ.use ?_ hF hO
      clear hF hO
      refine TQ.then_ ?_
      refine TC.cond_b rfl h (fun hc1673 h=>?_) (fun hc1673 h=>?_)
      ·
       refine TC.skip ?_
       refine TQ.then_ ?_
       refine TC.block ?_
       refine TC.region ?_
       refine TV rfl rfl rfl (Val.move rfl) ?_
       refine TV rfl rfl rfl (Val.cmp rfl rfl run_add) ?_
       refine TV rfl rfl rfl (Val.assign rfl) ?_
       refine TL.nil ?_
       refine TQ.inB ?_
       exact fun a W hF hO=>⟨IntKind.i64.wrap (x1463 + 1),h,hF.sub ⟨rfl,rfl,rfl,trivial⟩,hO.selT (Ls:=[]) [] 0 rfl rfl rfl⟩
      ·
       refine TC.exit ?_
       refine TQ.thenX ?_
       refine TQ.thenX ?_
       refine TQ.inBX ?_
       exact fun a W hF hO=>⟨x1463,Option.some.inj h,hF.sub ⟨rfl,trivial⟩,hO.selT (Ls:=[]) [] 0 rfl rfl rfl⟩
     ·
      refine TC.region ?_
      refine TV rfl rfl rfl (Val.move rfl) ?_
      refine TV rfl rfl rfl (Val.move rfl) ?_
      refine TV rfl rfl rfl (Val.lenS Try.underlying9 rfl) ?_
      refine TV rfl rfl rfl (Val.cmp rfl rfl run_lss) ?_
      refine TV rfl rfl rfl (Val.move rfl) ?_
      refine TK.split (p:=x1463 < (a0.size:Int)) h (fun hg1674 h=>?_) (fun hg1674 h=>?_)
      ·
       have hk1675:decide (x1463 < (a0.size:Int))=true:=decide_eq_true hg1674
       refine TV (Wt.yes rfl rfl rfl hk1675) rfl rfl (Val.move rfl) ?_
       refine TV (Wt.yes rfl rfl rfl hk1675) rfl rfl (Val.move rfl) ?_
       refine TV (Wt.yes rfl rfl rfl hk1675) rfl rfl (Val.move rfl) ?_
       obtain ⟨y1676,hy1677,h⟩:=bind_no h
       refine TV (Wt.yes rfl rfl rfl hk1675) rfl rfl (Val.indexS Try.underlying9 rfl rfl hy1677) ?_
       obtain ⟨y1678,hy1679,h⟩:=bind_no h
       refine TL.cons (TL.callV (Lin:=[]) (args:=[.int .u8 y1676]) (Wt.yes rfl rfl rfl hk1675) rfl rfl hbd54 rfl rfl (token_blank.calls (a0:=y1676) hy1679) rfl ?_)
       rintro _ _ _ _ ⟨rfl,rfl,rfl⟩
       refine TV rfl rfl rfl (Val.pickY rfl hk1675 rfl) ?_
       refine TL.nil ?_
       exact fun a W hF hO=>⟨y1678,h,hF.sub ⟨rfl,rfl,rfl,rfl,trivial⟩,hO.selT (Ls:=[]) [] 0 rfl rfl rfl⟩
      ·
       have hk1680:decide (x1463 < (a0.size:Int))=false:=decide_eq_false hg1674
       refine TL.cons (TL.not (Wt.no rfl rfl rfl hk1680) rfl ?_)
       refine TL.cons (TL.not (Wt.no rfl rfl rfl hk1680) rfl ?_)
       refine TL.cons (TL.not (Wt.no rfl rfl rfl hk1680) rfl ?_)
       refine TL.cons (TL.not (Wt.no rfl rfl rfl hk1680) rfl ?_)
       refine TL.cons (TL.not (Wt.no rfl rfl rfl hk1680) rfl ?_)
       refine TV rfl rfl rfl (Val.pickN rfl hk1680 rfl) ?_
       refine TL.nil ?_
       exact fun a W hF hO=>⟨false,h,hF.sub ⟨rfl,rfl,rfl,rfl,trivial⟩,hO.selT (Ls:=[]) [] 0 rfl rfl rfl⟩
def token_letter.f (a0:Int):Option Bool:=(if 97 ≤ a0 then (if a0 ≤ 122 then some true else (if 65 ≤ a0 then (if a0 ≤ 90 then some true else some (decide (a0=95))) else some (decide (a0=95)))) else (if 65 ≤ a0 then (if a0 ≤ 90 then some true else some (decide (a0=95))) else some (decide (a0=95))))
def token_letter.post (G:Gd)  (r:Bool) (v:Value) (G':Gd) (Lr:List Ch):Prop:=G=G'∧v=.bool r∧Lr=[]
theorem token_letter.calls {G:Gd} {r:Bool} {a0:Int} (h:token_letter.f a0=some r):Fn Try.prog 57 G [] [.int .u8 a0] (token_letter.post G  r):=by
 refine Fn.intro (e:=[(0,.int .u8 a0)]) 21 Try.func57 rfl Try.ntmps57 rfl rfl (Nat.le_of_ble_eq_true rfl) (fun L=>?_)
 unfold token_letter.f at h
 refine TC.seq ?_
 refine TC.region ?_
 refine TV rfl rfl rfl (Val.assign rfl) ?_
 refine TL.nil ?_
 refine TQ.then_ ?_
 refine TC.seq ?_
 refine TC.region ?_
 refine TV rfl rfl rfl (Val.move rfl) ?_
 refine TV rfl rfl rfl (Val.cmp rfl rfl run_geq) ?_
 refine TV rfl rfl rfl (Val.move rfl) ?_
 refine TK.split (p:=97 ≤ a0) h (fun hg19 h=>?_) (fun hg19 h=>?_)
 ·
  have hk20:decide (97 ≤ a0)=true:=decide_eq_true hg19
  refine TV (Wt.yes rfl rfl rfl hk20) rfl rfl (Val.move rfl) ?_
  refine TV (Wt.yes rfl rfl rfl hk20) rfl rfl (Val.cmp rfl rfl run_leq) ?_
  refine TV rfl rfl rfl (Val.pickY rfl hk20 rfl) ?_
  refine TV rfl rfl rfl (Val.move rfl) ?_
  refine TK.split (p:=a0 ≤ 122) h (fun hg21 h=>?_) (fun hg21 h=>?_)
  ·
   have hk22:decide (a0 ≤ 122)=true:=decide_eq_true hg21
   refine TL.cons (TL.not (Wt.no rfl rfl rfl hk22) rfl ?_)
   refine TL.cons (TL.not (Wt.no rfl rfl rfl hk22) rfl ?_)
   refine TL.cons (TL.not (Wt.no rfl rfl rfl hk22) rfl ?_)
   refine TL.cons (TL.not rfl rfl ?_)
   refine TL.cons (TL.not rfl rfl ?_)
   refine TL.cons (TL.not (Wt.no rfl rfl rfl hk22) rfl ?_)
   refine TV rfl rfl rfl (Val.pickY rfl hk22 rfl) ?_
   refine TV rfl rfl rfl (Val.move rfl) ?_
   refine TL.cons (TL.not (Wt.no rfl rfl rfl rfl) rfl ?_)
   refine TL.cons (TL.not (Wt.no rfl rfl rfl rfl) rfl ?_)
   refine TV rfl rfl rfl (Val.pickY rfl rfl rfl) ?_
   refine TV rfl rfl rfl (Val.assign rfl) ?_
   refine TL.nil ?_
   refine TQ.then_ ?_
   refine TC.ret ?_
   obtain rfl:=Option.some.inj h
   exact TQ.fin (.inl rfl) rfl Try.results57 (.tmp rfl .nil) rfl (FRel.mk (Ls:=[]) [] 0 (Gd.le.refl _) rfl rfl rfl ⟨rfl,rfl,rfl⟩)
  ·
   have hk23:decide (a0 ≤ 122)=false:=decide_eq_false hg21
   refine TV (Wt.yes rfl rfl rfl hk23) rfl rfl (Val.move rfl) ?_
   refine TV (Wt.yes rfl rfl rfl hk23) rfl rfl (Val.cmp rfl rfl run_geq) ?_
   refine TV (Wt.yes rfl rfl rfl hk23) rfl rfl (Val.move rfl) ?_
   refine TK.split (p:=65 ≤ a0) h (fun hg24 h=>?_) (fun hg24 h=>?_)
   ·
    have hk25:decide (65 ≤ a0)=true:=decide_eq_true hg24
    refine TV (Wt.yes rfl rfl rfl hk25) rfl rfl (Val.move rfl) ?_
    refine TV (Wt.yes rfl rfl rfl hk25) rfl rfl (Val.cmp rfl rfl run_leq) ?_
    refine TV (Wt.yes rfl rfl rfl hk23) rfl rfl (Val.pickY rfl hk25 rfl) ?_
    refine TV rfl rfl rfl (Val.pickN rfl hk23 rfl) ?_
    refine TV rfl rfl rfl (Val.move rfl) ?_
    refine TK.split (p:=a0 ≤ 90) h (fun hg26 h=>?_) (fun hg26 h=>?_)
    ·
     have hk27:decide (a0 ≤ 90)=true:=decide_eq_true hg26
     refine TL.cons (TL.not (Wt.no rfl rfl rfl hk27) rfl ?_)
     refine TL.cons (TL.not (Wt.no rfl rfl rfl hk27) rfl ?_)
     refine TV rfl rfl rfl (Val.pickY rfl hk27 rfl) ?_
     refine TV rfl rfl rfl (Val.assign rfl) ?_
     refine TL.nil ?_
     refine TQ.then_ ?_
     refine TC.ret ?_
     obtain rfl:=Option.some.inj h
     exact TQ.fin (.inl rfl) rfl Try.results57 (.tmp rfl .nil) rfl (FRel.mk (Ls:=[]) [] 0 (Gd.le.refl _) rfl rfl rfl ⟨rfl,rfl,rfl⟩)
    ·
     have hk28:decide (a0 ≤ 90)=false:=decide_eq_false hg26
     refine TV (Wt.yes rfl rfl rfl hk28) rfl rfl (Val.move rfl) ?_
     refine TV (Wt.yes rfl rfl rfl hk28) rfl rfl (Val.cmp rfl rfl run_eql) ?_
     refine TV rfl rfl rfl (Val.pickN rfl hk28 rfl) ?_
     refine TV rfl rfl rfl (Val.assign rfl) ?_
     refine TL.nil ?_
     refine TQ.then_ ?_
     refine TC.ret ?_
     obtain rfl:=Option.some.inj h
     exact TQ.fin (.inl rfl) rfl Try.results57 (.tmp rfl .nil) rfl (FRel.mk (Ls:=[]) [] 0 (Gd.le.refl _) rfl rfl rfl ⟨rfl,rfl,rfl⟩)
   ·
    have hk29:decide (65 ≤ a0)=false:=decide_eq_false hg24
    refine TL.cons (TL.not (Wt.no rfl rfl rfl hk29) rfl ?_)
    refine TL.cons (TL.not (Wt.no rfl rfl rfl hk29) rfl ?_)
    refine TV (Wt.yes rfl rfl rfl hk23) rfl rfl (Val.pickN rfl hk29 rfl) ?_
    refine TV rfl rfl rfl (Val.pickN rfl hk23 rfl) ?_
    refine TV rfl rfl rfl (Val.move rfl) ?_
    refine TV (Wt.yes rfl rfl rfl rfl) rfl rfl (Val.move rfl) ?_
    refine TV (Wt.yes rfl rfl rfl rfl) rfl rfl (Val.cmp rfl rfl run_eql) ?_
    refine TV rfl rfl rfl (Val.pickN rfl rfl rfl) ?_
    refine TV rfl rfl rfl (Val.assign rfl) ?_
    refine TL.nil ?_
    refine TQ.then_ ?_
    refine TC.ret ?_
    obtain rfl:=Option.some.inj h
    exact TQ.fin (.inl rfl) rfl Try.results57 (.tmp rfl .nil) rfl (FRel.mk (Ls:=[]) [] 0 (Gd.le.refl _) rfl rfl rfl ⟨rfl,rfl,rfl⟩)
 ·
  have hk30:decide (97 ≤ a0)=false:=decide_eq_false hg19
  refine TL.cons (TL.not (Wt.no rfl rfl rfl hk30) rfl ?_)
  refine TL.cons (TL.not (Wt.no rfl rfl rfl hk30) rfl ?_)
  refine TV rfl rfl rfl (Val.pickN rfl hk30 rfl) ?_
  refine TV rfl rfl rfl (Val.move rfl) ?_
  refine TV (Wt.yes rfl rfl rfl rfl) rfl rfl (Val.move rfl) ?_
  refine TV (Wt.yes rfl rfl rfl rfl) rfl rfl (Val.cmp rfl rfl run_geq) ?_
  refine TV (Wt.yes rfl rfl rfl rfl) rfl rfl (Val.move rfl) ?_
  refine TK.split (p:=65 ≤ a0) h (fun hg31 h=>?_) (fun hg31 h=>?_)
  ·
   have hk32:decide (65 ≤ a0)=true:=decide_eq_true hg31
   refine TV (Wt.yes rfl rfl rfl hk32) rfl rfl (Val.move rfl) ?_
   refine TV (Wt.yes rfl rfl rfl hk32) rfl rfl (Val.cmp rfl rfl run_leq) ?_
   refine TV (Wt.yes rfl rfl rfl rfl) rfl rfl (Val.pickY rfl hk32 rfl) ?_
   refine TV rfl rfl rfl (Val.pickN rfl rfl rfl) ?_
   refine TV rfl rfl rfl (Val.move rfl) ?_
   refine TK.split (p:=a0 ≤ 90) h (fun hg33 h=>?_) (fun hg33 h=>?_)
   ·
    have hk34:decide (a0 ≤ 90)=true:=decide_eq_true hg33
    refine TL.cons (TL.not (Wt.no rfl rfl rfl hk34) rfl ?_)
    refine TL.cons (TL.not (Wt.no rfl rfl rfl hk34) rfl ?_)
    refine TV rfl rfl rfl (Val.pickY rfl hk34 rfl) ?_
    refine TV rfl rfl rfl (Val.assign rfl) ?_
    refine TL.nil ?_
    refine TQ.then_ ?_
    refine TC.ret ?_
    obtain rfl:=Option.some.inj h
    exact TQ.fin (.inl rfl) rfl Try.results57 (.tmp rfl .nil) rfl (FRel.mk (Ls:=[]) [] 0 (Gd.le.refl _) rfl rfl rfl ⟨rfl,rfl,rfl⟩)
   ·
    have hk35:decide (a0 ≤ 90)=false:=decide_eq_false hg33
    refine TV (Wt.yes rfl rfl rfl hk35) rfl rfl (Val.move rfl) ?_
    refine TV (Wt.yes rfl rfl rfl hk35) rfl rfl (Val.cmp rfl rfl run_eql) ?_
    refine TV rfl rfl rfl (Val.pickN rfl hk35 rfl) ?_
    refine TV rfl rfl rfl (Val.assign rfl) ?_
    refine TL.nil ?_
    refine TQ.then_ ?_
    refine TC.ret ?_
    obtain rfl:=Option.some.inj h
    exact TQ.fin (.inl rfl) rfl Try.results57 (.tmp rfl .nil) rfl (FRel.mk (Ls:=[]) [] 0 (Gd.le.refl _) rfl rfl rfl ⟨rfl,rfl,rfl⟩)
  ·
   have hk36:decide (65 ≤ a0)=false:=decide_eq_false hg31
   refine TL.cons (TL.not (Wt.no rfl rfl rfl hk36) rfl ?_)
   refine TL.cons (TL.not (Wt.no rfl rfl rfl hk36) rfl ?_)
   refine TV (Wt.yes rfl rfl rfl rfl) rfl rfl (Val.pickN rfl hk36 rfl) ?_
   refine TV rfl rfl rfl (Val.pickN rfl rfl rfl) ?_
   refine TV rfl rfl rfl (Val.move rfl) ?_
   refine TV (Wt.yes rfl rfl rfl rfl) rfl rfl (Val.move rfl) ?_
   refine TV (Wt.yes rfl rfl rfl rfl) rfl rfl (Val.cmp rfl rfl run_eql) ?_
   refine TV rfl rfl rfl (Val.pickN rfl rfl rfl) ?_
   refine TV rfl rfl rfl (Val.assign rfl) ?_
   refine TL.nil ?_
   refine TQ.then_ ?_
   refine TC.ret ?_
   obtain rfl:=Option.some.inj h
   exact TQ.fin (.inl rfl) rfl Try.results57 (.tmp rfl .nil) rfl (FRel.mk (Ls:=[]) [] 0 (Gd.le.refl _) rfl rfl rfl ⟨rfl,rfl,rfl⟩)
def token_digit.f (a0:Int):Option Bool:=(if 48 ≤ a0 then some (decide (a0 ≤ 57)) else some false)
def token_digit.post (G:Gd)  (r:Bool) (v:Value) (G':Gd) (Lr:List Ch):Prop:=G=G'∧v=.bool r∧Lr=[]
theorem token_digit.calls {G:Gd} {r:Bool} {a0:Int} (h:token_digit.f a0=some r):Fn Try.prog 59 G [] [.int .u8 a0] (token_digit.post G  r):=by
 refine Fn.intro (e:=[(0,.int .u8 a0)]) 9 Try.func59 rfl Try.ntmps59 rfl rfl (Nat.le_of_ble_eq_true rfl) (fun L=>?_)
 unfold token_digit.f at h
 refine TC.seq ?_
 refine TC.region ?_
 refine TV rfl rfl rfl (Val.assign rfl) ?_
 refine TL.nil ?_
 refine TQ.then_ ?_
 refine TC.seq ?_
 refine TC.region ?_
 refine TV rfl rfl rfl (Val.move rfl) ?_
 refine TV rfl rfl rfl (Val.cmp rfl rfl run_geq) ?_
 refine TV rfl rfl rfl (Val.move rfl) ?_
 refine TK.split (p:=48 ≤ a0) h (fun hg4 h=>?_) (fun hg4 h=>?_)
 ·
  have hk5:decide (48 ≤ a0)=true:=decide_eq_true hg4
  refine TV (Wt.yes rfl rfl rfl hk5) rfl rfl (Val.move rfl) ?_
  refine TV (Wt.yes rfl rfl rfl hk5) rfl rfl (Val.cmp rfl rfl run_leq) ?_
  refine TV rfl rfl rfl (Val.pickY rfl hk5 rfl) ?_
  refine TV rfl rfl rfl (Val.assign rfl) ?_
  refine TL.nil ?_
  refine TQ.then_ ?_
  refine TC.ret ?_
  obtain rfl:=Option.some.inj h
  exact TQ.fin (.inl rfl) rfl Try.results59 (.tmp rfl .nil) rfl (FRel.mk (Ls:=[]) [] 0 (Gd.le.refl _) rfl rfl rfl ⟨rfl,rfl,rfl⟩)
 ·
  have hk6:decide (48 ≤ a0)=false:=decide_eq_false hg4
  refine TL.cons (TL.not (Wt.no rfl rfl rfl hk6) rfl ?_)
  refine TL.cons (TL.not (Wt.no rfl rfl rfl hk6) rfl ?_)
  refine TV rfl rfl rfl (Val.pickN rfl hk6 rfl) ?_
  refine TV rfl rfl rfl (Val.assign rfl) ?_
  refine TL.nil ?_
  refine TQ.then_ ?_
  refine TC.ret ?_
  obtain rfl:=Option.some.inj h
  exact TQ.fin (.inl rfl) rfl Try.results59 (.tmp rfl .nil) rfl (FRel.mk (Ls:=[]) [] 0 (Gd.le.refl _) rfl rfl rfl ⟨rfl,rfl,rfl⟩)
def token_word.f (a0:Int):Option Bool:=(token_letter.f a0).bind fun (y8:Bool)=>(if y8=true then some true else (token_digit.f a0).bind fun (y13:Bool)=>some y13)
def token_word.post (G:Gd)  (r:Bool) (v:Value) (G':Gd) (Lr:List Ch):Prop:=G=G'∧v=.bool r∧Lr=[]
theorem token_word.calls {G:Gd} {r:Bool} {a0:Int} (h:token_word.f a0=some r):Fn Try.prog 58 G [] [.int .u8 a0] (token_word.post G  r):=by
 refine Fn.intro (e:=[(0,.int .u8 a0)]) 9 Try.func58 rfl Try.ntmps58 rfl rfl (Nat.le_of_ble_eq_true rfl) (fun L=>?_)
 unfold token_word.f at h
 refine TC.seq ?_
 refine TC.region ?_
 refine TV rfl rfl rfl (Val.assign rfl) ?_
 refine TL.nil ?_
 refine TQ.then_ ?_
 refine TC.seq ?_
 refine TC.region ?_
 refine TV rfl rfl rfl (Val.move rfl) ?_
 obtain ⟨y8,hy9,h⟩:=bind_no h
 refine TL.cons (TL.callV (Lin:=[]) (args:=[.int .u8 a0]) rfl rfl rfl hbd57 rfl rfl (token_letter.calls (a0:=a0) hy9) rfl ?_)
 rintro _ _ _ _ ⟨rfl,rfl,rfl⟩
 refine TV rfl rfl rfl (Val.move rfl) ?_
 refine TK.split (p:=y8=true) h (fun hg10 h=>?_) (fun hg10 h=>?_)
 ·
  have hk11:y8=true:=hg10
  refine TL.cons (TL.not (Wt.no rfl rfl rfl hk11) rfl ?_)
  refine TL.cons (TL.not (Wt.no rfl rfl rfl hk11) rfl ?_)
  refine TV rfl rfl rfl (Val.pickY rfl hk11 rfl) ?_
  refine TV rfl rfl rfl (Val.assign rfl) ?_
  refine TL.nil ?_
  refine TQ.then_ ?_
  refine TC.ret ?_
  obtain rfl:=Option.some.inj h
  exact TQ.fin (.inl rfl) rfl Try.results58 (.tmp rfl .nil) rfl (FRel.mk (Ls:=[]) [] 0 (Gd.le.refl _) rfl rfl rfl ⟨rfl,rfl,rfl⟩)
 ·
  have hk12:y8=false:=(by simpa using hg10)
  refine TV (Wt.yes rfl rfl rfl hk12) rfl rfl (Val.move rfl) ?_
  obtain ⟨y13,hy14,h⟩:=bind_no h
  refine TL.cons (TL.callV (Lin:=[]) (args:=[.int .u8 a0]) (Wt.yes rfl rfl rfl hk12) rfl rfl hbd59 rfl rfl (token_digit.calls (a0:=a0) hy14) rfl ?_)
  rintro _ _ _ _ ⟨rfl,rfl,rfl⟩
  refine TV rfl rfl rfl (Val.pickN rfl hk12 rfl) ?_
  refine TV rfl rfl rfl (Val.assign rfl) ?_
  refine TL.nil ?_
  refine TQ.then_ ?_
  refine TC.ret ?_
  obtain rfl:=Option.some.inj h
  exact TQ.fin (.inl rfl) rfl Try.results58 (.tmp rfl .nil) rfl (FRel.mk (Ls:=[]) [] 0 (Gd.le.refl _) rfl rfl rfl ⟨rfl,rfl,rfl⟩)
def token_Number.l0 (a0:ByteArray):Nat → Int → Int → Option (Sum (Int × Bool) (Int))
 | 0,_,_=>none
 | n133 + 1,x91,x92=>(if x92 < (a0.size:Int) then (byte? a0 x92).bind fun (y192:Int)=>jn (γ:=(Sum (Int × Bool) (Int))) (fun (x200:Bool)=>(if x200=true then some (.inl (0,false)) else token_Number.l0 a0 n133 (IntKind.i64.wrap ((IntKind.i64.wrap (10 * x91)) + (IntKind.i64.wrap ((IntKind.i64.wrap y192) - 48)))) (IntKind.i64.wrap (x92 + 1)))) (fun (j201:(Bool → Option (Sum (Int × Bool) (Int))))=>(token_digit.f y192).bind fun (y204:Bool)=>(if (!y204)=true then j201 true else (if ¬ (10:Int)=0 then j201 (decide ((IntKind.i64.wrap ((IntKind.i64.wrap (9223372036854775807 - (IntKind.i64.wrap ((IntKind.i64.wrap y192) - 48)))).tdiv 10)) < x91)) else none))) else some (.inr x91))
def token_Number.f (a0:ByteArray):Option (Int × Bool):=jn (γ:=(Int × Bool)) (fun (x9:Bool)=>(if x9=true then some (0,false) else (token_Number.l0 a0 (a0.size + 1) 0 0).bind fun | .inl q_=>some q_ | .inr x131=>(some (x131,true)))) (fun (j10:(Bool → Option (Int × Bool)))=>(if (a0.data.toList == (⟨#[]⟩:ByteArray).data.toList)=true then j10 true else (if 1 < (a0.size:Int) then (byte? a0 0).bind fun (y215:Int)=>j10 (decide (y215=48)) else j10 false)))
def token_Number.post (G:Gd)  (r:(Int × Bool)) (v:Value) (G':Gd) (Lr:List Ch):Prop:=G=G'∧v=.tuple #[VI r.1,.bool r.2]∧Lr=[]
theorem token_Number.calls {G:Gd} {r:(Int × Bool)} {a0:ByteArray} (h:token_Number.f a0=some r):Fn Try.prog 60 G [] [.string a0] (token_Number.post G  r):=by
 refine Fn.intro (e:=[(0,.string a0)]) 47 Try.func60 rfl Try.ntmps60 rfl rfl (Nat.le_of_ble_eq_true rfl) (fun L=>?_)
 unfold token_Number.f at h
 refine TC.seq ?_
 refine TC.region ?_
 refine TV rfl rfl rfl (Val.assign rfl) ?_
 refine TV rfl rfl rfl (Val.assign rfl) ?_
 refine TL.nil ?_
 refine TQ.then_ ?_
 refine TC.seq ?_
 refine TC.seq ?_
 obtain ⟨j10,hj10,h⟩:=jn_no h
 refine TC.tail (fun a W=>∃ (x9:Bool),j10 x9=some r∧Fr 47 a [(0,.string a0),(18,.bool x9)]∧Own G (L) W) ?_ ?_
 ·
  rintro a W ⟨x9,h,hF,hO⟩
  rw [hj10] at h
  refine TQ.use ?_ hF hO
  clear hF hO
  refine TQ.then_ ?_
  refine TC.cond_b rfl h (fun hc12 h=>?_) (fun hc12 h=>?_)
  ·
   refine TC.seq ?_
   refine TC.region ?_
   refine TV rfl rfl rfl (Val.assign rfl) ?_
   refine TV rfl rfl rfl (Val.assign rfl) ?_
   refine TL.nil ?_
   refine TQ.then_ ?_
   refine TC.ret ?_
   refine TQ.thenR ?_
   obtain rfl:=Option.some.inj h
   exact TQ.fin (.inl rfl) rfl Try.results60 (.tmp rfl (.tmp rfl .nil)) rfl (FRel.mk (Ls:=[]) [] 0 (Gd.le.refl _) rfl rfl rfl ⟨rfl,rfl,rfl⟩)
  ·
   refine TC.skip ?_
   refine TQ.then_ ?_
   refine TC.seq ?_
   refine TC.region ?_
   refine TV rfl rfl rfl (Val.assign rfl) ?_
   refine TL.nil ?_
   refine TQ.then_ ?_
   refine TC.seq ?_
   refine TC.seq ?_
   refine TC.region ?_
   refine TV rfl rfl rfl (Val.move rfl) ?_
   refine TV rfl rfl rfl (Val.lenS Try.underlying9 rfl) ?_
   refine TV rfl rfl rfl (Val.move rfl) ?_
   refine TL.nil ?_
   refine TQ.then_ ?_
   obtain ⟨o132,ho132,ko132⟩:=bind_no h
   clear h
   refine TC.tail (fun a W=>∃ (x131:Int),(.inr x131)=o132∧Fr 47 a [(4,VI x131)]∧Own G (L) W) ?_ ?_
   ·
    rintro a W ⟨x131,rfl,hF,hO⟩
    have h:=ko132
    clear ko132 ho132
    refine TQ.use ?_ hF hO
    clear hF hO
    refine TQ.then_ ?_
    refine TC.seq ?_
    refine TC.region ?_
    refine TV rfl rfl rfl (Val.move rfl) ?_
    refine TV rfl rfl rfl (Val.assign rfl) ?_
    refine TV rfl rfl rfl (Val.assign rfl) ?_
    refine TL.nil ?_
    refine TQ.then_ ?_
    refine TC.ret ?_
    obtain rfl:=Option.some.inj h
    exact TQ.fin (.inl rfl) rfl Try.results60 (.tmp rfl (.tmp rfl .nil)) rfl (FRel.mk (Ls:=[]) [] 0 (Gd.le.refl _) rfl rfl rfl ⟨rfl,rfl,rfl⟩)
   ·
    refine TC.block ?_
    intro a W hF hO
    have hS:∃ (x91:Int) (x92:Int),token_Number.l0 a0 (a0.size + 1) x91 x92=some o132∧Fr 47 a [(0,.string a0),(4,VI x91),(20,VI (a0.size:Int)),(21,VI x92)]∧Own G (L) W:=by
     exact ⟨0,0,ho132,hF.sub ⟨rfl,rfl,rfl,rfl,trivial⟩,hO.selT (Ls:=[]) [] 0 rfl rfl rfl⟩
    clear hF hO ho132
    refine TC.loop (fun n133 a W=>∃ (x91:Int) (x92:Int),token_Number.l0 a0 n133 x91 x92=some o132∧Fr 47 a [(0,.string a0),(4,VI x91),(20,VI (a0.size:Int)),(21,VI x92)]∧Own G (L) W) ?_ ?_ hS
    ·
     rintro a W ⟨x91,x92,h,hF,hO⟩
     exact none_no h
    ·
     clear hS
     rintro n133 a W ⟨x91,x92,h,hF,hO⟩
     rw [token_Number.l0] at h
     refine TC.use ?_ hF hO
     clear hF hO
     refine TC.seq ?_
     refine TC.region ?_
     refine TV rfl rfl rfl (Val.cmp rfl rfl run_lss) ?_
     refine TL.nil ?_
     refine TQ.then_ ?_
     refine TC.seq ?_
     refine TC.cond_p rfl h (fun hc173 h=>?_) (fun hc173 h=>?_)
     ·
      refine TC.skip ?_
      refine TQ.then_ ?_
      refine TC.seq ?_
      refine TC.block ?_
      refine TC.seq ?_
      refine TC.region ?_
      refine TV rfl rfl rfl (Val.move rfl) ?_
      refine TV rfl rfl rfl (Val.assign rfl) ?_
      refine TL.nil ?_
      refine TQ.then_ ?_
      refine TC.seq ?_
      refine TC.region ?_
      refine TV rfl rfl rfl (Val.move rfl) ?_
      refine TV rfl rfl rfl (Val.move rfl) ?_
      obtain ⟨y192,hy193,h⟩:=bind_no h
      refine TV rfl rfl rfl (Val.indexS Try.underlying9 rfl rfl hy193) ?_
      refine TV rfl rfl rfl (Val.convI Try.underlying5 Try.underlying3 rfl) ?_
      refine TV rfl rfl rfl (Val.cmp rfl rfl run_sub) ?_
      refine TV rfl rfl rfl (Val.assign rfl) ?_
      refine TL.nil ?_
      refine TQ.then_ ?_
      refine TC.seq ?_
      refine TC.seq ?_
      obtain ⟨j201,hj201,h⟩:=jn_no h
      refine TC.tail (fun a W=>∃ (x200:Bool),j201 x200=some o132∧Fr 47 a [(0,.string a0),(4,VI x91),(6,VI (IntKind.i64.wrap ((IntKind.i64.wrap y192) - 48))),(20,VI (a0.size:Int)),(21,VI x92),(40,.bool x200)]∧Own G (L) W) ?_ ?_
      ·
       rintro a W ⟨x200,h,hF,hO⟩
       rw [hj201] at h
       refine TQ.use ?_ hF hO
       clear hF hO
       refine TQ.then_ ?_
       refine TC.cond_b rfl h (fun hc203 h=>?_) (fun hc203 h=>?_)
       ·
        refine TC.seq ?_
        refine TC.region ?_
        refine TV rfl rfl rfl (Val.assign rfl) ?_
        refine TV rfl rfl rfl (Val.assign rfl) ?_
        refine TL.nil ?_
        refine TQ.then_ ?_
        refine TC.ret ?_
        refine TQ.thenR ?_
        refine TQ.inBR ?_
        refine TQ.thenR ?_
        refine TQ.thenR ?_
        refine TQ.inBR ?_
        refine TQ.thenR ?_
        refine TQ.thenR ?_
        obtain rfl:=Option.some.inj h
        have h:=ko132
        obtain rfl:=Option.some.inj h
        exact TQ.fin (.inl rfl) rfl Try.results60 (.tmp rfl (.tmp rfl .nil)) rfl (FRel.mk (Ls:=[]) [] 0 (Gd.le.refl _) rfl rfl rfl ⟨rfl,rfl,rfl⟩)
       ·
        refine TC.skip ?_
        refine TQ.then_ ?_
        refine TC.region ?_
        refine TV rfl rfl rfl (Val.move rfl) ?_
        refine TV rfl rfl rfl (Val.cmp rfl rfl run_mul) ?_
        refine TV rfl rfl rfl (Val.move rfl) ?_
        refine TV rfl rfl rfl (Val.cmp rfl rfl run_add) ?_
        refine TV rfl rfl rfl (Val.assign rfl) ?_
        refine TL.nil ?_
        refine TQ.inB ?_
        refine TQ.then_ ?_
        refine TC.region ?_
        refine TV rfl rfl rfl (Val.cmp rfl rfl run_add) ?_
        refine TV rfl rfl rfl (Val.move rfl) ?_
        refine TL.nil ?_
        exact fun a W hF hO=>⟨IntKind.i64.wrap ((IntKind.i64.wrap (10 * x91)) + (IntKind.i64.wrap ((IntKind.i64.wrap y192) - 48))),IntKind.i64.wrap (x92 + 1),h,hF.sub ⟨rfl,rfl,rfl,rfl,trivial⟩,hO.selT (Ls:=[]) [] 0 rfl rfl rfl⟩
      ·
       refine TC.region ?_
       refine TV rfl rfl rfl (Val.move rfl) ?_
       refine TV rfl rfl rfl (Val.move rfl) ?_
       refine TV rfl rfl rfl (Val.indexS Try.underlying9 rfl rfl hy193) ?_
       obtain ⟨y204,hy205,h⟩:=bind_no h
       refine TL.cons (TL.callV (Lin:=[]) (args:=[.int .u8 y192]) rfl rfl rfl hbd59 rfl rfl (token_digit.calls (a0:=y192) hy205) rfl ?_)
       rintro _ _ _ _ ⟨rfl,rfl,rfl⟩
       refine TV rfl rfl rfl (Val.not_ rfl) ?_
       refine TV rfl rfl rfl (Val.move rfl) ?_
       refine TK.split (p:=(!y204)=true) h (fun hg206 h=>?_) (fun hg206 h=>?_)
       ·
        have hk207:(!y204)=true:=hg206
        refine TL.cons (TL.not (Wt.no rfl rfl rfl hk207) rfl ?_)
        refine TL.cons (TL.not (Wt.no rfl rfl rfl hk207) rfl ?_)
        refine TL.cons (TL.not (Wt.no rfl rfl rfl hk207) rfl ?_)
        refine TL.cons (TL.not (Wt.no rfl rfl rfl hk207) rfl ?_)
        refine TL.cons (TL.not (Wt.no rfl rfl rfl hk207) rfl ?_)
        refine TV rfl rfl rfl (Val.pickY rfl hk207 rfl) ?_
        refine TL.nil ?_
        exact fun a W hF hO=>⟨true,h,hF.sub ⟨rfl,rfl,rfl,rfl,rfl,rfl,trivial⟩,hO.selT (Ls:=[]) [] 0 rfl rfl rfl⟩
       ·
        have hk208:(!y204)=false:=(by simpa using hg206)
        refine TV (Wt.yes rfl rfl rfl hk208) rfl rfl (Val.move rfl) ?_
        refine TV (Wt.yes rfl rfl rfl hk208) rfl rfl (Val.move rfl) ?_
        refine TV (Wt.yes rfl rfl rfl hk208) rfl rfl (Val.cmp rfl rfl run_sub) ?_
        obtain ⟨hz209,h⟩:=ite_no h
        refine TV (Wt.yes rfl rfl rfl hk208) rfl rfl (Val.cmp rfl rfl (run_quo hz209)) ?_
        refine TV (Wt.yes rfl rfl rfl hk208) rfl rfl (Val.cmp rfl rfl run_gtr) ?_
        refine TV rfl rfl rfl (Val.pickN rfl hk208 rfl) ?_
        refine TL.nil ?_
        exact fun a W hF hO=>⟨decide ((IntKind.i64.wrap ((IntKind.i64.wrap (9223372036854775807 - (IntKind.i64.wrap ((IntKind.i64.wrap y192) - 48)))).tdiv 10)) < x91),h,hF.sub ⟨rfl,rfl,rfl,rfl,rfl,rfl,trivial⟩,hO.selT (Ls:=[]) [] 0 rfl rfl rfl⟩
     ·
      refine TC.exit ?_
      refine TQ.thenX ?_
      refine TQ.thenX ?_
      refine TQ.inBX ?_
      exact fun a W hF hO=>⟨x91,Option.some.inj h,hF.sub ⟨rfl,trivial⟩,hO.selT (Ls:=[]) [] 0 rfl rfl rfl⟩
 ·
  refine TC.region ?_
  refine TV rfl rfl rfl (Val.move rfl) ?_
  refine TV rfl rfl rfl (Val.eqT rfl rfl) ?_
  refine TV rfl rfl rfl (Val.move rfl) ?_
  refine TK.split (p:=(a0.data.toList == (⟨#[]⟩:ByteArray).data.toList)=true) h (fun hg210 h=>?_) (fun hg210 h=>?_)
  ·
   have hk211:(a0.data.toList == (⟨#[]⟩:ByteArray).data.toList)=true:=hg210
   refine TL.cons (TL.not (Wt.no rfl rfl rfl hk211) rfl ?_)
   refine TL.cons (TL.not (Wt.no rfl rfl rfl hk211) rfl ?_)
   refine TL.cons (TL.not (Wt.no rfl rfl rfl hk211) rfl ?_)
   refine TL.cons (TL.not (Wt.no rfl rfl rfl hk211) rfl ?_)
   refine TL.cons (TL.not rfl rfl ?_)
   refine TL.cons (TL.not rfl rfl ?_)
   refine TL.cons (TL.not rfl rfl ?_)
   refine TL.cons (TL.not (Wt.no rfl rfl rfl hk211) rfl ?_)
   refine TV rfl rfl rfl (Val.pickY rfl hk211 rfl) ?_
   refine TL.nil ?_
   exact fun a W hF hO=>⟨true,h,hF.sub ⟨rfl,rfl,trivial⟩,hO.selT (Ls:=[]) [] 0 rfl rfl rfl⟩
  ·
   have hk212:(a0.data.toList == (⟨#[]⟩:ByteArray).data.toList)=false:=(by simpa using hg210)
   refine TV (Wt.yes rfl rfl rfl hk212) rfl rfl (Val.move rfl) ?_
   refine TV (Wt.yes rfl rfl rfl hk212) rfl rfl (Val.lenS Try.underlying9 rfl) ?_
   refine TV (Wt.yes rfl rfl rfl hk212) rfl rfl (Val.cmp rfl rfl run_gtr) ?_
   refine TV (Wt.yes rfl rfl rfl hk212) rfl rfl (Val.move rfl) ?_
   refine TK.split (p:=1 < (a0.size:Int)) h (fun hg213 h=>?_) (fun hg213 h=>?_)
   ·
    have hk214:decide (1 < (a0.size:Int))=true:=decide_eq_true hg213
    refine TV (Wt.yes rfl rfl rfl hk214) rfl rfl (Val.move rfl) ?_
    obtain ⟨y215,hy216,h⟩:=bind_no h
    refine TV (Wt.yes rfl rfl rfl hk214) rfl rfl (Val.indexS Try.underlying9 rfl rfl hy216) ?_
    refine TV (Wt.yes rfl rfl rfl hk214) rfl rfl (Val.cmp rfl rfl run_eql) ?_
    refine TV (Wt.yes rfl rfl rfl hk212) rfl rfl (Val.pickY rfl hk214 rfl) ?_
    refine TV rfl rfl rfl (Val.pickN rfl hk212 rfl) ?_
    refine TL.nil ?_
    exact fun a W hF hO=>⟨decide (y215=48),h,hF.sub ⟨rfl,rfl,trivial⟩,hO.selT (Ls:=[]) [] 0 rfl rfl rfl⟩
   ·
    have hk217:decide (1 < (a0.size:Int))=false:=decide_eq_false hg213
    refine TL.cons (TL.not (Wt.no rfl rfl rfl hk217) rfl ?_)
    refine TL.cons (TL.not (Wt.no rfl rfl rfl hk217) rfl ?_)
    refine TL.cons (TL.not (Wt.no rfl rfl rfl hk217) rfl ?_)
    refine TV (Wt.yes rfl rfl rfl hk212) rfl rfl (Val.pickN rfl hk217 rfl) ?_
    refine TV rfl rfl rfl (Val.pickN rfl hk212 rfl) ?_
    refine TL.nil ?_
    exact fun a W hF hO=>⟨false,h,hF.sub ⟨rfl,rfl,trivial⟩,hO.selT (Ls:=[]) [] 0 rfl rfl rfl⟩
def token_Sign.f (a0:ByteArray):Option Bool:=jn (γ:=Bool) (fun (x327:Bool)=>(if x327=true then some true else some false)) (fun (j328:(Bool → Option Bool))=>(if (a0.data.toList == (⟨#[61,61]⟩:ByteArray).data.toList)=true then j328 (a0.data.toList == (⟨#[61,61]⟩:ByteArray).data.toList) else (if (a0.data.toList == (⟨#[33,61]⟩:ByteArray).data.toList)=true then j328 (a0.data.toList == (⟨#[33,61]⟩:ByteArray).data.toList) else (if (a0.data.toList == (⟨#[60,61]⟩:ByteArray).data.toList)=true then j328 (a0.data.toList == (⟨#[60,61]⟩:ByteArray).data.toList) else (if (a0.data.toList == (⟨#[60,60]⟩:ByteArray).data.toList)=true then j328 (a0.data.toList == (⟨#[60,60]⟩:ByteArray).data.toList) else (if (a0.data.toList == (⟨#[62,62]⟩:ByteArray).data.toList)=true then j328 (a0.data.toList == (⟨#[62,62]⟩:ByteArray).data.toList) else (if (a0.data.toList == (⟨#[40]⟩:ByteArray).data.toList)=true then j328 (a0.data.toList == (⟨#[40]⟩:ByteArray).data.toList) else (if (a0.data.toList == (⟨#[41]⟩:ByteArray).data.toList)=true then j328 (a0.data.toList == (⟨#[41]⟩:ByteArray).data.toList) else (if (a0.data.toList == (⟨#[123]⟩:ByteArray).data.toList)=true then j328 (a0.data.toList == (⟨#[123]⟩:ByteArray).data.toList) else (if (a0.data.toList == (⟨#[125]⟩:ByteArray).data.toList)=true then j328 (a0.data.toList == (⟨#[125]⟩:ByteArray).data.toList) else (if (a0.data.toList == (⟨#[91]⟩:ByteArray).data.toList)=true then j328 (a0.data.toList == (⟨#[91]⟩:ByteArray).data.toList) else (if (a0.data.toList == (⟨#[93]⟩:ByteArray).data.toList)=true then j328 (a0.data.toList == (⟨#[93]⟩:ByteArray).data.toList) else (if (a0.data.toList == (⟨#[44]⟩:ByteArray).data.toList)=true then j328 (a0.data.toList == (⟨#[44]⟩:ByteArray).data.toList) else (if (a0.data.toList == (⟨#[59]⟩:ByteArray).data.toList)=true then j328 (a0.data.toList == (⟨#[59]⟩:ByteArray).data.toList) else (if (a0.data.toList == (⟨#[46]⟩:ByteArray).data.toList)=true then j328 (a0.data.toList == (⟨#[46]⟩:ByteArray).data.toList) else (if (a0.data.toList == (⟨#[61]⟩:ByteArray).data.toList)=true then j328 (a0.data.toList == (⟨#[61]⟩:ByteArray).data.toList) else (if (a0.data.toList == (⟨#[43]⟩:ByteArray).data.toList)=true then j328 (a0.data.toList == (⟨#[43]⟩:ByteArray).data.toList) else (if (a0.data.toList == (⟨#[45]⟩:ByteArray).data.toList)=true then j328 (a0.data.toList == (⟨#[45]⟩:ByteArray).data.toList) else (if (a0.data.toList == (⟨#[42]⟩:ByteArray).data.toList)=true then j328 (a0.data.toList == (⟨#[42]⟩:ByteArray).data.toList) else (if (a0.data.toList == (⟨#[47]⟩:ByteArray).data.toList)=true then j328 (a0.data.toList == (⟨#[47]⟩:ByteArray).data.toList) else (if (a0.data.toList == (⟨#[37]⟩:ByteArray).data.toList)=true then j328 (a0.data.toList == (⟨#[37]⟩:ByteArray).data.toList) else (if (a0.data.toList == (⟨#[38]⟩:ByteArray).data.toList)=true then j328 (a0.data.toList == (⟨#[38]⟩:ByteArray).data.toList) else (if (a0.data.toList == (⟨#[124]⟩:ByteArray).data.toList)=true then j328 (a0.data.toList == (⟨#[124]⟩:ByteArray).data.toList) else (if (a0.data.toList == (⟨#[94]⟩:ByteArray).data.toList)=true then j328 (a0.data.toList == (⟨#[94]⟩:ByteArray).data.toList) else j328 (a0.data.toList == (⟨#[60]⟩:ByteArray).data.toList)))))))))))))))))))))))))
def token_Sign.post (G:Gd)  (r:Bool) (v:Value) (G':Gd) (Lr:List Ch):Prop:=G=G'∧v=.bool r∧Lr=[]
theorem token_Sign.calls {G:Gd} {r:Bool} {a0:ByteArray} (h:token_Sign.f a0=some r):Fn Try.prog 61 G [] [.string a0] (token_Sign.post G  r):=by
 refine Fn.intro (e:=[(0,.string a0)]) 29 Try.func61 rfl Try.ntmps61 rfl rfl (Nat.le_of_ble_eq_true rfl) (fun L=>?_)
 unfold token_Sign.f at h
 refine TC.seq ?_
 refine TC.region ?_
 refine TV rfl rfl rfl (Val.assign rfl) ?_
 refine TL.nil ?_
 refine TQ.then_ ?_
 refine TC.seq ?_
 refine TC.seq ?_
 refine TC.region ?_
 refine TV rfl rfl rfl (Val.move rfl) ?_
 refine TL.nil ?_
 refine TQ.then_ ?_
 refine TC.block ?_
 refine TC.seq ?_
 refine TC.seq ?_
 refine TC.region ?_
 refine TV rfl rfl rfl (Val.eqT rfl rfl) ?_
 refine TV rfl rfl rfl (Val.assign rfl) ?_
 refine TL.nil ?_
 refine TQ.then_ ?_
 obtain ⟨j328,hj328,h⟩:=jn_no h
 refine TC.tail (fun a W=>∃ (x327:Bool),j328 x327=some r∧Fr 29 a [(4,.bool x327)]∧Own G (L) W) ?_ ?_
 ·
  rintro a W ⟨x327,h,hF,hO⟩
  rw [hj328] at h
  refine TQ.use ?_ hF hO
  clear hF hO
  refine TQ.then_ ?_
  refine TC.cond_b rfl h (fun hc330 h=>?_) (fun hc330 h=>?_)
  ·
   refine TC.seq ?_
   refine TC.region ?_
   refine TV rfl rfl rfl (Val.assign rfl) ?_
   refine TL.nil ?_
   refine TQ.then_ ?_
   refine TC.ret ?_
   refine TQ.inBR ?_
   refine TQ.thenR ?_
   obtain rfl:=Option.some.inj h
   exact TQ.fin (.inl rfl) rfl Try.results61 (.tmp rfl .nil) rfl (FRel.mk (Ls:=[]) [] 0 (Gd.le.refl _) rfl rfl rfl ⟨rfl,rfl,rfl⟩)
  ·
   refine TC.skip ?_
   refine TQ.inB ?_
   refine TQ.then_ ?_
   refine TC.seq ?_
   refine TC.region ?_
   refine TV rfl rfl rfl (Val.assign rfl) ?_
   refine TL.nil ?_
   refine TQ.then_ ?_
   refine TC.ret ?_
   obtain rfl:=Option.some.inj h
   exact TQ.fin (.inl rfl) rfl Try.results61 (.tmp rfl .nil) rfl (FRel.mk (Ls:=[]) [] 0 (Gd.le.refl _) rfl rfl rfl ⟨rfl,rfl,rfl⟩)
 ·
  refine TC.cond_b rfl h (fun hc331 h=>?_) (fun hc331 h=>?_)
  ·
   refine TC.skip ?_
   exact fun a W hF hO=>⟨(a0.data.toList == (⟨#[61,61]⟩:ByteArray).data.toList),h,hF.sub ⟨rfl,trivial⟩,hO.selT (Ls:=[]) [] 0 rfl rfl rfl⟩
  ·
   refine TC.seq ?_
   refine TC.region ?_
   refine TV rfl rfl rfl (Val.eqT rfl rfl) ?_
   refine TV rfl rfl rfl (Val.assign rfl) ?_
   refine TL.nil ?_
   refine TQ.then_ ?_
   refine TC.cond_b rfl h (fun hc354 h=>?_) (fun hc354 h=>?_)
   ·
    refine TC.skip ?_
    exact fun a W hF hO=>⟨(a0.data.toList == (⟨#[33,61]⟩:ByteArray).data.toList),h,hF.sub ⟨rfl,trivial⟩,hO.selT (Ls:=[]) [] 0 rfl rfl rfl⟩
   ·
    refine TC.seq ?_
    refine TC.region ?_
    refine TV rfl rfl rfl (Val.eqT rfl rfl) ?_
    refine TV rfl rfl rfl (Val.assign rfl) ?_
    refine TL.nil ?_
    refine TQ.then_ ?_
    refine TC.cond_b rfl h (fun hc376 h=>?_) (fun hc376 h=>?_)
    ·
     refine TC.skip ?_
     exact fun a W hF hO=>⟨(a0.data.toList == (⟨#[60,61]⟩:ByteArray).data.toList),h,hF.sub ⟨rfl,trivial⟩,hO.selT (Ls:=[]) [] 0 rfl rfl rfl⟩
    ·
     refine TC.seq ?_
     refine TC.region ?_
     refine TV rfl rfl rfl (Val.eqT rfl rfl) ?_
     refine TV rfl rfl rfl (Val.assign rfl) ?_
     refine TL.nil ?_
     refine TQ.then_ ?_
     refine TC.cond_b rfl h (fun hc397 h=>?_) (fun hc397 h=>?_)
     ·
      refine TC.skip ?_
      exact fun a W hF hO=>⟨(a0.data.toList == (⟨#[60,60]⟩:ByteArray).data.toList),h,hF.sub ⟨rfl,trivial⟩,hO.selT (Ls:=[]) [] 0 rfl rfl rfl⟩
     ·
      refine TC.seq ?_
      refine TC.region ?_
      refine TV rfl rfl rfl (Val.eqT rfl rfl) ?_
      refine TV rfl rfl rfl (Val.assign rfl) ?_
      refine TL.nil ?_
      refine TQ.then_ ?_
      refine TC.cond_b rfl h (fun hc417 h=>?_) (fun hc417 h=>?_)
      ·
       refine TC.skip ?_
       exact fun a W hF hO=>⟨(a0.data.toList == (⟨#[62,62]⟩:ByteArray).data.toList),h,hF.sub ⟨rfl,trivial⟩,hO.selT (Ls:=[]) [] 0 rfl rfl rfl⟩
      ·
       refine TC.seq ?_
       refine TC.region ?_
       refine TV rfl rfl rfl (Val.eqT rfl rfl) ?_
       refine TV rfl rfl rfl (Val.assign rfl) ?_
       refine TL.nil ?_
       refine TQ.then_ ?_
       refine TC.cond_b rfl h (fun hc436 h=>?_) (fun hc436 h=>?_)
       ·
        refine TC.skip ?_
        exact fun a W hF hO=>⟨(a0.data.toList == (⟨#[40]⟩:ByteArray).data.toList),h,hF.sub ⟨rfl,trivial⟩,hO.selT (Ls:=[]) [] 0 rfl rfl rfl⟩
       ·
        refine TC.seq ?_
        refine TC.region ?_
        refine TV rfl rfl rfl (Val.eqT rfl rfl) ?_
        refine TV rfl rfl rfl (Val.assign rfl) ?_
        refine TL.nil ?_
        refine TQ.then_ ?_
        refine TC.cond_b rfl h (fun hc454 h=>?_) (fun hc454 h=>?_)
        ·
         refine TC.skip ?_
         exact fun a W hF hO=>⟨(a0.data.toList == (⟨#[41]⟩:ByteArray).data.toList),h,hF.sub ⟨rfl,trivial⟩,hO.selT (Ls:=[]) [] 0 rfl rfl rfl⟩
        ·
         refine TC.seq ?_
         refine TC.region ?_
         refine TV rfl rfl rfl (Val.eqT rfl rfl) ?_
         refine TV rfl rfl rfl (Val.assign rfl) ?_
         refine TL.nil ?_
         refine TQ.then_ ?_
         refine TC.cond_b rfl h (fun hc471 h=>?_) (fun hc471 h=>?_)
         ·
          refine TC.skip ?_
          exact fun a W hF hO=>⟨(a0.data.toList == (⟨#[123]⟩:ByteArray).data.toList),h,hF.sub ⟨rfl,trivial⟩,hO.selT (Ls:=[]) [] 0 rfl rfl rfl⟩
         ·
          refine TC.seq ?_
          refine TC.region ?_
          refine TV rfl rfl rfl (Val.eqT rfl rfl) ?_
          refine TV rfl rfl rfl (Val.assign rfl) ?_
          refine TL.nil ?_
          refine TQ.then_ ?_
          refine TC.cond_b rfl h (fun hc487 h=>?_) (fun hc487 h=>?_)
          ·
           refine TC.skip ?_
           exact fun a W hF hO=>⟨(a0.data.toList == (⟨#[125]⟩:ByteArray).data.toList),h,hF.sub ⟨rfl,trivial⟩,hO.selT (Ls:=[]) [] 0 rfl rfl rfl⟩
          ·
           refine TC.seq ?_
           refine TC.region ?_
           refine TV rfl rfl rfl (Val.eqT rfl rfl) ?_
           refine TV rfl rfl rfl (Val.assign rfl) ?_
           refine TL.nil ?_
           refine TQ.then_ ?_
           refine TC.cond_b rfl h (fun hc502 h=>?_) (fun hc502 h=>?_)
           ·
            refine TC.skip ?_
            exact fun a W hF hO=>⟨(a0.data.toList == (⟨#[91]⟩:ByteArray).data.toList),h,hF.sub ⟨rfl,trivial⟩,hO.selT (Ls:=[]) [] 0 rfl rfl rfl⟩
           ·
            refine TC.seq ?_
            refine TC.region ?_
            refine TV rfl rfl rfl (Val.eqT rfl rfl) ?_
            refine TV rfl rfl rfl (Val.assign rfl) ?_
            refine TL.nil ?_
            refine TQ.then_ ?_
            refine TC.cond_b rfl h (fun hc516 h=>?_) (fun hc516 h=>?_)
            ·
             refine TC.skip ?_
             exact fun a W hF hO=>⟨(a0.data.toList == (⟨#[93]⟩:ByteArray).data.toList),h,hF.sub ⟨rfl,trivial⟩,hO.selT (Ls:=[]) [] 0 rfl rfl rfl⟩
            ·
             refine TC.seq ?_
             refine TC.region ?_
             refine TV rfl rfl rfl (Val.eqT rfl rfl) ?_
             refine TV rfl rfl rfl (Val.assign rfl) ?_
             refine TL.nil ?_
             refine TQ.then_ ?_
             refine TC.cond_b rfl h (fun hc529 h=>?_) (fun hc529 h=>?_)
             ·
              refine TC.skip ?_
              exact fun a W hF hO=>⟨(a0.data.toList == (⟨#[44]⟩:ByteArray).data.toList),h,hF.sub ⟨rfl,trivial⟩,hO.selT (Ls:=[]) [] 0 rfl rfl rfl⟩
             ·
              refine TC.seq ?_
              refine TC.region ?_
              refine TV rfl rfl rfl (Val.eqT rfl rfl) ?_
              refine TV rfl rfl rfl (Val.assign rfl) ?_
              refine TL.nil ?_
              refine TQ.then_ ?_
              refine TC.cond_b rfl h (fun hc541 h=>?_) (fun hc541 h=>?_)
              ·
               refine TC.skip ?_
               exact fun a W hF hO=>⟨(a0.data.toList == (⟨#[59]⟩:ByteArray).data.toList),h,hF.sub ⟨rfl,trivial⟩,hO.selT (Ls:=[]) [] 0 rfl rfl rfl⟩
              ·
               refine TC.seq ?_
               refine TC.region ?_
               refine TV rfl rfl rfl (Val.eqT rfl rfl) ?_
               refine TV rfl rfl rfl (Val.assign rfl) ?_
               refine TL.nil ?_
               refine TQ.then_ ?_
               refine TC.cond_b rfl h (fun hc552 h=>?_) (fun hc552 h=>?_)
               ·
                refine TC.skip ?_
                exact fun a W hF hO=>⟨(a0.data.toList == (⟨#[46]⟩:ByteArray).data.toList),h,hF.sub ⟨rfl,trivial⟩,hO.selT (Ls:=[]) [] 0 rfl rfl rfl⟩
               ·
                refine TC.seq ?_
                refine TC.region ?_
                refine TV rfl rfl rfl (Val.eqT rfl rfl) ?_
                refine TV rfl rfl rfl (Val.assign rfl) ?_
                refine TL.nil ?_
                refine TQ.then_ ?_
                refine TC.cond_b rfl h (fun hc562 h=>?_) (fun hc562 h=>?_)
                ·
                 refine TC.skip ?_
                 exact fun a W hF hO=>⟨(a0.data.toList == (⟨#[61]⟩:ByteArray).data.toList),h,hF.sub ⟨rfl,trivial⟩,hO.selT (Ls:=[]) [] 0 rfl rfl rfl⟩
                ·
                 refine TC.seq ?_
                 refine TC.region ?_
                 refine TV rfl rfl rfl (Val.eqT rfl rfl) ?_
                 refine TV rfl rfl rfl (Val.assign rfl) ?_
                 refine TL.nil ?_
                 refine TQ.then_ ?_
                 refine TC.cond_b rfl h (fun hc571 h=>?_) (fun hc571 h=>?_)
                 ·
                  refine TC.skip ?_
                  exact fun a W hF hO=>⟨(a0.data.toList == (⟨#[43]⟩:ByteArray).data.toList),h,hF.sub ⟨rfl,trivial⟩,hO.selT (Ls:=[]) [] 0 rfl rfl rfl⟩
                 ·
                  refine TC.seq ?_
                  refine TC.region ?_
                  refine TV rfl rfl rfl (Val.eqT rfl rfl) ?_
                  refine TV rfl rfl rfl (Val.assign rfl) ?_
                  refine TL.nil ?_
                  refine TQ.then_ ?_
                  refine TC.cond_b rfl h (fun hc579 h=>?_) (fun hc579 h=>?_)
                  ·
                   refine TC.skip ?_
                   exact fun a W hF hO=>⟨(a0.data.toList == (⟨#[45]⟩:ByteArray).data.toList),h,hF.sub ⟨rfl,trivial⟩,hO.selT (Ls:=[]) [] 0 rfl rfl rfl⟩
                  ·
                   refine TC.seq ?_
                   refine TC.region ?_
                   refine TV rfl rfl rfl (Val.eqT rfl rfl) ?_
                   refine TV rfl rfl rfl (Val.assign rfl) ?_
                   refine TL.nil ?_
                   refine TQ.then_ ?_
                   refine TC.cond_b rfl h (fun hc586 h=>?_) (fun hc586 h=>?_)
                   ·
                    refine TC.skip ?_
                    exact fun a W hF hO=>⟨(a0.data.toList == (⟨#[42]⟩:ByteArray).data.toList),h,hF.sub ⟨rfl,trivial⟩,hO.selT (Ls:=[]) [] 0 rfl rfl rfl⟩
                   ·
                    refine TC.seq ?_
                    refine TC.region ?_
                    refine TV rfl rfl rfl (Val.eqT rfl rfl) ?_
                    refine TV rfl rfl rfl (Val.assign rfl) ?_
                    refine TL.nil ?_
                    refine TQ.then_ ?_
                    refine TC.cond_b rfl h (fun hc592 h=>?_) (fun hc592 h=>?_)
                    ·
                     refine TC.skip ?_
                     exact fun a W hF hO=>⟨(a0.data.toList == (⟨#[47]⟩:ByteArray).data.toList),h,hF.sub ⟨rfl,trivial⟩,hO.selT (Ls:=[]) [] 0 rfl rfl rfl⟩
                    ·
                     refine TC.seq ?_
                     refine TC.region ?_
                     refine TV rfl rfl rfl (Val.eqT rfl rfl) ?_
                     refine TV rfl rfl rfl (Val.assign rfl) ?_
                     refine TL.nil ?_
                     refine TQ.then_ ?_
                     refine TC.cond_b rfl h (fun hc597 h=>?_) (fun hc597 h=>?_)
                     ·
                      refine TC.skip ?_
                      exact fun a W hF hO=>⟨(a0.data.toList == (⟨#[37]⟩:ByteArray).data.toList),h,hF.sub ⟨rfl,trivial⟩,hO.selT (Ls:=[]) [] 0 rfl rfl rfl⟩
                     ·
                      refine TC.seq ?_
                      refine TC.region ?_
                      refine TV rfl rfl rfl (Val.eqT rfl rfl) ?_
                      refine TV rfl rfl rfl (Val.assign rfl) ?_
                      refine TL.nil ?_
                      refine TQ.then_ ?_
                      refine TC.cond_b rfl h (fun hc601 h=>?_) (fun hc601 h=>?_)
                      ·
                       refine TC.skip ?_
                       exact fun a W hF hO=>⟨(a0.data.toList == (⟨#[38]⟩:ByteArray).data.toList),h,hF.sub ⟨rfl,trivial⟩,hO.selT (Ls:=[]) [] 0 rfl rfl rfl⟩
                      ·
                       refine TC.seq ?_
                       refine TC.region ?_
                       refine TV rfl rfl rfl (Val.eqT rfl rfl) ?_
                       refine TV rfl rfl rfl (Val.assign rfl) ?_
                       refine TL.nil ?_
                       refine TQ.then_ ?_
                       refine TC.cond_b rfl h (fun hc604 h=>?_) (fun hc604 h=>?_)
                       ·
                        refine TC.skip ?_
                        exact fun a W hF hO=>⟨(a0.data.toList == (⟨#[124]⟩:ByteArray).data.toList),h,hF.sub ⟨rfl,trivial⟩,hO.selT (Ls:=[]) [] 0 rfl rfl rfl⟩
                       ·
                        refine TC.seq ?_
                        refine TC.region ?_
                        refine TV rfl rfl rfl (Val.eqT rfl rfl) ?_
                        refine TV rfl rfl rfl (Val.assign rfl) ?_
                        refine TL.nil ?_
                        refine TQ.then_ ?_
                        refine TC.cond_b rfl h (fun hc606 h=>?_) (fun hc606 h=>?_)
                        ·
                         refine TC.skip ?_
                         exact fun a W hF hO=>⟨(a0.data.toList == (⟨#[94]⟩:ByteArray).data.toList),h,hF.sub ⟨rfl,trivial⟩,hO.selT (Ls:=[]) [] 0 rfl rfl rfl⟩
                        ·
                         refine TC.region ?_
                         refine TV rfl rfl rfl (Val.eqT rfl rfl) ?_
                         refine TV rfl rfl rfl (Val.assign rfl) ?_
                         refine TL.nil ?_
                         exact fun a W hF hO=>⟨(a0.data.toList == (⟨#[60]⟩:ByteArray).data.toList),h,hF.sub ⟨rfl,trivial⟩,hO.selT (Ls:=[]) [] 0 rfl rfl rfl⟩
def token_cut.l0 (a0:ByteArray):Nat → Int → Option (Int)
 | 0,_=>none
 | n762 + 1,x741=>jn (γ:=(Int)) (fun (x788:Bool)=>(if x788=true then token_cut.l0 a0 n762 (IntKind.i64.wrap (x741 + 1)) else some x741)) (fun (j789:(Bool → Option (Int)))=>(if x741 < (a0.size:Int) then (byte? a0 x741).bind fun (y794:Int)=>(token_word.f y794).bind fun (y796:Bool)=>j789 y796 else j789 false))
def token_cut.l1 (a0:ByteArray):Nat → Int → Option (Int)
 | 0,_=>none
 | n1034 + 1,x1013=>jn (γ:=(Int)) (fun (x1088:Bool)=>(if x1088=true then token_cut.l1 a0 n1034 (IntKind.i64.wrap (x1013 + 1)) else some x1013)) (fun (j1089:(Bool → Option (Int)))=>(if x1013 < (a0.size:Int) then (byte? a0 x1013).bind fun (y1094:Int)=>(token_digit.f y1094).bind fun (y1096:Bool)=>j1089 y1096 else j1089 false))
def token_cut.l2 (a0:ByteArray) (a1:Int):Nat → Int → Option (Sum (Int × Int) (Unit))
 | 0,_=>none
 | n1214 + 1,x1174=>(if 0 < x1174 then jn (γ:=(Sum (Int × Int) (Unit))) (fun (x1280:Bool)=>(if x1280=true then some (.inl (IntKind.i64.wrap (a1 + x1174),3)) else token_cut.l2 a0 a1 n1214 (IntKind.i64.wrap (x1174 - 1)))) (fun (j1281:(Bool → Option (Sum (Int × Int) (Unit))))=>(if (IntKind.i64.wrap (a1 + x1174)) ≤ (a0.size:Int) then (cutS? a0 a1 (IntKind.i64.wrap (a1 + x1174))).bind fun (y1286:ByteArray)=>(token_Sign.f y1286).bind fun (y1288:Bool)=>j1281 y1288 else j1281 false)) else some (.inr ()))
def token_cut.f (a0:ByteArray) (a1:Int):Option (Int × Int):=(byte? a0 a1).bind fun (y1:Int)=>(token_letter.f y1).bind fun (y438:Bool)=>(if y438=true then (token_cut.l0 a0 (a0.size + 1) a1).bind fun (x760:Int)=>some (x760,1) else (token_digit.f y1).bind fun (y799:Bool)=>(if y799=true then (token_cut.l1 a0 (a0.size + 1) a1).bind fun (x1032:Int)=>(cutS? a0 a1 x1032).bind fun (y1053:ByteArray)=>(token_Number.f y1053).bind fun (y1055:(Int × Bool))=>jn (γ:=(Int × Int)) (fun (x1067:Bool)=>(if x1067=true then some (a1,0) else some (x1032,2))) (fun (j1068:(Bool → Option (Int × Int)))=>(if (!y1055.2)=true then j1068 true else (if x1032 < (a0.size:Int) then (byte? a0 x1032).bind fun (y1076:Int)=>(token_letter.f y1076).bind fun (y1078:Bool)=>j1068 y1078 else j1068 false))) else (token_cut.l2 a0 a1 (2 + 1) 2).bind fun | .inl q_=>some q_ | .inr _=>(some (a1,0))))
def token_cut.post (G:Gd)  (r:(Int × Int)) (v:Value) (G':Gd) (Lr:List Ch):Prop:=G=G'∧v=.tuple #[VI r.1,VI r.2]∧Lr=[]
theorem token_cut.calls {G:Gd} {r:(Int × Int)} {a0:ByteArray} {a1:Int} (h:token_cut.f a0 a1=some r):Fn Try.prog 42 G [] [.string a0,VI a1] (token_cut.post G  r):=by
 refine Fn.intro (e:=[(0,.string a0),(1,VI a1)]) 72 Try.func42 rfl Try.ntmps42 rfl rfl (Nat.le_of_ble_eq_true rfl) (fun L=>?_)
 unfold token_cut.f at h
 refine TC.seq ?_
 refine TC.region ?_
 refine TV rfl rfl rfl (Val.assign rfl) ?_
 refine TV rfl rfl rfl (Val.assign rfl) ?_
 refine TL.nil ?_
 refine TQ.then_ ?_
 refine TC.seq ?_
 refine TC.seq ?_
 refine TC.region ?_
 refine TV rfl rfl rfl (Val.move rfl) ?_
 refine TV rfl rfl rfl (Val.move rfl) ?_
 obtain ⟨y1,hy2,h⟩:=bind_no h
 refine TV rfl rfl rfl (Val.indexS Try.underlying9 rfl rfl hy2) ?_
 refine TV rfl rfl rfl (Val.assign rfl) ?_
 refine TL.nil ?_
 refine TQ.then_ ?_
 refine TC.block ?_
 refine TC.seq ?_
 refine TC.region ?_
 refine TV rfl rfl rfl (Val.move rfl) ?_
 obtain ⟨y438,hy439,h⟩:=bind_no h
 refine TL.cons (TL.callV (Lin:=[]) (args:=[.int .u8 y1]) rfl rfl rfl hbd57 rfl rfl (token_letter.calls (a0:=y1) hy439) rfl ?_)
 rintro _ _ _ _ ⟨rfl,rfl,rfl⟩
 refine TV rfl rfl rfl (Val.assign rfl) ?_
 refine TL.nil ?_
 refine TQ.then_ ?_
 refine TC.cond_b rfl h (fun hc644 h=>?_) (fun hc644 h=>?_)
 ·
  refine TC.seq ?_
  refine TC.region ?_
  refine TV rfl rfl rfl (Val.move rfl) ?_
  refine TV rfl rfl rfl (Val.move rfl) ?_
  refine TL.cons (TO.inl (args:=[.string a0,VI a1,.func (.func 58) #[] #[]]) (e':=[(0,.string a0),(1,VI a1),(2,.func (.func 58) #[] #[])]) 21 rfl rfl hbd53 rfl rfl Try.func53 rfl Try.ntmps53 rfl rfl (Nat.le_of_ble_eq_true rfl) (fun a645 hf646=>?_))
  refine TC.seq ?_
  refine TC.region ?_
  refine TV rfl rfl rfl (Val.assign rfl) ?_
  refine TL.nil ?_
  refine TQ.then_ ?_
  refine TC.seq ?_
  obtain ⟨o761,ho761,ko761⟩:=bind_no h
  clear h
  refine TC.tail (fun a W=>∃ (x760:Int),x760=o761∧Fr 21 a [(1,VI x760)]∧Own G (L) W) ?_ ?_
  ·
   rintro a W ⟨x760,rfl,hF,hO⟩
   have h:=ko761
   clear ko761 ho761
   refine TQ.use ?_ hF hO
   clear hF hO
   refine TQ.then_ ?_
   refine TC.seq ?_
   refine TC.region ?_
   refine TV rfl rfl rfl (Val.move rfl) ?_
   refine TV rfl rfl rfl (Val.assign rfl) ?_
   refine TL.nil ?_
   refine TQ.then_ ?_
   refine TC.ret ?_
   refine TQ.fin (v:=VI x760) (.inl rfl) rfl Try.results53 (.tmp rfl .nil) rfl (After.mk hf646 rfl ?_)
   refine TV rfl rfl rfl (Val.assign rfl) ?_
   refine TV rfl rfl rfl (Val.assign rfl) ?_
   refine TL.nil ?_
   refine TQ.then_ ?_
   refine TC.ret ?_
   refine TQ.inBR ?_
   refine TQ.thenR ?_
   obtain rfl:=Option.some.inj h
   exact TQ.fin (.inl rfl) rfl Try.results42 (.tmp rfl (.tmp rfl .nil)) rfl (FRel.mk (Ls:=[]) [] 0 (Gd.le.refl _) rfl rfl rfl ⟨rfl,rfl,rfl⟩)
  ·
   refine TC.block ?_
   intro a W hF hO
   have hS:∃ (x741:Int),token_cut.l0 a0 (a0.size + 1) x741=some o761∧Fr 21 a [(0,.string a0),(1,VI x741),(2,.func (.func 58) #[] #[])]∧Own G (L) W:=by
    exact ⟨a1,ho761,hF.sub ⟨rfl,rfl,rfl,trivial⟩,hO.selT (Ls:=[]) [] 0 rfl rfl rfl⟩
   clear hF hO ho761 ko761
   refine TC.loop (fun n762 a W=>∃ (x741:Int),token_cut.l0 a0 n762 x741=some o761∧Fr 21 a [(0,.string a0),(1,VI x741),(2,.func (.func 58) #[] #[])]∧Own G (L) W) ?_ ?_ hS
   ·
    rintro a W ⟨x741,h,hF,hO⟩
    exact none_no h
   ·
    clear hS
    rintro n762 a W ⟨x741,h,hF,hO⟩
    rw [token_cut.l0] at h
    refine TC.use ?_ hF hO
    clear hF hO
    refine TC.seq ?_
    refine TC.seq ?_
    obtain ⟨j789,hj789,h⟩:=jn_no h
    refine TC.tail (fun a W=>∃ (x788:Bool),j789 x788=some o761∧Fr 21 a [(0,.string a0),(1,VI x741),(2,.func (.func 58) #[] #[]),(17,.bool x788)]∧Own G (L) W) ?_ ?_
    ·
     rintro a W ⟨x788,h,hF,hO⟩
     rw [hj789] at h
     refine TQ.use ?_ hF hO
     clear hF hO
     refine TQ.then_ ?_
     refine TC.cond_b rfl h (fun hc791 h=>?_) (fun hc791 h=>?_)
     ·
      refine TC.skip ?_
      refine TQ.then_ ?_
      refine TC.block ?_
      refine TC.region ?_
      refine TV rfl rfl rfl (Val.move rfl) ?_
      refine TV rfl rfl rfl (Val.cmp rfl rfl run_add) ?_
      refine TV rfl rfl rfl (Val.assign rfl) ?_
      refine TL.nil ?_
      refine TQ.inB ?_
      exact fun a W hF hO=>⟨IntKind.i64.wrap (x741 + 1),h,hF.sub ⟨rfl,rfl,rfl,trivial⟩,hO.selT (Ls:=[]) [] 0 rfl rfl rfl⟩
     ·
      refine TC.exit ?_
      refine TQ.thenX ?_
      refine TQ.thenX ?_
      refine TQ.inBX ?_
      exact fun a W hF hO=>⟨x741,Option.some.inj h,hF.sub ⟨rfl,trivial⟩,hO.selT (Ls:=[]) [] 0 rfl rfl rfl⟩
    ·
     refine TC.region ?_
     refine TV rfl rfl rfl (Val.move rfl) ?_
     refine TV rfl rfl rfl (Val.move rfl) ?_
     refine TV rfl rfl rfl (Val.lenS Try.underlying9 rfl) ?_
     refine TV rfl rfl rfl (Val.cmp rfl rfl run_lss) ?_
     refine TV rfl rfl rfl (Val.move rfl) ?_
     refine TK.split (p:=x741 < (a0.size:Int)) h (fun hg792 h=>?_) (fun hg792 h=>?_)
     ·
      have hk793:decide (x741 < (a0.size:Int))=true:=decide_eq_true hg792
      refine TV (Wt.yes rfl rfl rfl hk793) rfl rfl (Val.move rfl) ?_
      refine TV (Wt.yes rfl rfl rfl hk793) rfl rfl (Val.move rfl) ?_
      refine TV (Wt.yes rfl rfl rfl hk793) rfl rfl (Val.move rfl) ?_
      obtain ⟨y794,hy795,h⟩:=bind_no h
      refine TV (Wt.yes rfl rfl rfl hk793) rfl rfl (Val.indexS Try.underlying9 rfl rfl hy795) ?_
      obtain ⟨y796,hy797,h⟩:=bind_no h
      refine TL.cons (TL.callV (Lin:=[]) (args:=[.int .u8 y794]) (Wt.yes rfl rfl rfl hk793) rfl rfl hbd58 rfl rfl (token_word.calls (a0:=y794) hy797) rfl ?_)
      rintro _ _ _ _ ⟨rfl,rfl,rfl⟩
      refine TV rfl rfl rfl (Val.pickY rfl hk793 rfl) ?_
      refine TL.nil ?_
      exact fun a W hF hO=>⟨y796,h,hF.sub ⟨rfl,rfl,rfl,rfl,trivial⟩,hO.selT (Ls:=[]) [] 0 rfl rfl rfl⟩
     ·
      have hk798:decide (x741 < (a0.size:Int))=false:=decide_eq_false hg792
      refine TL.cons (TL.not (Wt.no rfl rfl rfl hk798) rfl ?_)
      refine TL.cons (TL.not (Wt.no rfl rfl rfl hk798) rfl ?_)
      refine TL.cons (TL.not (Wt.no rfl rfl rfl hk798) rfl ?_)
      refine TL.cons (TL.not (Wt.no rfl rfl rfl hk798) rfl ?_)
      refine TL.cons (TL.not (Wt.no rfl rfl rfl hk798) rfl ?_)
      refine TV rfl rfl rfl (Val.pickN rfl hk798 rfl) ?_
      refine TL.nil ?_
      exact fun a W hF hO=>⟨false,h,hF.sub ⟨rfl,rfl,rfl,rfl,trivial⟩,hO.selT (Ls:=[]) [] 0 rfl rfl rfl⟩
 ·
  refine TC.seq ?_
  refine TC.region ?_
  refine TV rfl rfl rfl (Val.move rfl) ?_
  obtain ⟨y799,hy800,h⟩:=bind_no h
  refine TL.cons (TL.callV (Lin:=[]) (args:=[.int .u8 y1]) rfl rfl rfl hbd59 rfl rfl (token_digit.calls (a0:=y1) hy800) rfl ?_)
  rintro _ _ _ _ ⟨rfl,rfl,rfl⟩
  refine TV rfl rfl rfl (Val.assign rfl) ?_
  refine TL.nil ?_
  refine TQ.then_ ?_
  refine TC.cond_b rfl h (fun hc916 h=>?_) (fun hc916 h=>?_)
  ·
   refine TC.seq ?_
   refine TC.region ?_
   refine TV rfl rfl rfl (Val.move rfl) ?_
   refine TV rfl rfl rfl (Val.move rfl) ?_
   refine TL.cons (TO.inl (args:=[.string a0,VI a1,.func (.func 59) #[] #[]]) (e':=[(0,.string a0),(1,VI a1),(2,.func (.func 59) #[] #[])]) 21 rfl rfl hbd53 rfl rfl Try.func53 rfl Try.ntmps53 rfl rfl (Nat.le_of_ble_eq_true rfl) (fun a917 hf918=>?_))
   refine TC.seq ?_
   refine TC.region ?_
   refine TV rfl rfl rfl (Val.assign rfl) ?_
   refine TL.nil ?_
   refine TQ.then_ ?_
   refine TC.seq ?_
   obtain ⟨o1033,ho1033,ko1033⟩:=bind_no h
   clear h
   refine TC.tail (fun a W=>∃ (x1032:Int),x1032=o1033∧Fr 21 a [(1,VI x1032)]∧Own G (L) W) ?_ ?_
   ·
    rintro a W ⟨x1032,rfl,hF,hO⟩
    have h:=ko1033
    clear ko1033 ho1033
    refine TQ.use ?_ hF hO
    clear hF hO
    refine TQ.then_ ?_
    refine TC.seq ?_
    refine TC.region ?_
    refine TV rfl rfl rfl (Val.move rfl) ?_
    refine TV rfl rfl rfl (Val.assign rfl) ?_
    refine TL.nil ?_
    refine TQ.then_ ?_
    refine TC.ret ?_
    refine TQ.fin (v:=VI x1032) (.inl rfl) rfl Try.results53 (.tmp rfl .nil) rfl (After.mk hf918 rfl ?_)
    refine TV rfl rfl rfl (Val.assign rfl) ?_
    refine TL.nil ?_
    refine TQ.then_ ?_
    refine TC.seq ?_
    refine TC.seq ?_
    refine TC.region ?_
    refine TV rfl rfl rfl (Val.move rfl) ?_
    refine TV rfl rfl rfl (Val.move rfl) ?_
    refine TV rfl rfl rfl (Val.move rfl) ?_
    obtain ⟨y1053,hy1054,h⟩:=bind_no h
    refine TV rfl rfl rfl (Val.cutS Try.underlying9 rfl rfl rfl hy1054) ?_
    obtain ⟨y1055,hy1056,h⟩:=bind_no h
    refine TL.cons (TL.callV (Lin:=[]) (args:=[.string y1053]) rfl rfl rfl hbd60 rfl rfl (token_Number.calls (a0:=y1053) hy1056) rfl ?_)
    rintro _ _ _ _ ⟨rfl,rfl,rfl⟩
    refine TV rfl rfl rfl (Val.move rfl) ?_
    refine TV rfl rfl rfl (Val.extract rfl rfl) ?_
    refine TV rfl rfl rfl (Val.extract rfl rfl) ?_
    refine TV rfl rfl rfl (Val.assign rfl) ?_
    refine TV rfl rfl rfl (Val.assign rfl) ?_
    refine TL.nil ?_
    refine TQ.then_ ?_
    refine TC.seq ?_
    obtain ⟨j1068,hj1068,h⟩:=jn_no h
    refine TC.tail (fun a W=>∃ (x1067:Bool),j1068 x1067=some r∧Fr 72 a [(1,VI a1),(4,VI x1032),(46,.bool x1067)]∧Own G (L) W) ?_ ?_
    ·
     rintro a W ⟨x1067,h,hF,hO⟩
     rw [hj1068] at h
     refine TQ.use ?_ hF hO
     clear hF hO
     refine TQ.then_ ?_
     refine TC.cond_b rfl h (fun hc1070 h=>?_) (fun hc1070 h=>?_)
     ·
      refine TC.seq ?_
      refine TC.region ?_
      refine TV rfl rfl rfl (Val.move rfl) ?_
      refine TV rfl rfl rfl (Val.assign rfl) ?_
      refine TV rfl rfl rfl (Val.assign rfl) ?_
      refine TL.nil ?_
      refine TQ.then_ ?_
      refine TC.ret ?_
      refine TQ.thenR ?_
      refine TQ.inBR ?_
      refine TQ.thenR ?_
      obtain rfl:=Option.some.inj h
      exact TQ.fin (.inl rfl) rfl Try.results42 (.tmp rfl (.tmp rfl .nil)) rfl (FRel.mk (Ls:=[]) [] 0 (Gd.le.refl _) rfl rfl rfl ⟨rfl,rfl,rfl⟩)
     ·
      refine TC.skip ?_
      refine TQ.then_ ?_
      refine TC.seq ?_
      refine TC.region ?_
      refine TV rfl rfl rfl (Val.move rfl) ?_
      refine TV rfl rfl rfl (Val.assign rfl) ?_
      refine TV rfl rfl rfl (Val.assign rfl) ?_
      refine TL.nil ?_
      refine TQ.then_ ?_
      refine TC.ret ?_
      refine TQ.inBR ?_
      refine TQ.thenR ?_
      obtain rfl:=Option.some.inj h
      exact TQ.fin (.inl rfl) rfl Try.results42 (.tmp rfl (.tmp rfl .nil)) rfl (FRel.mk (Ls:=[]) [] 0 (Gd.le.refl _) rfl rfl rfl ⟨rfl,rfl,rfl⟩)
    ·
     refine TC.region ?_
     refine TV rfl rfl rfl (Val.move rfl) ?_
     refine TV rfl rfl rfl (Val.not_ rfl) ?_
     refine TV rfl rfl rfl (Val.move rfl) ?_
     refine TK.split (p:=(!y1055.2)=true) h (fun hg1071 h=>?_) (fun hg1071 h=>?_)
     ·
      have hk1072:(!y1055.2)=true:=hg1071
      refine TL.cons (TL.not (Wt.no rfl rfl rfl hk1072) rfl ?_)
      refine TL.cons (TL.not (Wt.no rfl rfl rfl hk1072) rfl ?_)
      refine TL.cons (TL.not (Wt.no rfl rfl rfl hk1072) rfl ?_)
      refine TL.cons (TL.not (Wt.no rfl rfl rfl hk1072) rfl ?_)
      refine TL.cons (TL.not (Wt.no rfl rfl rfl hk1072) rfl ?_)
      refine TL.cons (TL.not rfl rfl ?_)
      refine TL.cons (TL.not rfl rfl ?_)
      refine TL.cons (TL.not rfl rfl ?_)
      refine TL.cons (TL.not rfl rfl ?_)
      refine TL.cons (TL.not (Wt.no rfl rfl rfl hk1072) rfl ?_)
      refine TV rfl rfl rfl (Val.pickY rfl hk1072 rfl) ?_
      refine TL.nil ?_
      exact fun a W hF hO=>⟨true,h,hF.sub ⟨rfl,rfl,rfl,trivial⟩,hO.selT (Ls:=[]) [] 0 rfl rfl rfl⟩
     ·
      have hk1073:(!y1055.2)=false:=(by simpa using hg1071)
      refine TV (Wt.yes rfl rfl rfl hk1073) rfl rfl (Val.move rfl) ?_
      refine TV (Wt.yes rfl rfl rfl hk1073) rfl rfl (Val.move rfl) ?_
      refine TV (Wt.yes rfl rfl rfl hk1073) rfl rfl (Val.lenS Try.underlying9 rfl) ?_
      refine TV (Wt.yes rfl rfl rfl hk1073) rfl rfl (Val.cmp rfl rfl run_lss) ?_
      refine TV (Wt.yes rfl rfl rfl hk1073) rfl rfl (Val.move rfl) ?_
      refine TK.split (p:=x1032 < (a0.size:Int)) h (fun hg1074 h=>?_) (fun hg1074 h=>?_)
      ·
       have hk1075:decide (x1032 < (a0.size:Int))=true:=decide_eq_true hg1074
       refine TV (Wt.yes rfl rfl rfl hk1075) rfl rfl (Val.move rfl) ?_
       refine TV (Wt.yes rfl rfl rfl hk1075) rfl rfl (Val.move rfl) ?_
       obtain ⟨y1076,hy1077,h⟩:=bind_no h
       refine TV (Wt.yes rfl rfl rfl hk1075) rfl rfl (Val.indexS Try.underlying9 rfl rfl hy1077) ?_
       obtain ⟨y1078,hy1079,h⟩:=bind_no h
       refine TL.cons (TL.callV (Lin:=[]) (args:=[.int .u8 y1076]) (Wt.yes rfl rfl rfl hk1075) rfl rfl hbd57 rfl rfl (token_letter.calls (a0:=y1076) hy1079) rfl ?_)
       rintro _ _ _ _ ⟨rfl,rfl,rfl⟩
       refine TV (Wt.yes rfl rfl rfl hk1073) rfl rfl (Val.pickY rfl hk1075 rfl) ?_
       refine TV rfl rfl rfl (Val.pickN rfl hk1073 rfl) ?_
       refine TL.nil ?_
       exact fun a W hF hO=>⟨y1078,h,hF.sub ⟨rfl,rfl,rfl,trivial⟩,hO.selT (Ls:=[]) [] 0 rfl rfl rfl⟩
      ·
       have hk1080:decide (x1032 < (a0.size:Int))=false:=decide_eq_false hg1074
       refine TL.cons (TL.not (Wt.no rfl rfl rfl hk1080) rfl ?_)
       refine TL.cons (TL.not (Wt.no rfl rfl rfl hk1080) rfl ?_)
       refine TL.cons (TL.not (Wt.no rfl rfl rfl hk1080) rfl ?_)
       refine TL.cons (TL.not (Wt.no rfl rfl rfl hk1080) rfl ?_)
       refine TV (Wt.yes rfl rfl rfl hk1073) rfl rfl (Val.pickN rfl hk1080 rfl) ?_
       refine TV rfl rfl rfl (Val.pickN rfl hk1073 rfl) ?_
       refine TL.nil ?_
       exact fun a W hF hO=>⟨false,h,hF.sub ⟨rfl,rfl,rfl,trivial⟩,hO.selT (Ls:=[]) [] 0 rfl rfl rfl⟩
   ·
    refine TC.block ?_
    intro a W hF hO
    have hS:∃ (x1013:Int),token_cut.l1 a0 (a0.size + 1) x1013=some o1033∧Fr 21 a [(0,.string a0),(1,VI x1013),(2,.func (.func 59) #[] #[])]∧Own G (L) W:=by
     exact ⟨a1,ho1033,hF.sub ⟨rfl,rfl,rfl,trivial⟩,hO.selT (Ls:=[]) [] 0 rfl rfl rfl⟩
    clear hF hO ho1033 ko1033
    refine TC.loop (fun n1034 a W=>∃ (x1013:Int),token_cut.l1 a0 n1034 x1013=some o1033∧Fr 21 a [(0,.string a0),(1,VI x1013),(2,.func (.func 59) #[] #[])]∧Own G (L) W) ?_ ?_ hS
    ·
     rintro a W ⟨x1013,h,hF,hO⟩
     exact none_no h
    ·
     clear hS
     rintro n1034 a W ⟨x1013,h,hF,hO⟩
     rw [token_cut.l1] at h
     refine TC.use ?_ hF hO
     clear hF hO
     refine TC.seq ?_
     refine TC.seq ?_
     obtain ⟨j1089,hj1089,h⟩:=jn_no h
     refine TC.tail (fun a W=>∃ (x1088:Bool),j1089 x1088=some o1033∧Fr 21 a [(0,.string a0),(1,VI x1013),(2,.func (.func 59) #[] #[]),(17,.bool x1088)]∧Own G (L) W) ?_ ?_
     ·
      rintro a W ⟨x1088,h,hF,hO⟩
      rw [hj1089] at h
      refine TQ.use ?_ hF hO
      clear hF hO
      refine TQ.then_ ?_
      refine TC.cond_b rfl h (fun hc1091 h=>?_) (fun hc1091 h=>?_)
      ·
       refine TC.skip ?_
       refine TQ.then_ ?_
       refine TC.block ?_
       refine TC.region ?_
       refine TV rfl rfl rfl (Val.move rfl) ?_
       refine TV rfl rfl rfl (Val.cmp rfl rfl run_add) ?_
       refine TV rfl rfl rfl (Val.assign rfl) ?_
       refine TL.nil ?_
       refine TQ.inB ?_
       exact fun a W hF hO=>⟨IntKind.i64.wrap (x1013 + 1),h,hF.sub ⟨rfl,rfl,rfl,trivial⟩,hO.selT (Ls:=[]) [] 0 rfl rfl rfl⟩
      ·
       refine TC.exit ?_
       refine TQ.thenX ?_
       refine TQ.thenX ?_
       refine TQ.inBX ?_
       exact fun a W hF hO=>⟨x1013,Option.some.inj h,hF.sub ⟨rfl,trivial⟩,hO.selT (Ls:=[]) [] 0 rfl rfl rfl⟩
     ·
      refine TC.region ?_
      refine TV rfl rfl rfl (Val.move rfl) ?_
      refine TV rfl rfl rfl (Val.move rfl) ?_
      refine TV rfl rfl rfl (Val.lenS Try.underlying9 rfl) ?_
      refine TV rfl rfl rfl (Val.cmp rfl rfl run_lss) ?_
      refine TV rfl rfl rfl (Val.move rfl) ?_
      refine TK.split (p:=x1013 < (a0.size:Int)) h (fun hg1092 h=>?_) (fun hg1092 h=>?_)
      ·
       have hk1093:decide (x1013 < (a0.size:Int))=true:=decide_eq_true hg1092
       refine TV (Wt.yes rfl rfl rfl hk1093) rfl rfl (Val.move rfl) ?_
       refine TV (Wt.yes rfl rfl rfl hk1093) rfl rfl (Val.move rfl) ?_
       refine TV (Wt.yes rfl rfl rfl hk1093) rfl rfl (Val.move rfl) ?_
       obtain ⟨y1094,hy1095,h⟩:=bind_no h
       refine TV (Wt.yes rfl rfl rfl hk1093) rfl rfl (Val.indexS Try.underlying9 rfl rfl hy1095) ?_
       obtain ⟨y1096,hy1097,h⟩:=bind_no h
       refine TL.cons (TL.callV (Lin:=[]) (args:=[.int .u8 y1094]) (Wt.yes rfl rfl rfl hk1093) rfl rfl hbd59 rfl rfl (token_digit.calls (a0:=y1094) hy1097) rfl ?_)
       rintro _ _ _ _ ⟨rfl,rfl,rfl⟩
       refine TV rfl rfl rfl (Val.pickY rfl hk1093 rfl) ?_
       refine TL.nil ?_
       exact fun a W hF hO=>⟨y1096,h,hF.sub ⟨rfl,rfl,rfl,rfl,trivial⟩,hO.selT (Ls:=[]) [] 0 rfl rfl rfl⟩
      ·
       have hk1098:decide (x1013 < (a0.size:Int))=false:=decide_eq_false hg1092
       refine TL.cons (TL.not (Wt.no rfl rfl rfl hk1098) rfl ?_)
       refine TL.cons (TL.not (Wt.no rfl rfl rfl hk1098) rfl ?_)
       refine TL.cons (TL.not (Wt.no rfl rfl rfl hk1098) rfl ?_)
       refine TL.cons (TL.not (Wt.no rfl rfl rfl hk1098) rfl ?_)
       refine TL.cons (TL.not (Wt.no rfl rfl rfl hk1098) rfl ?_)
       refine TV rfl rfl rfl (Val.pickN rfl hk1098 rfl) ?_
       refine TL.nil ?_
       exact fun a W hF hO=>⟨false,h,hF.sub ⟨rfl,rfl,rfl,rfl,trivial⟩,hO.selT (Ls:=[]) [] 0 rfl rfl rfl⟩
  ·
   refine TC.skip ?_
   refine TQ.inB ?_
   refine TQ.then_ ?_
   refine TC.seq ?_
   refine TC.seq ?_
   refine TC.region ?_
   refine TV rfl rfl rfl (Val.assign rfl) ?_
   refine TL.nil ?_
   refine TQ.then_ ?_
   obtain ⟨o1213,ho1213,ko1213⟩:=bind_no h
   clear h
   refine TC.tail (fun a W=>(.inr ())=o1213∧Fr 72 a [(1,VI a1)]∧Own G (L) W) ?_ ?_
   ·
    rintro a W ⟨rfl,hF,hO⟩
    have h:=ko1213
    clear ko1213 ho1213
    refine TQ.use ?_ hF hO
    clear hF hO
    refine TQ.then_ ?_
    refine TC.seq ?_
    refine TC.region ?_
    refine TV rfl rfl rfl (Val.move rfl) ?_
    refine TV rfl rfl rfl (Val.assign rfl) ?_
    refine TV rfl rfl rfl (Val.assign rfl) ?_
    refine TL.nil ?_
    refine TQ.then_ ?_
    refine TC.ret ?_
    obtain rfl:=Option.some.inj h
    exact TQ.fin (.inl rfl) rfl Try.results42 (.tmp rfl (.tmp rfl .nil)) rfl (FRel.mk (Ls:=[]) [] 0 (Gd.le.refl _) rfl rfl rfl ⟨rfl,rfl,rfl⟩)
   ·
    refine TC.block ?_
    intro a W hF hO
    have hS:∃ (x1174:Int),token_cut.l2 a0 a1 (2 + 1) x1174=some o1213∧Fr 72 a [(0,.string a0),(1,VI a1),(9,VI x1174)]∧Own G (L) W:=by
     exact ⟨2,ho1213,hF.sub ⟨rfl,rfl,rfl,trivial⟩,hO.selT (Ls:=[]) [] 0 rfl rfl rfl⟩
    clear hF hO ho1213
    refine TC.loop (fun n1214 a W=>∃ (x1174:Int),token_cut.l2 a0 a1 n1214 x1174=some o1213∧Fr 72 a [(0,.string a0),(1,VI a1),(9,VI x1174)]∧Own G (L) W) ?_ ?_ hS
    ·
     rintro a W ⟨x1174,h,hF,hO⟩
     exact none_no h
    ·
     clear hS
     rintro n1214 a W ⟨x1174,h,hF,hO⟩
     rw [token_cut.l2] at h
     refine TC.use ?_ hF hO
     clear hF hO
     refine TC.seq ?_
     refine TC.seq ?_
     refine TC.region ?_
     refine TV rfl rfl rfl (Val.move rfl) ?_
     refine TV rfl rfl rfl (Val.cmp rfl rfl run_gtr) ?_
     refine TL.nil ?_
     refine TQ.then_ ?_
     refine TC.cond_p rfl h (fun hc1254 h=>?_) (fun hc1254 h=>?_)
     ·
      refine TC.skip ?_
      refine TQ.then_ ?_
      refine TC.seq ?_
      refine TC.block ?_
      refine TC.seq ?_
      obtain ⟨j1281,hj1281,h⟩:=jn_no h
      refine TC.tail (fun a W=>∃ (x1280:Bool),j1281 x1280=some o1213∧Fr 72 a [(0,.string a0),(1,VI a1),(9,VI x1174),(67,.bool x1280)]∧Own G (L) W) ?_ ?_
      ·
       rintro a W ⟨x1280,h,hF,hO⟩
       rw [hj1281] at h
       refine TQ.use ?_ hF hO
       clear hF hO
       refine TQ.then_ ?_
       refine TC.cond_b rfl h (fun hc1283 h=>?_) (fun hc1283 h=>?_)
       ·
        refine TC.seq ?_
        refine TC.region ?_
        refine TV rfl rfl rfl (Val.move rfl) ?_
        refine TV rfl rfl rfl (Val.move rfl) ?_
        refine TV rfl rfl rfl (Val.cmp rfl rfl run_add) ?_
        refine TV rfl rfl rfl (Val.assign rfl) ?_
        refine TV rfl rfl rfl (Val.assign rfl) ?_
        refine TL.nil ?_
        refine TQ.then_ ?_
        refine TC.ret ?_
        refine TQ.inBR ?_
        refine TQ.thenR ?_
        refine TQ.thenR ?_
        refine TQ.inBR ?_
        refine TQ.thenR ?_
        refine TQ.thenR ?_
        obtain rfl:=Option.some.inj h
        have h:=ko1213
        obtain rfl:=Option.some.inj h
        exact TQ.fin (.inl rfl) rfl Try.results42 (.tmp rfl (.tmp rfl .nil)) rfl (FRel.mk (Ls:=[]) [] 0 (Gd.le.refl _) rfl rfl rfl ⟨rfl,rfl,rfl⟩)
       ·
        refine TC.skip ?_
        refine TQ.inB ?_
        refine TQ.then_ ?_
        refine TC.region ?_
        refine TV rfl rfl rfl (Val.move rfl) ?_
        refine TV rfl rfl rfl (Val.cmp rfl rfl run_sub) ?_
        refine TV rfl rfl rfl (Val.assign rfl) ?_
        refine TL.nil ?_
        exact fun a W hF hO=>⟨IntKind.i64.wrap (x1174 - 1),h,hF.sub ⟨rfl,rfl,rfl,trivial⟩,hO.selT (Ls:=[]) [] 0 rfl rfl rfl⟩
      ·
       refine TC.region ?_
       refine TV rfl rfl rfl (Val.move rfl) ?_
       refine TV rfl rfl rfl (Val.move rfl) ?_
       refine TV rfl rfl rfl (Val.cmp rfl rfl run_add) ?_
       refine TV rfl rfl rfl (Val.move rfl) ?_
       refine TV rfl rfl rfl (Val.lenS Try.underlying9 rfl) ?_
       refine TV rfl rfl rfl (Val.cmp rfl rfl run_leq) ?_
       refine TV rfl rfl rfl (Val.move rfl) ?_
       refine TK.split (p:=(IntKind.i64.wrap (a1 + x1174)) ≤ (a0.size:Int)) h (fun hg1284 h=>?_) (fun hg1284 h=>?_)
       ·
        have hk1285:decide ((IntKind.i64.wrap (a1 + x1174)) ≤ (a0.size:Int))=true:=decide_eq_true hg1284
        refine TV (Wt.yes rfl rfl rfl hk1285) rfl rfl (Val.move rfl) ?_
        refine TV (Wt.yes rfl rfl rfl hk1285) rfl rfl (Val.move rfl) ?_
        refine TV (Wt.yes rfl rfl rfl hk1285) rfl rfl (Val.move rfl) ?_
        refine TV (Wt.yes rfl rfl rfl hk1285) rfl rfl (Val.move rfl) ?_
        refine TV (Wt.yes rfl rfl rfl hk1285) rfl rfl (Val.cmp rfl rfl run_add) ?_
        obtain ⟨y1286,hy1287,h⟩:=bind_no h
        refine TV (Wt.yes rfl rfl rfl hk1285) rfl rfl (Val.cutS Try.underlying9 rfl rfl rfl hy1287) ?_
        obtain ⟨y1288,hy1289,h⟩:=bind_no h
        refine TL.cons (TL.callV (Lin:=[]) (args:=[.string y1286]) (Wt.yes rfl rfl rfl hk1285) rfl rfl hbd61 rfl rfl (token_Sign.calls (a0:=y1286) hy1289) rfl ?_)
        rintro _ _ _ _ ⟨rfl,rfl,rfl⟩
        refine TV rfl rfl rfl (Val.pickY rfl hk1285 rfl) ?_
        refine TL.nil ?_
        exact fun a W hF hO=>⟨y1288,h,hF.sub ⟨rfl,rfl,rfl,rfl,trivial⟩,hO.selT (Ls:=[]) [] 0 rfl rfl rfl⟩
       ·
        have hk1290:decide ((IntKind.i64.wrap (a1 + x1174)) ≤ (a0.size:Int))=false:=decide_eq_false hg1284
        refine TL.cons (TL.not (Wt.no rfl rfl rfl hk1290) rfl ?_)
        refine TL.cons (TL.not (Wt.no rfl rfl rfl hk1290) rfl ?_)
        refine TL.cons (TL.not (Wt.no rfl rfl rfl hk1290) rfl ?_)
        refine TL.cons (TL.not (Wt.no rfl rfl rfl hk1290) rfl ?_)
        refine TL.cons (TL.not (Wt.no rfl rfl rfl hk1290) rfl ?_)
        refine TL.cons (TL.not (Wt.no rfl rfl rfl hk1290) rfl ?_)
        refine TL.cons (TL.not (Wt.no rfl rfl rfl hk1290) rfl ?_)
        refine TV rfl rfl rfl (Val.pickN rfl hk1290 rfl) ?_
        refine TL.nil ?_
        exact fun a W hF hO=>⟨false,h,hF.sub ⟨rfl,rfl,rfl,rfl,trivial⟩,hO.selT (Ls:=[]) [] 0 rfl rfl rfl⟩
     ·
      refine TC.exit ?_
      refine TQ.thenX ?_
      refine TQ.thenX ?_
      refine TQ.inBX ?_
      exact fun a W hF hO=>⟨Option.some.inj h,hF.sub ⟨rfl,trivial⟩,hO.selT (Ls:=[]) [] 0 rfl rfl rfl⟩
end Go.Proofs.Ythlhmoocgjddpaa.Sy
