/- Texts of this work, joined: SyF49, SyF30, PaD, SyF18, SyF11, PaE, SyF31, SyF32. -/
import Derived.Test.YthlhmoocgjddpaaSyNParseJoinsUptob
set_option linter.unusedVariables false
set_option linter.unusedSimpArgs false
set_option maxRecDepth 100000
set_option maxHeartbeats 4000000
namespace Go.Proofs.Ythlhmoocgjddpaa.Sy
open Go Go.RowKit Go.Proofs.YthlhmoocgjddpaaW.PrintWords 
def parse_parser_block.post (G:Gd) (b1:Nat) (A2:Option Addr) (c3:Nat) (a0_0:(List S41)) (a0_1:Int) (a0_2:Int) (a1:Int) (r:(S24 × Int × Int)) (v:Value) (G':Gd) (Lr:List Ch):Prop:=G=G'∧∃ (A_1:Option Addr) (c_1:Nat),v=.agg #[VI r.1.f0,.string r.1.f1,VI r.1.f2,.slice A_1 r.1.f3.length c_1]∧Lr=[Blk b1 [.slice A2 a0_0.length c3,VI r.2.1,VI r.2.2] 67,Row k24 24 (.slice A_1 r.1.f3.length c_1) r.1.f3]
def parse_parser_statement.post (G:Gd) (b1:Nat) (A2:Option Addr) (c3:Nat) (a0_0:(List S41)) (a0_1:Int) (a0_2:Int) (a1:Int) (r:(S24 × Int × Int)) (v:Value) (G':Gd) (Lr:List Ch):Prop:=G=G'∧∃ (A_1:Option Addr) (c_1:Nat),v=.agg #[VI r.1.f0,.string r.1.f1,VI r.1.f2,.slice A_1 r.1.f3.length c_1]∧Lr=[Blk b1 [.slice A2 a0_0.length c3,VI r.2.1,VI r.2.2] 67,Row k24 24 (.slice A_1 r.1.f3.length c_1) r.1.f3]
def parse_parser_branches.post (G:Gd) (b1:Nat) (A2:Option Addr) (c3:Nat) (A6:Option Addr) (c7:Nat) (a0_0:(List S41)) (a0_1:Int) (a0_2:Int) (a1:S24) (a2:Int) (r:(S24 × Int × Int)) (v:Value) (G':Gd) (Lr:List Ch):Prop:=G=G'∧∃ (A_1:Option Addr) (c_1:Nat),v=.agg #[VI r.1.f0,.string r.1.f1,VI r.1.f2,.slice A_1 r.1.f3.length c_1]∧Lr=[Blk b1 [.slice A2 a0_0.length c3,VI r.2.1,VI r.2.2] 67,Row k24 24 (.slice A_1 r.1.f3.length c_1) r.1.f3]
def parse_parser_block.l0 (rec68:((List S41) → Int → Int → Int → Option (S24 × Int × Int))) (a0_0:(List S41)) (a1:Int):Nat → Int → Int → (List S24) → Option (Int × Int × (List S24))
 | 0,_,_,_=>none
 | n185 + 1,x122,x123,l124=>jn (γ:=(Int × Int × (List S24))) (fun (x243:Bool)=>(if x243=true then (rec68 a0_0 x122 x123 a1).bind fun (y274:(S24 × Int × Int))=>(if l124.length < 2513169434916 then parse_parser_block.l0 rec68 a0_0 a1 n185 y274.2.1 y274.2.2 (l124 ++ [y274.1]) else none) else some (x122,x123,l124))) (fun (j244:(Bool → Option (Int × Int × (List S24))))=>(if x123=0 then (parse_parser_fixed.f a0_0 x122 x123).bind fun (y285:ByteArray)=>j244 (!(y285.data.toList == (⟨#[125]⟩:ByteArray).data.toList)) else j244 false))
def parse_parser_block.g (rec49:((List S41) → Int → Int → Int → Option (S24 × Int × Int))) (rec68:((List S41) → Int → Int → Int → Option (S24 × Int × Int))) (rec71:((List S41) → Int → Int → S24 → Int → Option (S24 × Int × Int))) (a0_0:(List S41)) (a0_1:Int) (a0_2:Int) (a1:Int):Option (S24 × Int × Int):=(parse_parser_start.f a0_0 a0_1 a0_2).bind fun (y7:Int)=>(parse_parser_must.f a0_0 a0_1 a0_2 (⟨#[123]⟩:ByteArray)).bind fun (y10:(Int × Int))=>(parse_parser_block.l0 rec68 a0_0 a1 100000 y10.1 y10.2 []).bind fun (x178,x179,l180)=>(parse_parser_must.f a0_0 x178 x179 (⟨#[125]⟩:ByteArray)).bind fun (y236:(Int × Int))=>some ((⟨9,(⟨#[]⟩:ByteArray),y7,l180⟩:S24),y236.1,y236.2)
theorem parse_parser_block.step (rec49:((List S41) → Int → Int → Int → Option (S24 × Int × Int))) (rec68:((List S41) → Int → Int → Int → Option (S24 × Int × Int))) (rec71:((List S41) → Int → Int → S24 → Int → Option (S24 × Int × Int))) (ih49:∀ {G:Gd} {r:(S24 × Int × Int)} {a0_0:(List S41)} {a0_1:Int} {a0_2:Int} {a1:Int} {b1:Nat} {A2:Option Addr} {c3:Nat} (hr4:Rd G k41 A2 a0_0) (hl5:a0_0.length ≤ c3),rec49 a0_0 a0_1 a0_2 a1=some r → Fn Try.prog 49 G [Blk b1 [.slice A2 a0_0.length c3,VI a0_1,VI a0_2] 67] [VP b1 0,VI a1] (parse_parser_block.post G b1 A2 c3 a0_0 a0_1 a0_2 a1 r)) (ih68:∀ {G:Gd} {r:(S24 × Int × Int)} {a0_0:(List S41)} {a0_1:Int} {a0_2:Int} {a1:Int} {b1:Nat} {A2:Option Addr} {c3:Nat} (hr4:Rd G k41 A2 a0_0) (hl5:a0_0.length ≤ c3),rec68 a0_0 a0_1 a0_2 a1=some r → Fn Try.prog 68 G [Blk b1 [.slice A2 a0_0.length c3,VI a0_1,VI a0_2] 67] [VP b1 0,VI a1] (parse_parser_statement.post G b1 A2 c3 a0_0 a0_1 a0_2 a1 r)) (ih71:∀ {G:Gd} {r:(S24 × Int × Int)} {a0_0:(List S41)} {a0_1:Int} {a0_2:Int} {a1:S24} {a2:Int} {b1:Nat} {A2:Option Addr} {c3:Nat} {A6:Option Addr} {c7:Nat} (hr4:Rd G k41 A2 a0_0) (hl5:a0_0.length ≤ c3) (hr8:Rd G k24 A6 a1.f3) (hl9:a1.f3.length ≤ c7),rec71 a0_0 a0_1 a0_2 a1 a2=some r → Fn Try.prog 71 G [Blk b1 [.slice A2 a0_0.length c3,VI a0_1,VI a0_2] 67] [VP b1 0,.agg #[VI a1.f0,.string a1.f1,VI a1.f2,.slice A6 a1.f3.length c7],VI a2] (parse_parser_branches.post G b1 A2 c3 A6 c7 a0_0 a0_1 a0_2 a1 a2 r)) {G:Gd} {r:(S24 × Int × Int)} {a0_0:(List S41)} {a0_1:Int} {a0_2:Int} {a1:Int} {b1:Nat} {A2:Option Addr} {c3:Nat} (hr4:Rd G k41 A2 a0_0) (hl5:a0_0.length ≤ c3) (h:parse_parser_block.g rec49 rec68 rec71 a0_0 a0_1 a0_2 a1=some r):Fn Try.prog 49 G [Blk b1 [.slice A2 a0_0.length c3,VI a0_1,VI a0_2] 67] [VP b1 0,VI a1] (parse_parser_block.post G b1 A2 c3 a0_0 a0_1 a0_2 a1 r):=by
 refine Fn.intro (e:=[(0,VP b1 0),(1,VI a1)]) 32 Try.func49 rfl Try.ntmps49 rfl rfl (Nat.le_of_ble_eq_true rfl) (fun L=>?_)
 unfold parse_parser_block.g at h
 refine TC.seq ?_
 refine TC.region ?_
 refine TL.cons (TL.alloc (cs:=[VI 0,.string (⟨#[]⟩:ByteArray),VI 0,.slice none 0 0]) rfl rfl zr24 rfl (fun b6=>?_))
 refine TL.nil ?_
 refine TQ.then_ ?_
 refine TC.seq ?_
 refine TC.region ?_
 refine TV rfl rfl rfl (Val.move rfl) ?_
 refine TK.sel (Ls:=[Blk b1 [.slice A2 a0_0.length c3,VI a0_1,VI a0_2] 67,Blk b6 [VI 0,.string (⟨#[]⟩:ByteArray),VI 0,.slice none 0 0] 24]) [1,0] 2 rfl rfl rfl ?_
 obtain ⟨y7,hy8,h⟩:=bind_no h
 refine TL.cons (TL.callV (Lin:=[Blk b1 [.slice A2 a0_0.length c3,VI a0_1,VI a0_2] 67]) (args:=[VP b1 0]) rfl rfl rfl hbd29 rfl rfl (parse_parser_start.calls (a0_0:=a0_0) (a0_1:=a0_1) (a0_2:=a0_2) hr4 hl5 hy8) rfl ?_)
 rintro _ _ _ _ ⟨rfl,rfl,rfl⟩
 refine TV rfl rfl rfl (Val.build (cs:=[VI 9,.string (⟨#[]⟩:ByteArray),VI y7,.slice none 0 0]) (is:=[0,2]) (xs:=[.const (VI 9),.tmp 7]) Try.underlying24 zr24 bld24 rfl rfl rfl rfl) ?_
 refine TL.cons (TL.alloc (cs:=[VI 0,.string (⟨#[]⟩:ByteArray),VI 0,.slice none 0 0]) rfl rfl zr24 rfl (fun b9=>?_))
 refine TL.cons (TL.store 0 (ds:=[VI 9,.string (⟨#[]⟩:ByteArray),VI y7,.slice none 0 0]) (cs':=[VI 9,.string (⟨#[]⟩:ByteArray),VI y7,.slice none 0 0]) (L':=(Blk b9 [VI 9,.string (⟨#[]⟩:ByteArray),VI y7,.slice none 0 0] 24::Blk b1 [.slice A2 a0_0.length c3,VI a0_1,VI a0_2] 67::Blk b6 [VI 0,.string (⟨#[]⟩:ByteArray),VI 0,.slice none 0 0] 24::L)) rfl fsz24 rfl rfl rfl rfl rfl (Nat.le_of_ble_eq_true rfl) rfl rfl ?_)
 refine TL.nil ?_
 refine TQ.then_ ?_
 refine TC.seq ?_
 refine TC.region ?_
 refine TV rfl rfl rfl (Val.move rfl) ?_
 refine TK.sel (Ls:=[Blk b1 [.slice A2 a0_0.length c3,VI a0_1,VI a0_2] 67,Blk b9 [VI 9,.string (⟨#[]⟩:ByteArray),VI y7,.slice none 0 0] 24,Blk b6 [VI 0,.string (⟨#[]⟩:ByteArray),VI 0,.slice none 0 0] 24]) [1,0,2] 3 rfl rfl rfl ?_
 obtain ⟨y10,hy11,h⟩:=bind_no h
 refine TL.cons (TL.callV (Lin:=[Blk b1 [.slice A2 a0_0.length c3,VI a0_1,VI a0_2] 67]) (args:=[VP b1 0,.string (⟨#[123]⟩:ByteArray)]) rfl rfl rfl hbd43 rfl rfl (parse_parser_must.calls (a0_0:=a0_0) (a0_1:=a0_1) (a0_2:=a0_2) (a1:=(⟨#[123]⟩:ByteArray)) hr4 hl5 hy11) rfl ?_)
 rintro _ _ _ _ ⟨rfl,rfl,rfl⟩
 refine TL.nil ?_
 refine TQ.then_ ?_
 refine TC.seq ?_
 obtain ⟨o184,ho184,ko184⟩:=bind_no h
 clear h
 refine TC.tail (fun a W=>∃ (x178:Int) (x179:Int) (l180:(List S24)) (A181:Option Addr) (c182:Nat),(x178,x179,l180)=o184∧Fr 32 a [(0,VP b1 0),(4,VP b6 0),(5,VP b9 0)]∧Own G (Blk b1 [.slice A2 a0_0.length c3,VI x178,VI x179] 67::Blk b6 [VI 0,.string (⟨#[]⟩:ByteArray),VI 0,.slice none 0 0] 24::Blk b9 [VI 9,.string (⟨#[]⟩:ByteArray),VI y7,.slice A181 l180.length c182] 24::Row k24 24 (.slice A181 l180.length c182) l180::L) W) ?_ ?_
 ·
  rintro a W ⟨x178,x179,l180,A181,c182,rfl,hF,hO⟩
  have h:=ko184
  clear ko184 ho184
  refine TQ.use ?_ hF hO
  clear hF hO
  refine TQ.then_ ?_
  refine TC.seq ?_
  refine TC.region ?_
  refine TV rfl rfl rfl (Val.move rfl) ?_
  obtain ⟨y236,hy237,h⟩:=bind_no h
  refine TL.cons (TL.callV (Lin:=[Blk b1 [.slice A2 a0_0.length c3,VI x178,VI x179] 67]) (args:=[VP b1 0,.string (⟨#[125]⟩:ByteArray)]) rfl rfl rfl hbd43 rfl rfl (parse_parser_must.calls (a0_0:=a0_0) (a0_1:=x178) (a0_2:=x179) (a1:=(⟨#[125]⟩:ByteArray)) hr4 hl5 hy237) rfl ?_)
  rintro _ _ _ _ ⟨rfl,rfl,rfl⟩
  refine TL.nil ?_
  refine TQ.then_ ?_
  refine TC.seq ?_
  refine TC.region ?_
  refine TV rfl rfl rfl (Val.loadsB 2 (cs:=[VI 9,.string (⟨#[]⟩:ByteArray),VI y7,.slice A181 l180.length c182]) agg24 fsz24 rfl rfl rfl rfl) ?_
  refine TL.cons (TL.store 1 (ds:=[VI 9,.string (⟨#[]⟩:ByteArray),VI y7,.slice A181 l180.length c182]) (cs':=[VI 9,.string (⟨#[]⟩:ByteArray),VI y7,.slice A181 l180.length c182]) (L':=(Blk b1 [.slice A2 a0_0.length c3,VI y236.1,VI y236.2] 67::Blk b6 [VI 9,.string (⟨#[]⟩:ByteArray),VI y7,.slice A181 l180.length c182] 24::Blk b9 [VI 9,.string (⟨#[]⟩:ByteArray),VI y7,.slice A181 l180.length c182] 24::Row k24 24 (.slice A181 l180.length c182) l180::L)) rfl fsz24 rfl rfl rfl rfl rfl (Nat.le_of_ble_eq_true rfl) rfl rfl ?_)
  refine TL.nil ?_
  refine TQ.then_ ?_
  refine TC.ret ?_
  obtain rfl:=Option.some.inj h
  exact TQ.fin (.inl rfl) rfl Try.results49 (.cells 1 rfl rfl agg24 fsz24 .nil) rfl (FRel.mk (Ls:=[Blk b1 [.slice A2 a0_0.length c3,VI y236.1,VI y236.2] 67,Row k24 24 (.slice A181 l180.length c182) l180]) [0,3] 4 (Gd.le.refl _) rfl rfl rfl ⟨rfl,A181,c182,rfl,rfl⟩)
 ·
  refine TC.block ?_
  intro a W hF hO
  have hS:∃ (x122:Int) (x123:Int) (l124:(List S24)) (A125:Option Addr) (c126:Nat),parse_parser_block.l0 rec68 a0_0 a1 100000 x122 x123 l124=some o184∧Fr 32 a [(0,VP b1 0),(1,VI a1),(4,VP b6 0),(5,VP b9 0)]∧Own G (Blk b1 [.slice A2 a0_0.length c3,VI x122,VI x123] 67::Blk b6 [VI 0,.string (⟨#[]⟩:ByteArray),VI 0,.slice none 0 0] 24::Blk b9 [VI 9,.string (⟨#[]⟩:ByteArray),VI y7,.slice A125 l124.length c126] 24::Row k24 24 (.slice A125 l124.length c126) l124::L) W:=by
   exact ⟨y10.1,y10.2,[],none,0,ho184,hF.sub ⟨rfl,rfl,rfl,rfl,trivial⟩,(Own.nilRow k24 24 hO).selT (Ls:=[Blk b1 [.slice A2 a0_0.length c3,VI y10.1,VI y10.2] 67,Blk b6 [VI 0,.string (⟨#[]⟩:ByteArray),VI 0,.slice none 0 0] 24,Blk b9 [VI 9,.string (⟨#[]⟩:ByteArray),VI y7,.slice none ([]:List S24).length 0] 24,Row k24 24 (.slice none ([]:List S24).length 0) ([]:List S24)]) [1,3,2,0] 4 rfl rfl rfl⟩
  clear hF hO ho184 ko184
  refine TC.loop (fun n185 a W=>∃ (x122:Int) (x123:Int) (l124:(List S24)) (A125:Option Addr) (c126:Nat),parse_parser_block.l0 rec68 a0_0 a1 n185 x122 x123 l124=some o184∧Fr 32 a [(0,VP b1 0),(1,VI a1),(4,VP b6 0),(5,VP b9 0)]∧Own G (Blk b1 [.slice A2 a0_0.length c3,VI x122,VI x123] 67::Blk b6 [VI 0,.string (⟨#[]⟩:ByteArray),VI 0,.slice none 0 0] 24::Blk b9 [VI 9,.string (⟨#[]⟩:ByteArray),VI y7,.slice A125 l124.length c126] 24::Row k24 24 (.slice A125 l124.length c126) l124::L) W) ?_ ?_ hS
  ·
   rintro a W ⟨x122,x123,l124,A125,c126,h,hF,hO⟩
   exact none_no h
  ·
   clear hS
   rintro n185 a W ⟨x122,x123,l124,A125,c126,h,hF,hO⟩
   rw [parse_parser_block.l0] at h
   refine TC.use ?_ hF hO
   clear hF hO
   refine TC.seq ?_
   refine TC.seq ?_
   obtain ⟨j244,hj244,h⟩:=jn_no h
   refine TC.tail (fun a W=>∃ (x243:Bool),j244 x243=some o184∧Fr 32 a [(0,VP b1 0),(1,VI a1),(4,VP b6 0),(5,VP b9 0),(20,.bool x243)]∧Own G (Blk b1 [.slice A2 a0_0.length c3,VI x122,VI x123] 67::Blk b6 [VI 0,.string (⟨#[]⟩:ByteArray),VI 0,.slice none 0 0] 24::Blk b9 [VI 9,.string (⟨#[]⟩:ByteArray),VI y7,.slice A125 l124.length c126] 24::Row k24 24 (.slice A125 l124.length c126) l124::L) W) ?_ ?_
   ·
    rintro a W ⟨x243,h,hF,hO⟩
    rw [hj244] at h
    refine TQ.use ?_ hF hO
    clear hF hO
    refine TQ.then_ ?_
    refine TC.cond_b rfl h (fun hc246 h=>?_) (fun hc246 h=>?_)
    ·
     refine TC.skip ?_
     refine TQ.then_ ?_
     refine TC.block ?_
     refine TC.regionAnyS (L0:=(Blk b6 [VI 0,.string (⟨#[]⟩:ByteArray),VI 0,.slice none 0 0] 24::Blk b9 [VI 9,.string (⟨#[]⟩:ByteArray),VI y7,.slice A125 l124.length c126] 24::L)) [8] [0,1,2,3,7] mixed (by kernel_rfl) ?_
     refine TA.take 0 rfl (by kernel_rfl) rfl (PQ.inB (PQ.then_ (PQ.inB (PQ.then_ (PQ.then_ PQ.body))))) rfl (Val.fieldAddrB Try.underlying24 rfl fsz22 rfl rfl rfl) (fun W hO=>hO.selT (Ls:=[Blk b6 [VI 0,.string (⟨#[]⟩:ByteArray),VI 0,.slice none 0 0] 24,Blk b9 [VI 9,.string (⟨#[]⟩:ByteArray),VI y7,.slice A125 l124.length c126] 24]) [1,2] 4 rfl rfl rfl) ?_
     refine TA.take 1 rfl (by kernel_rfl) rfl (PQ.inB (PQ.then_ (PQ.inB (PQ.then_ (PQ.then_ PQ.body))))) rfl (Val.loadB 1 agg22 rfl rfl rfl) (fun W hO=>hO.selT (Ls:=[Blk b6 [VI 0,.string (⟨#[]⟩:ByteArray),VI 0,.slice none 0 0] 24,Blk b9 [VI 9,.string (⟨#[]⟩:ByteArray),VI y7,.slice A125 l124.length c126] 24]) [1,2] 4 rfl rfl rfl) ?_
     refine TA.take 2 rfl (by kernel_rfl) rfl (PQ.inB (PQ.then_ (PQ.inB (PQ.then_ (PQ.then_ PQ.body))))) rfl (Val.move rfl) (fun W hO=>hO.selT (Ls:=[Blk b6 [VI 0,.string (⟨#[]⟩:ByteArray),VI 0,.slice none 0 0] 24,Blk b9 [VI 9,.string (⟨#[]⟩:ByteArray),VI y7,.slice A125 l124.length c126] 24]) [1,2] 4 rfl rfl rfl) ?_
     refine TA.take 3 rfl (by kernel_rfl) rfl (PQ.inB (PQ.then_ (PQ.inB (PQ.then_ (PQ.then_ PQ.body))))) rfl (Val.move rfl) (fun W hO=>hO.selT (Ls:=[Blk b6 [VI 0,.string (⟨#[]⟩:ByteArray),VI 0,.slice none 0 0] 24,Blk b9 [VI 9,.string (⟨#[]⟩:ByteArray),VI y7,.slice A125 l124.length c126] 24]) [1,2] 4 rfl rfl rfl) ?_
     obtain ⟨y274,hy275,h⟩:=bind_no h
     refine TA.eff 4 rfl (by kernel_rfl) rfl (TL.callV (Lin:=[Blk b1 [.slice A2 a0_0.length c3,VI x122,VI x123] 67]) (args:=[VP b1 0,VI a1]) rfl rfl rfl hbd68 rfl rfl (ih68 (a0_0:=a0_0) (a0_1:=x122) (a0_2:=x123) (a1:=a1) hr4 hl5 hy275) rfl ?_)
     rintro _ _ _ _ ⟨rfl,A276,c277,rfl,rfl⟩
     refine TA.next (fun W hO=>hO.selT (Ls:=[Blk b6 [VI 0,.string (⟨#[]⟩:ByteArray),VI 0,.slice none 0 0] 24,Blk b9 [VI 9,.string (⟨#[]⟩:ByteArray),VI y7,.slice A125 l124.length c126] 24]) [2,3] 5 rfl rfl rfl) ?_
     refine TA.eff 5 rfl (by kernel_rfl) rfl (TL.buildSlice (xs:=[.tmp 25]) (vs:=[.agg #[VI y274.1.f0,.string y274.1.f1,VI y274.1.f2,.slice A276 y274.1.f3.length c277]]) (cs:=[VI y274.1.f0,.string y274.1.f1,VI y274.1.f2,.slice A276 y274.1.f3.length c277]) rfl rfl Try.underlying22 zs24 rfl rfl rfl rfl rfl rfl rfl rfl (fun b279=>?_))
     refine TA.next (fun W hO=>hO.selT (Ls:=[Blk b6 [VI 0,.string (⟨#[]⟩:ByteArray),VI 0,.slice none 0 0] 24,Blk b9 [VI 9,.string (⟨#[]⟩:ByteArray),VI y7,.slice A125 l124.length c126] 24]) [3,4] 6 rfl rfl rfl) ?_
     refine TK.sel (Ls:=[Row k24 24 (.slice A276 y274.1.f3.length c277) y274.1.f3,Blk b279 [VI y274.1.f0,.string y274.1.f1,VI y274.1.f2,.slice A276 y274.1.f3.length c277] 24,Blk b1 [.slice A2 a0_0.length c3,VI y274.2.1,VI y274.2.2] 67,Blk b6 [VI 0,.string (⟨#[]⟩:ByteArray),VI 0,.slice none 0 0] 24,Blk b9 [VI 9,.string (⟨#[]⟩:ByteArray),VI y7,.slice A125 l124.length c126] 24,Row k24 24 (.slice A125 l124.length c126) l124]) [2,0,1,3,4,5] 6 rfl rfl rfl ?_
     refine TK.conv (ch':=El k24 y274.1 [VI y274.1.f0,.string y274.1.f1,VI y274.1.f2,.slice A276 y274.1.f3.length c277]) (fun B W F hh=>k24_mkM W B F y274.1 hh) ?_
     refine TK.sel (Ls:=[Row k24 24 (.slice A125 l124.length c126) l124,El k24 y274.1 [VI y274.1.f0,.string y274.1.f1,VI y274.1.f2,.slice A276 y274.1.f3.length c277],Blk b279 [VI y274.1.f0,.string y274.1.f1,VI y274.1.f2,.slice A276 y274.1.f3.length c277] 24,Blk b1 [.slice A2 a0_0.length c3,VI y274.2.1,VI y274.2.2] 67,Blk b6 [VI 0,.string (⟨#[]⟩:ByteArray),VI 0,.slice none 0 0] 24,Blk b9 [VI 9,.string (⟨#[]⟩:ByteArray),VI y7,.slice A125 l124.length c126] 24]) [5,0,1,2,3,4] 6 rfl rfl rfl ?_
     obtain ⟨ha280,h⟩:=ite_no h
     refine TA.eff 6 rfl (by kernel_rfl) rfl (TL.append (xs:=l124) k24 rfl rfl Try.underlying22 inf24 rfl (Nat.le_of_ble_eq_true rfl) (Nat.le_of_ble_eq_true rfl) rfl rfl (by omega) (fun A281 c282=>?_))
     refine TA.next (fun W hO=>hO.selT (Ls:=[Blk b6 [VI 0,.string (⟨#[]⟩:ByteArray),VI 0,.slice none 0 0] 24,Blk b9 [VI 9,.string (⟨#[]⟩:ByteArray),VI y7,.slice A125 l124.length c126] 24]) [2,3] 4 rfl rfl rfl) ?_
     refine TA.take 7 rfl (by kernel_rfl) rfl (PQ.inB (PQ.then_ (PQ.inB (PQ.then_ (PQ.then_ PQ.body))))) rfl (Val.fieldAddrB Try.underlying24 rfl fsz22 rfl rfl rfl) (fun W hO=>hO.selT (Ls:=[Blk b6 [VI 0,.string (⟨#[]⟩:ByteArray),VI 0,.slice none 0 0] 24,Blk b9 [VI 9,.string (⟨#[]⟩:ByteArray),VI y7,.slice A125 l124.length c126] 24]) [2,3] 4 rfl rfl rfl) ?_
     refine TA.eff 8 rfl (by kernel_rfl) rfl (TL.store 3 (ds:=[.slice A281 (l124 ++ [y274.1]).length c282]) (cs':=[VI 9,.string (⟨#[]⟩:ByteArray),VI y7,.slice A281 (l124 ++ [y274.1]).length c282]) (L':=(Row k24 24 (.slice A281 (l124 ++ [y274.1]).length c282) (l124 ++ [y274.1])::Blk b1 [.slice A2 a0_0.length c3,VI y274.2.1,VI y274.2.2] 67::Blk b6 [VI 0,.string (⟨#[]⟩:ByteArray),VI 0,.slice none 0 0] 24::Blk b9 [VI 9,.string (⟨#[]⟩:ByteArray),VI y7,.slice A281 (l124 ++ [y274.1]).length c282] 24::L)) rfl fsz22 rfl rfl rfl rfl rfl (Nat.le_of_ble_eq_true rfl) rfl rfl ?_)
     refine TA.last rfl ?_
     refine TA.done (by kernel_rfl) ?_
     refine TQ.inB ?_
     exact fun a W hF hO=>⟨y274.2.1,y274.2.2,(l124 ++ [y274.1]),A281,c282,h,hF.sub ⟨rfl,rfl,rfl,rfl,trivial⟩,hO.selT (Ls:=[Blk b1 [.slice A2 a0_0.length c3,VI y274.2.1,VI y274.2.2] 67,Blk b6 [VI 0,.string (⟨#[]⟩:ByteArray),VI 0,.slice none 0 0] 24,Blk b9 [VI 9,.string (⟨#[]⟩:ByteArray),VI y7,.slice A281 (l124 ++ [y274.1]).length c282] 24,Row k24 24 (.slice A281 (l124 ++ [y274.1]).length c282) (l124 ++ [y274.1])]) [1,2,3,0] 4 rfl rfl rfl⟩
    ·
     refine TC.exit ?_
     refine TQ.thenX ?_
     refine TQ.thenX ?_
     refine TQ.inBX ?_
     exact fun a W hF hO=>⟨x122,x123,l124,A125,c126,Option.some.inj h,hF.sub ⟨rfl,rfl,rfl,trivial⟩,hO.selT (Ls:=[Blk b1 [.slice A2 a0_0.length c3,VI x122,VI x123] 67,Blk b6 [VI 0,.string (⟨#[]⟩:ByteArray),VI 0,.slice none 0 0] 24,Blk b9 [VI 9,.string (⟨#[]⟩:ByteArray),VI y7,.slice A125 l124.length c126] 24,Row k24 24 (.slice A125 l124.length c126) l124]) [0,1,2,3] 4 rfl rfl rfl⟩
   ·
    refine TC.region ?_
    refine TV rfl rfl rfl (Val.move rfl) ?_
    refine TV rfl rfl rfl (Val.nilCheck rfl) ?_
    refine TV rfl rfl rfl (Val.fieldAddrB Try.underlying67 rfl fsz33 rfl rfl rfl) ?_
    refine TV rfl rfl rfl (Val.loadB 0 agg33 rfl rfl rfl) ?_
    refine TV rfl rfl rfl (Val.cmp rfl rfl run_eql) ?_
    refine TV rfl rfl rfl (Val.move rfl) ?_
    refine TK.split (p:=x123=0) h (fun hg283 h=>?_) (fun hg283 h=>?_)
    ·
     have hk284:decide (x123=0)=true:=decide_eq_true hg283
     refine TV (Wt.yes rfl rfl rfl hk284) rfl rfl (Val.move rfl) ?_
     obtain ⟨y285,hy286,h⟩:=bind_no h
     refine TL.cons (TL.callV (Lin:=[Blk b1 [.slice A2 a0_0.length c3,VI x122,VI x123] 67]) (args:=[VP b1 0]) (Wt.yes rfl rfl rfl hk284) rfl rfl hbd45 rfl rfl (parse_parser_fixed.calls (a0_0:=a0_0) (a0_1:=x122) (a0_2:=x123) hr4 hl5 hy286) rfl ?_)
     rintro _ _ _ _ ⟨rfl,rfl,rfl⟩
     refine TV (Wt.yes rfl rfl rfl hk284) rfl rfl (Val.neT rfl rfl) ?_
     refine TV rfl rfl rfl (Val.pickY rfl hk284 rfl) ?_
     refine TL.nil ?_
     exact fun a W hF hO=>⟨(!(y285.data.toList == (⟨#[125]⟩:ByteArray).data.toList)),h,hF.sub ⟨rfl,rfl,rfl,rfl,rfl,trivial⟩,hO.selT (Ls:=[Blk b1 [.slice A2 a0_0.length c3,VI x122,VI x123] 67,Blk b6 [VI 0,.string (⟨#[]⟩:ByteArray),VI 0,.slice none 0 0] 24,Blk b9 [VI 9,.string (⟨#[]⟩:ByteArray),VI y7,.slice A125 l124.length c126] 24,Row k24 24 (.slice A125 l124.length c126) l124]) [0,1,2,3] 4 rfl rfl rfl⟩
    ·
     have hk287:decide (x123=0)=false:=decide_eq_false hg283
     refine TL.cons (TL.not (Wt.no rfl rfl rfl hk287) rfl ?_)
     refine TL.cons (TL.not (Wt.no rfl rfl rfl hk287) rfl ?_)
     refine TL.cons (TL.not (Wt.no rfl rfl rfl hk287) rfl ?_)
     refine TV rfl rfl rfl (Val.pickN rfl hk287 rfl) ?_
     refine TL.nil ?_
     exact fun a W hF hO=>⟨false,h,hF.sub ⟨rfl,rfl,rfl,rfl,rfl,trivial⟩,hO.selT (Ls:=[Blk b1 [.slice A2 a0_0.length c3,VI x122,VI x123] 67,Blk b6 [VI 0,.string (⟨#[]⟩:ByteArray),VI 0,.slice none 0 0] 24,Blk b9 [VI 9,.string (⟨#[]⟩:ByteArray),VI y7,.slice A125 l124.length c126] 24,Row k24 24 (.slice A125 l124.length c126) l124]) [0,1,2,3] 4 rfl rfl rfl⟩
def parse_parser_statement.g (rec49:((List S41) → Int → Int → Int → Option (S24 × Int × Int))) (rec68:((List S41) → Int → Int → Int → Option (S24 × Int × Int))) (rec71:((List S41) → Int → Int → S24 → Int → Option (S24 × Int × Int))) (a0_0:(List S41)) (a0_1:Int) (a0_2:Int) (a1:Int):Option (S24 × Int × Int):=(parse_parser_start.f a0_0 a0_1 a0_2).bind fun (y7:Int)=>(parse_parser_may.f a0_0 a0_1 a0_2 a1).bind fun (y10:(Bool × Int))=>(if (!y10.1)=true then some ((⟨0,(⟨#[]⟩:ByteArray),y7,([]:List S24)⟩:S24),a0_1,y10.2) else (parse_parser_take.f a0_0 a0_1 y10.2 (⟨#[105,102]⟩:ByteArray)).bind fun (y253:(Bool × Int))=>jn (γ:=(S24 × Int × Int)) (fun (x306:Int) (x307:Int) (x308:Int) (x309:ByteArray) (x310:Int) (l311:(List S24))=>(parse_parser_must.f a0_0 x306 x307 (⟨#[59]⟩:ByteArray)).bind fun (y316:(Int × Int))=>some ((⟨x308,x309,x310,l311⟩:S24),y316.1,y316.2)) (fun (j315:(Int → Int → Int → ByteArray → Int → (List S24) → Option (S24 × Int × Int)))=>(if y253.1=true then (rec71 a0_0 y253.2 y10.2 (⟨12,(⟨#[]⟩:ByteArray),y7,([]:List S24)⟩:S24) a1).bind fun (y319:(S24 × Int × Int))=>some (y319.1,y319.2.1,y319.2.2) else (parse_parser_take.f a0_0 y253.2 y10.2 (⟨#[102,111,114]⟩:ByteArray)).bind fun (y324:(Bool × Int))=>(if y324.1=true then (rec71 a0_0 y324.2 y10.2 (⟨13,(⟨#[]⟩:ByteArray),y7,([]:List S24)⟩:S24) a1).bind fun (y370:(S24 × Int × Int))=>some (y370.1,y370.2.1,y370.2.2) else (parse_parser_take.f a0_0 y324.2 y10.2 (⟨#[118,97,114]⟩:ByteArray)).bind fun (y375:(Bool × Int))=>(if y375.1=true then (parse_parser_text.f a0_0 y375.2 y10.2 1).bind fun (y413:(ByteArray × Int × Int))=>(parse_parser_typ.f a0_0 y413.2.1 y413.2.2 (IntKind.i64.wrap (a1 + 1))).bind fun (y415:(S24 × Int × Int))=>j315 y415.2.1 y415.2.2 10 y413.1 y7 ([y415.1]:List S24) else (parse_parser_take.f a0_0 y375.2 y10.2 (⟨#[114,101,116,117,114,110]⟩:ByteArray)).bind fun (y422:(Bool × Int))=>(if y422.1=true then (parse_parser_fixed.f a0_0 y422.2 y10.2).bind fun (y449:ByteArray)=>(if (!(y449.data.toList == (⟨#[59]⟩:ByteArray).data.toList))=true then (parse_parser_expr.f a0_0 y422.2 y10.2 (IntKind.i64.wrap (a1 + 1))).bind fun (y459:(S24 × Int × Int))=>j315 y459.2.1 y459.2.2 14 (⟨#[]⟩:ByteArray) y7 ([y459.1]:List S24) else j315 y422.2 y10.2 14 (⟨#[]⟩:ByteArray) y7 []) else (parse_parser_take.f a0_0 y422.2 y10.2 (⟨#[112,114,105,110,116]⟩:ByteArray)).bind fun (y466:(Bool × Int))=>(if y466.1=true then (parse_parser_expr.f a0_0 y466.2 y10.2 (IntKind.i64.wrap (a1 + 1))).bind fun (y481:(S24 × Int × Int))=>j315 y481.2.1 y481.2.2 15 (⟨#[]⟩:ByteArray) y7 ([y481.1]:List S24) else (parse_parser_simple.f a0_0 y466.2 y10.2 (⟨0,(⟨#[]⟩:ByteArray),y7,([]:List S24)⟩:S24) a1).bind fun (y488:(S24 × Int × Int))=>j315 y488.2.1 y488.2.2 y488.1.f0 y488.1.f1 y488.1.f2 y488.1.f3)))))))
theorem parse_parser_statement.step (rec49:((List S41) → Int → Int → Int → Option (S24 × Int × Int))) (rec68:((List S41) → Int → Int → Int → Option (S24 × Int × Int))) (rec71:((List S41) → Int → Int → S24 → Int → Option (S24 × Int × Int))) (ih49:∀ {G:Gd} {r:(S24 × Int × Int)} {a0_0:(List S41)} {a0_1:Int} {a0_2:Int} {a1:Int} {b1:Nat} {A2:Option Addr} {c3:Nat} (hr4:Rd G k41 A2 a0_0) (hl5:a0_0.length ≤ c3),rec49 a0_0 a0_1 a0_2 a1=some r → Fn Try.prog 49 G [Blk b1 [.slice A2 a0_0.length c3,VI a0_1,VI a0_2] 67] [VP b1 0,VI a1] (parse_parser_block.post G b1 A2 c3 a0_0 a0_1 a0_2 a1 r)) (ih68:∀ {G:Gd} {r:(S24 × Int × Int)} {a0_0:(List S41)} {a0_1:Int} {a0_2:Int} {a1:Int} {b1:Nat} {A2:Option Addr} {c3:Nat} (hr4:Rd G k41 A2 a0_0) (hl5:a0_0.length ≤ c3),rec68 a0_0 a0_1 a0_2 a1=some r → Fn Try.prog 68 G [Blk b1 [.slice A2 a0_0.length c3,VI a0_1,VI a0_2] 67] [VP b1 0,VI a1] (parse_parser_statement.post G b1 A2 c3 a0_0 a0_1 a0_2 a1 r)) (ih71:∀ {G:Gd} {r:(S24 × Int × Int)} {a0_0:(List S41)} {a0_1:Int} {a0_2:Int} {a1:S24} {a2:Int} {b1:Nat} {A2:Option Addr} {c3:Nat} {A6:Option Addr} {c7:Nat} (hr4:Rd G k41 A2 a0_0) (hl5:a0_0.length ≤ c3) (hr8:Rd G k24 A6 a1.f3) (hl9:a1.f3.length ≤ c7),rec71 a0_0 a0_1 a0_2 a1 a2=some r → Fn Try.prog 71 G [Blk b1 [.slice A2 a0_0.length c3,VI a0_1,VI a0_2] 67] [VP b1 0,.agg #[VI a1.f0,.string a1.f1,VI a1.f2,.slice A6 a1.f3.length c7],VI a2] (parse_parser_branches.post G b1 A2 c3 A6 c7 a0_0 a0_1 a0_2 a1 a2 r)) {G:Gd} {r:(S24 × Int × Int)} {a0_0:(List S41)} {a0_1:Int} {a0_2:Int} {a1:Int} {b1:Nat} {A2:Option Addr} {c3:Nat} (hr4:Rd G k41 A2 a0_0) (hl5:a0_0.length ≤ c3) (h:parse_parser_statement.g rec49 rec68 rec71 a0_0 a0_1 a0_2 a1=some r):Fn Try.prog 68 G [Blk b1 [.slice A2 a0_0.length c3,VI a0_1,VI a0_2] 67] [VP b1 0,VI a1] (parse_parser_statement.post G b1 A2 c3 a0_0 a0_1 a0_2 a1 r):=by
 refine Fn.intro (e:=[(0,VP b1 0),(1,VI a1)]) 73 Try.func68 rfl Try.ntmps68 rfl rfl (Nat.le_of_ble_eq_true rfl) (fun L=>?_)
 unfold parse_parser_statement.g at h
 refine TC.seq ?_
 refine TC.region ?_
 refine TL.cons (TL.alloc (cs:=[VI 0,.string (⟨#[]⟩:ByteArray),VI 0,.slice none 0 0]) rfl rfl zr24 rfl (fun b6=>?_))
 refine TL.nil ?_
 refine TQ.then_ ?_
 refine TC.seq ?_
 refine TC.region ?_
 refine TV rfl rfl rfl (Val.move rfl) ?_
 refine TK.sel (Ls:=[Blk b1 [.slice A2 a0_0.length c3,VI a0_1,VI a0_2] 67,Blk b6 [VI 0,.string (⟨#[]⟩:ByteArray),VI 0,.slice none 0 0] 24]) [1,0] 2 rfl rfl rfl ?_
 obtain ⟨y7,hy8,h⟩:=bind_no h
 refine TL.cons (TL.callV (Lin:=[Blk b1 [.slice A2 a0_0.length c3,VI a0_1,VI a0_2] 67]) (args:=[VP b1 0]) rfl rfl rfl hbd29 rfl rfl (parse_parser_start.calls (a0_0:=a0_0) (a0_1:=a0_1) (a0_2:=a0_2) hr4 hl5 hy8) rfl ?_)
 rintro _ _ _ _ ⟨rfl,rfl,rfl⟩
 refine TV rfl rfl rfl (Val.build (cs:=[VI 0,.string (⟨#[]⟩:ByteArray),VI y7,.slice none 0 0]) (is:=[2]) (xs:=[.tmp 7]) Try.underlying24 zr24 bld24 rfl rfl rfl rfl) ?_
 refine TL.cons (TL.alloc (cs:=[VI 0,.string (⟨#[]⟩:ByteArray),VI 0,.slice none 0 0]) rfl rfl zr24 rfl (fun b9=>?_))
 refine TL.cons (TL.store 0 (ds:=[VI 0,.string (⟨#[]⟩:ByteArray),VI y7,.slice none 0 0]) (cs':=[VI 0,.string (⟨#[]⟩:ByteArray),VI y7,.slice none 0 0]) (L':=(Blk b9 [VI 0,.string (⟨#[]⟩:ByteArray),VI y7,.slice none 0 0] 24::Blk b1 [.slice A2 a0_0.length c3,VI a0_1,VI a0_2] 67::Blk b6 [VI 0,.string (⟨#[]⟩:ByteArray),VI 0,.slice none 0 0] 24::L)) rfl fsz24 rfl rfl rfl rfl rfl (Nat.le_of_ble_eq_true rfl) rfl rfl ?_)
 refine TL.nil ?_
 refine TQ.then_ ?_
 refine TC.seq ?_
 refine TC.seq ?_
 refine TC.region ?_
 refine TV rfl rfl rfl (Val.move rfl) ?_
 refine TV rfl rfl rfl (Val.move rfl) ?_
 refine TK.sel (Ls:=[Blk b1 [.slice A2 a0_0.length c3,VI a0_1,VI a0_2] 67,Blk b9 [VI 0,.string (⟨#[]⟩:ByteArray),VI y7,.slice none 0 0] 24,Blk b6 [VI 0,.string (⟨#[]⟩:ByteArray),VI 0,.slice none 0 0] 24]) [1,0,2] 3 rfl rfl rfl ?_
 obtain ⟨y10,hy11,h⟩:=bind_no h
 refine TL.cons (TL.callV (Lin:=[Blk b1 [.slice A2 a0_0.length c3,VI a0_1,VI a0_2] 67]) (args:=[VP b1 0,VI a1]) rfl rfl rfl hbd66 rfl rfl (parse_parser_may.calls (a0_0:=a0_0) (a0_1:=a0_1) (a0_2:=a0_2) (a1:=a1) hr4 hl5 hy11) rfl ?_)
 rintro _ _ _ _ ⟨rfl,rfl,rfl⟩
 refine TV rfl rfl rfl (Val.not_ rfl) ?_
 refine TL.nil ?_
 refine TQ.then_ ?_
 refine TC.cond_b rfl h (fun hc13 h=>?_) (fun hc13 h=>?_)
 ·
  refine TC.seq ?_
  refine TC.region ?_
  refine TV rfl rfl rfl (Val.loadsB 1 (cs:=[VI 0,.string (⟨#[]⟩:ByteArray),VI y7,.slice none 0 0]) agg24 fsz24 rfl rfl rfl rfl) ?_
  refine TL.cons (TL.store 2 (ds:=[VI 0,.string (⟨#[]⟩:ByteArray),VI y7,.slice none 0 0]) (cs':=[VI 0,.string (⟨#[]⟩:ByteArray),VI y7,.slice none 0 0]) (L':=(Blk b1 [.slice A2 a0_0.length c3,VI a0_1,VI y10.2] 67::Blk b9 [VI 0,.string (⟨#[]⟩:ByteArray),VI y7,.slice none 0 0] 24::Blk b6 [VI 0,.string (⟨#[]⟩:ByteArray),VI y7,.slice none 0 0] 24::L)) rfl fsz24 rfl rfl rfl rfl rfl (Nat.le_of_ble_eq_true rfl) rfl rfl ?_)
  refine TL.nil ?_
  refine TQ.then_ ?_
  refine TC.ret ?_
  refine TQ.thenR ?_
  refine TQ.nilRow k24 24 ?_
  obtain rfl:=Option.some.inj h
  exact TQ.fin (.inl rfl) rfl Try.results68 (.cells 3 rfl rfl agg24 fsz24 .nil) rfl (FRel.mk (Ls:=[Blk b1 [.slice A2 a0_0.length c3,VI a0_1,VI y10.2] 67,Row k24 24 (.slice none 0 0) ([]:List S24)]) [1,0] 4 (Gd.le.refl _) rfl rfl rfl ⟨rfl,none,0,rfl,rfl⟩)
 ·
  refine TC.skip ?_
  refine TQ.then_ ?_
  refine TC.seq ?_
  refine TC.block ?_
  refine TC.seq ?_
  refine TC.region ?_
  refine TV rfl rfl rfl (Val.move rfl) ?_
  obtain ⟨y253,hy254,h⟩:=bind_no h
  refine TL.cons (TL.callV (Lin:=[Blk b1 [.slice A2 a0_0.length c3,VI a0_1,VI y10.2] 67]) (args:=[VP b1 0,.string (⟨#[105,102]⟩:ByteArray)]) rfl rfl rfl hbd62 rfl rfl (parse_parser_take.calls (a0_0:=a0_0) (a0_1:=a0_1) (a0_2:=y10.2) (a1:=(⟨#[105,102]⟩:ByteArray)) hr4 hl5 hy254) rfl ?_)
  rintro _ _ _ _ ⟨rfl,rfl,rfl⟩
  refine TV rfl rfl rfl (Val.assign rfl) ?_
  refine TL.nil ?_
  refine TQ.then_ ?_
  obtain ⟨j315,hj315,h⟩:=jn_no h
  refine TC.tail (fun a W=>∃ (x306:Int) (x307:Int) (x308:Int) (x309:ByteArray) (x310:Int) (l311:(List S24)) (A312:Option Addr) (c313:Nat),j315 x306 x307 x308 x309 x310 l311=some r∧Fr 73 a [(0,VP b1 0),(4,VP b6 0),(5,VP b9 0)]∧Own G (Blk b1 [.slice A2 a0_0.length c3,VI x306,VI x307] 67::Blk b6 [VI 0,.string (⟨#[]⟩:ByteArray),VI 0,.slice none 0 0] 24::Blk b9 [VI x308,.string x309,VI x310,.slice A312 l311.length c313] 24::Row k24 24 (.slice A312 l311.length c313) l311::L) W) ?_ ?_
  ·
   rintro a W ⟨x306,x307,x308,x309,x310,l311,A312,c313,h,hF,hO⟩
   rw [hj315] at h
   refine TQ.use ?_ hF hO
   clear hF hO
   refine TQ.inB ?_
   refine TQ.then_ ?_
   refine TC.seq ?_
   refine TC.region ?_
   refine TV rfl rfl rfl (Val.move rfl) ?_
   obtain ⟨y316,hy317,h⟩:=bind_no h
   refine TL.cons (TL.callV (Lin:=[Blk b1 [.slice A2 a0_0.length c3,VI x306,VI x307] 67]) (args:=[VP b1 0,.string (⟨#[59]⟩:ByteArray)]) rfl rfl rfl hbd43 rfl rfl (parse_parser_must.calls (a0_0:=a0_0) (a0_1:=x306) (a0_2:=x307) (a1:=(⟨#[59]⟩:ByteArray)) hr4 hl5 hy317) rfl ?_)
   rintro _ _ _ _ ⟨rfl,rfl,rfl⟩
   refine TL.nil ?_
   refine TQ.then_ ?_
   refine TC.seq ?_
   refine TC.region ?_
   refine TV rfl rfl rfl (Val.loadsB 2 (cs:=[VI x308,.string x309,VI x310,.slice A312 l311.length c313]) agg24 fsz24 rfl rfl rfl rfl) ?_
   refine TL.cons (TL.store 1 (ds:=[VI x308,.string x309,VI x310,.slice A312 l311.length c313]) (cs':=[VI x308,.string x309,VI x310,.slice A312 l311.length c313]) (L':=(Blk b1 [.slice A2 a0_0.length c3,VI y316.1,VI y316.2] 67::Blk b6 [VI x308,.string x309,VI x310,.slice A312 l311.length c313] 24::Blk b9 [VI x308,.string x309,VI x310,.slice A312 l311.length c313] 24::Row k24 24 (.slice A312 l311.length c313) l311::L)) rfl fsz24 rfl rfl rfl rfl rfl (Nat.le_of_ble_eq_true rfl) rfl rfl ?_)
   refine TL.nil ?_
   refine TQ.then_ ?_
   refine TC.ret ?_
   obtain rfl:=Option.some.inj h
   exact TQ.fin (.inl rfl) rfl Try.results68 (.cells 1 rfl rfl agg24 fsz24 .nil) rfl (FRel.mk (Ls:=[Blk b1 [.slice A2 a0_0.length c3,VI y316.1,VI y316.2] 67,Row k24 24 (.slice A312 l311.length c313) l311]) [0,3] 4 (Gd.le.refl _) rfl rfl rfl ⟨rfl,A312,c313,rfl,rfl⟩)
  ·
   refine TC.cond_b rfl h (fun hc318 h=>?_) (fun hc318 h=>?_)
   ·
    refine TC.seq ?_
    refine TC.region ?_
    refine TV rfl rfl rfl (Val.fieldAddrB Try.underlying24 rfl fsz3 rfl rfl rfl) ?_
    refine TL.cons (TL.store 1 (ds:=[VI 12]) (cs':=[VI 12,.string (⟨#[]⟩:ByteArray),VI y7,.slice none 0 0]) (L':=(Blk b1 [.slice A2 a0_0.length c3,VI y253.2,VI y10.2] 67::Blk b9 [VI 12,.string (⟨#[]⟩:ByteArray),VI y7,.slice none 0 0] 24::Blk b6 [VI 0,.string (⟨#[]⟩:ByteArray),VI 0,.slice none 0 0] 24::L)) rfl fsz3 rfl rfl rfl rfl rfl (Nat.le_of_ble_eq_true rfl) rfl rfl ?_)
    refine TL.nil ?_
    refine TQ.then_ ?_
    refine TC.seq ?_
    refine TC.region ?_
    refine TV rfl rfl rfl (Val.move rfl) ?_
    refine TV rfl rfl rfl (Val.loadsB 1 (cs:=[VI 12,.string (⟨#[]⟩:ByteArray),VI y7,.slice none 0 0]) agg24 fsz24 rfl rfl rfl rfl) ?_
    refine TV rfl rfl rfl (Val.move rfl) ?_
    obtain ⟨y319,hy320,h⟩:=bind_no h
    refine TL.cons (TL.callV (Lin:=[Blk b1 [.slice A2 a0_0.length c3,VI y253.2,VI y10.2] 67]) (args:=[VP b1 0,.agg #[VI 12,.string (⟨#[]⟩:ByteArray),VI y7,.slice none 0 0],VI a1]) rfl rfl rfl hbd71 rfl rfl (ih71 (a0_0:=a0_0) (a0_1:=y253.2) (a0_2:=y10.2) (a1:=(⟨12,(⟨#[]⟩:ByteArray),y7,([]:List S24)⟩:S24)) (a2:=a1) hr4 hl5 (Rd.nil _ _) (Nat.le_refl 0) hy320) rfl ?_)
    rintro _ _ _ _ ⟨rfl,A321,c322,rfl,rfl⟩
    refine TL.cons (TL.store 3 (ds:=[VI y319.1.f0,.string y319.1.f1,VI y319.1.f2,.slice A321 y319.1.f3.length c322]) (cs':=[VI y319.1.f0,.string y319.1.f1,VI y319.1.f2,.slice A321 y319.1.f3.length c322]) (L':=(Blk b1 [.slice A2 a0_0.length c3,VI y319.2.1,VI y319.2.2] 67::Row k24 24 (.slice A321 y319.1.f3.length c322) y319.1.f3::Blk b9 [VI 12,.string (⟨#[]⟩:ByteArray),VI y7,.slice none 0 0] 24::Blk b6 [VI y319.1.f0,.string y319.1.f1,VI y319.1.f2,.slice A321 y319.1.f3.length c322] 24::L)) rfl fsz24 rfl rfl rfl rfl rfl (Nat.le_of_ble_eq_true rfl) rfl rfl ?_)
    refine TL.nil ?_
    refine TQ.then_ ?_
    refine TC.ret ?_
    refine TQ.thenR ?_
    refine TQ.inBR ?_
    refine TQ.thenR ?_
    obtain rfl:=Option.some.inj h
    exact TQ.fin (.inl rfl) rfl Try.results68 (.cells 3 rfl rfl agg24 fsz24 .nil) rfl (FRel.mk (Ls:=[Blk b1 [.slice A2 a0_0.length c3,VI y319.2.1,VI y319.2.2] 67,Row k24 24 (.slice A321 y319.1.f3.length c322) y319.1.f3]) [0,1] 4 (Gd.le.refl _) rfl rfl rfl ⟨rfl,A321,c322,rfl,rfl⟩)
   ·
    refine TC.seq ?_
    refine TC.region ?_
    refine TV rfl rfl rfl (Val.move rfl) ?_
    obtain ⟨y324,hy325,h⟩:=bind_no h
    refine TL.cons (TL.callV (Lin:=[Blk b1 [.slice A2 a0_0.length c3,VI y253.2,VI y10.2] 67]) (args:=[VP b1 0,.string (⟨#[102,111,114]⟩:ByteArray)]) rfl rfl rfl hbd62 rfl rfl (parse_parser_take.calls (a0_0:=a0_0) (a0_1:=y253.2) (a0_2:=y10.2) (a1:=(⟨#[102,111,114]⟩:ByteArray)) hr4 hl5 hy325) rfl ?_)
    rintro _ _ _ _ ⟨rfl,rfl,rfl⟩
    refine TV rfl rfl rfl (Val.assign rfl) ?_
    refine TL.nil ?_
    refine TQ.then_ ?_
    refine TC.cond_b rfl h (fun hc369 h=>?_) (fun hc369 h=>?_)
    ·
     refine TC.seq ?_
     refine TC.region ?_
     refine TV rfl rfl rfl (Val.fieldAddrB Try.underlying24 rfl fsz3 rfl rfl rfl) ?_
     refine TL.cons (TL.store 1 (ds:=[VI 13]) (cs':=[VI 13,.string (⟨#[]⟩:ByteArray),VI y7,.slice none 0 0]) (L':=(Blk b1 [.slice A2 a0_0.length c3,VI y324.2,VI y10.2] 67::Blk b9 [VI 13,.string (⟨#[]⟩:ByteArray),VI y7,.slice none 0 0] 24::Blk b6 [VI 0,.string (⟨#[]⟩:ByteArray),VI 0,.slice none 0 0] 24::L)) rfl fsz3 rfl rfl rfl rfl rfl (Nat.le_of_ble_eq_true rfl) rfl rfl ?_)
     refine TL.nil ?_
     refine TQ.then_ ?_
     refine TC.seq ?_
     refine TC.region ?_
     refine TV rfl rfl rfl (Val.move rfl) ?_
     refine TV rfl rfl rfl (Val.loadsB 1 (cs:=[VI 13,.string (⟨#[]⟩:ByteArray),VI y7,.slice none 0 0]) agg24 fsz24 rfl rfl rfl rfl) ?_
     refine TV rfl rfl rfl (Val.move rfl) ?_
     obtain ⟨y370,hy371,h⟩:=bind_no h
     refine TL.cons (TL.callV (Lin:=[Blk b1 [.slice A2 a0_0.length c3,VI y324.2,VI y10.2] 67]) (args:=[VP b1 0,.agg #[VI 13,.string (⟨#[]⟩:ByteArray),VI y7,.slice none 0 0],VI a1]) rfl rfl rfl hbd71 rfl rfl (ih71 (a0_0:=a0_0) (a0_1:=y324.2) (a0_2:=y10.2) (a1:=(⟨13,(⟨#[]⟩:ByteArray),y7,([]:List S24)⟩:S24)) (a2:=a1) hr4 hl5 (Rd.nil _ _) (Nat.le_refl 0) hy371) rfl ?_)
     rintro _ _ _ _ ⟨rfl,A372,c373,rfl,rfl⟩
     refine TL.cons (TL.store 3 (ds:=[VI y370.1.f0,.string y370.1.f1,VI y370.1.f2,.slice A372 y370.1.f3.length c373]) (cs':=[VI y370.1.f0,.string y370.1.f1,VI y370.1.f2,.slice A372 y370.1.f3.length c373]) (L':=(Blk b1 [.slice A2 a0_0.length c3,VI y370.2.1,VI y370.2.2] 67::Row k24 24 (.slice A372 y370.1.f3.length c373) y370.1.f3::Blk b9 [VI 13,.string (⟨#[]⟩:ByteArray),VI y7,.slice none 0 0] 24::Blk b6 [VI y370.1.f0,.string y370.1.f1,VI y370.1.f2,.slice A372 y370.1.f3.length c373] 24::L)) rfl fsz24 rfl rfl rfl rfl rfl (Nat.le_of_ble_eq_true rfl) rfl rfl ?_)
     refine TL.nil ?_
     refine TQ.then_ ?_
     refine TC.ret ?_
     refine TQ.thenR ?_
     refine TQ.inBR ?_
     refine TQ.thenR ?_
     obtain rfl:=Option.some.inj h
     exact TQ.fin (.inl rfl) rfl Try.results68 (.cells 3 rfl rfl agg24 fsz24 .nil) rfl (FRel.mk (Ls:=[Blk b1 [.slice A2 a0_0.length c3,VI y370.2.1,VI y370.2.2] 67,Row k24 24 (.slice A372 y370.1.f3.length c373) y370.1.f3]) [0,1] 4 (Gd.le.refl _) rfl rfl rfl ⟨rfl,A372,c373,rfl,rfl⟩)
    ·
     refine TC.seq ?_
     refine TC.region ?_
     refine TV rfl rfl rfl (Val.move rfl) ?_
     obtain ⟨y375,hy376,h⟩:=bind_no h
     refine TL.cons (TL.callV (Lin:=[Blk b1 [.slice A2 a0_0.length c3,VI y324.2,VI y10.2] 67]) (args:=[VP b1 0,.string (⟨#[118,97,114]⟩:ByteArray)]) rfl rfl rfl hbd62 rfl rfl (parse_parser_take.calls (a0_0:=a0_0) (a0_1:=y324.2) (a0_2:=y10.2) (a1:=(⟨#[118,97,114]⟩:ByteArray)) hr4 hl5 hy376) rfl ?_)
     rintro _ _ _ _ ⟨rfl,rfl,rfl⟩
     refine TV rfl rfl rfl (Val.assign rfl) ?_
     refine TL.nil ?_
     refine TQ.then_ ?_
     refine TC.cond_b rfl h (fun hc412 h=>?_) (fun hc412 h=>?_)
     ·
      refine TC.seq ?_
      refine TC.region ?_
      refine TV rfl rfl rfl (Val.move rfl) ?_
      obtain ⟨y413,hy414,h⟩:=bind_no h
      refine TL.cons (TL.callV (Lin:=[Blk b1 [.slice A2 a0_0.length c3,VI y375.2,VI y10.2] 67]) (args:=[VP b1 0,VI 1]) rfl rfl rfl hbd44 rfl rfl (parse_parser_text.calls (a0_0:=a0_0) (a0_1:=y375.2) (a0_2:=y10.2) (a1:=1) hr4 hl5 hy414) rfl ?_)
      rintro _ _ _ _ ⟨rfl,rfl,rfl⟩
      refine TV rfl rfl rfl (Val.fieldAddrB Try.underlying24 rfl fsz3 rfl rfl rfl) ?_
      refine TL.cons (TL.store 1 (ds:=[VI 10]) (cs':=[VI 10,.string (⟨#[]⟩:ByteArray),VI y7,.slice none 0 0]) (L':=(Blk b1 [.slice A2 a0_0.length c3,VI y413.2.1,VI y413.2.2] 67::Blk b9 [VI 10,.string (⟨#[]⟩:ByteArray),VI y7,.slice none 0 0] 24::Blk b6 [VI 0,.string (⟨#[]⟩:ByteArray),VI 0,.slice none 0 0] 24::L)) rfl fsz3 rfl rfl rfl rfl rfl (Nat.le_of_ble_eq_true rfl) rfl rfl ?_)
      refine TV rfl rfl rfl (Val.fieldAddrB Try.underlying24 rfl fsz9 rfl rfl rfl) ?_
      refine TL.cons (TL.store 1 (ds:=[.string y413.1]) (cs':=[VI 10,.string y413.1,VI y7,.slice none 0 0]) (L':=(Blk b1 [.slice A2 a0_0.length c3,VI y413.2.1,VI y413.2.2] 67::Blk b9 [VI 10,.string y413.1,VI y7,.slice none 0 0] 24::Blk b6 [VI 0,.string (⟨#[]⟩:ByteArray),VI 0,.slice none 0 0] 24::L)) rfl fsz9 rfl rfl rfl rfl rfl (Nat.le_of_ble_eq_true rfl) rfl rfl ?_)
      refine TL.nil ?_
      refine TQ.then_ ?_
      refine TC.region ?_
      refine TV rfl rfl rfl (Val.move rfl) ?_
      refine TV rfl rfl rfl (Val.move rfl) ?_
      refine TV rfl rfl rfl (Val.cmp rfl rfl run_add) ?_
      obtain ⟨y415,hy416,h⟩:=bind_no h
      refine TL.cons (TL.callV (Lin:=[Blk b1 [.slice A2 a0_0.length c3,VI y413.2.1,VI y413.2.2] 67]) (args:=[VP b1 0,VI (IntKind.i64.wrap (a1 + 1))]) rfl rfl rfl hbd48 rfl rfl (parse_parser_typ.calls (a0_0:=a0_0) (a0_1:=y413.2.1) (a0_2:=y413.2.2) (a1:=IntKind.i64.wrap (a1 + 1)) hr4 hl5 hy416) rfl ?_)
      rintro _ _ _ _ ⟨rfl,A417,c418,rfl,rfl⟩
      refine TL.cons (TL.buildSlice (xs:=[.tmp 44]) (vs:=[.agg #[VI y415.1.f0,.string y415.1.f1,VI y415.1.f2,.slice A417 y415.1.f3.length c418]]) (cs:=[VI y415.1.f0,.string y415.1.f1,VI y415.1.f2,.slice A417 y415.1.f3.length c418]) rfl rfl Try.underlying22 zs24 rfl rfl rfl rfl rfl rfl rfl rfl (fun b420=>?_))
      refine TV rfl rfl rfl (Val.fieldAddrB Try.underlying24 rfl fsz22 rfl rfl rfl) ?_
      refine TL.cons (TL.store 3 (ds:=[.slice (some ⟨b420,0,none⟩) 1 1]) (cs':=[VI 10,.string y413.1,VI y7,.slice (some ⟨b420,0,none⟩) 1 1]) (L':=(Blk b420 [VI y415.1.f0,.string y415.1.f1,VI y415.1.f2,.slice A417 y415.1.f3.length c418] 24::Blk b1 [.slice A2 a0_0.length c3,VI y415.2.1,VI y415.2.2] 67::Row k24 24 (.slice A417 y415.1.f3.length c418) y415.1.f3::Blk b9 [VI 10,.string y413.1,VI y7,.slice (some ⟨b420,0,none⟩) 1 1] 24::Blk b6 [VI 0,.string (⟨#[]⟩:ByteArray),VI 0,.slice none 0 0] 24::L)) rfl fsz22 rfl rfl rfl rfl rfl (Nat.le_of_ble_eq_true rfl) rfl rfl ?_)
      refine TL.nil ?_
      refine TQ.new (Els.nil k24) ?_
      refine TQ.sel (Ls:=[Row k24 24 (.slice A417 y415.1.f3.length c418) y415.1.f3,Els k24 [] [],Blk b420 [VI y415.1.f0,.string y415.1.f1,VI y415.1.f2,.slice A417 y415.1.f3.length c418] 24,Blk b1 [.slice A2 a0_0.length c3,VI y415.2.1,VI y415.2.2] 67,Blk b9 [VI 10,.string y413.1,VI y7,.slice (some ⟨b420,0,none⟩) 1 1] 24,Blk b6 [VI 0,.string (⟨#[]⟩:ByteArray),VI 0,.slice none 0 0] 24]) [3,0,1,2,4,5] 6 rfl rfl rfl ?_
      refine TQ.conv (ch':=El k24 y415.1 [VI y415.1.f0,.string y415.1.f1,VI y415.1.f2,.slice A417 y415.1.f3.length c418]) (fun B W F hh=>k24_mkM W B F y415.1 hh) ?_
      refine TQ.sel (Ls:=[Els k24 [] [],El k24 y415.1 [VI y415.1.f0,.string y415.1.f1,VI y415.1.f2,.slice A417 y415.1.f3.length c418],Blk b420 [VI y415.1.f0,.string y415.1.f1,VI y415.1.f2,.slice A417 y415.1.f3.length c418] 24,Blk b1 [.slice A2 a0_0.length c3,VI y415.2.1,VI y415.2.2] 67,Blk b9 [VI 10,.string y413.1,VI y7,.slice (some ⟨b420,0,none⟩) 1 1] 24,Blk b6 [VI 0,.string (⟨#[]⟩:ByteArray),VI 0,.slice none 0 0] 24]) [1,0,2,3,4,5] 6 rfl rfl rfl ?_
      refine TQ.two (ch:=Els k24 [y415.1] [VI y415.1.f0,.string y415.1.f1,VI y415.1.f2,.slice A417 y415.1.f3.length c418]) (Els.snoc k24) ?_
      refine TQ.sel (Ls:=[Blk b420 [VI y415.1.f0,.string y415.1.f1,VI y415.1.f2,.slice A417 y415.1.f3.length c418] 24,Els k24 [y415.1] [VI y415.1.f0,.string y415.1.f1,VI y415.1.f2,.slice A417 y415.1.f3.length c418],Blk b1 [.slice A2 a0_0.length c3,VI y415.2.1,VI y415.2.2] 67,Blk b9 [VI 10,.string y413.1,VI y7,.slice (some ⟨b420,0,none⟩) 1 1] 24,Blk b6 [VI 0,.string (⟨#[]⟩:ByteArray),VI 0,.slice none 0 0] 24]) [1,0,2,3,4] 5 rfl rfl rfl ?_
      refine TQ.two (ch:=Row k24 24 (.slice (some ⟨b420,0,none⟩) 1 1) ([y415.1]:List S24)) (Row.lit k24 rfl rfl) ?_
      exact fun a W hF hO=>⟨y415.2.1,y415.2.2,10,y413.1,y7,([y415.1]:List S24),(some ⟨b420,0,none⟩),1,h,hF.sub ⟨rfl,rfl,rfl,trivial⟩,hO.selT (Ls:=[Blk b1 [.slice A2 a0_0.length c3,VI y415.2.1,VI y415.2.2] 67,Blk b6 [VI 0,.string (⟨#[]⟩:ByteArray),VI 0,.slice none 0 0] 24,Blk b9 [VI 10,.string y413.1,VI y7,.slice (some ⟨b420,0,none⟩) ([y415.1]:List S24).length 1] 24,Row k24 24 (.slice (some ⟨b420,0,none⟩) ([y415.1]:List S24).length 1) ([y415.1]:List S24)]) [1,3,2,0] 4 rfl rfl rfl⟩
     ·
      refine TC.seq ?_
      refine TC.region ?_
      refine TV rfl rfl rfl (Val.move rfl) ?_
      obtain ⟨y422,hy423,h⟩:=bind_no h
      refine TL.cons (TL.callV (Lin:=[Blk b1 [.slice A2 a0_0.length c3,VI y375.2,VI y10.2] 67]) (args:=[VP b1 0,.string (⟨#[114,101,116,117,114,110]⟩:ByteArray)]) rfl rfl rfl hbd62 rfl rfl (parse_parser_take.calls (a0_0:=a0_0) (a0_1:=y375.2) (a0_2:=y10.2) (a1:=(⟨#[114,101,116,117,114,110]⟩:ByteArray)) hr4 hl5 hy423) rfl ?_)
      rintro _ _ _ _ ⟨rfl,rfl,rfl⟩
      refine TV rfl rfl rfl (Val.assign rfl) ?_
      refine TL.nil ?_
      refine TQ.then_ ?_
      refine TC.cond_b rfl h (fun hc448 h=>?_) (fun hc448 h=>?_)
      ·
       refine TC.seq ?_
       refine TC.region ?_
       refine TV rfl rfl rfl (Val.fieldAddrB Try.underlying24 rfl fsz3 rfl rfl rfl) ?_
       refine TL.cons (TL.store 1 (ds:=[VI 14]) (cs':=[VI 14,.string (⟨#[]⟩:ByteArray),VI y7,.slice none 0 0]) (L':=(Blk b1 [.slice A2 a0_0.length c3,VI y422.2,VI y10.2] 67::Blk b9 [VI 14,.string (⟨#[]⟩:ByteArray),VI y7,.slice none 0 0] 24::Blk b6 [VI 0,.string (⟨#[]⟩:ByteArray),VI 0,.slice none 0 0] 24::L)) rfl fsz3 rfl rfl rfl rfl rfl (Nat.le_of_ble_eq_true rfl) rfl rfl ?_)
       refine TL.nil ?_
       refine TQ.then_ ?_
       refine TC.seq ?_
       refine TC.region ?_
       refine TV rfl rfl rfl (Val.move rfl) ?_
       obtain ⟨y449,hy450,h⟩:=bind_no h
       refine TL.cons (TL.callV (Lin:=[Blk b1 [.slice A2 a0_0.length c3,VI y422.2,VI y10.2] 67]) (args:=[VP b1 0]) rfl rfl rfl hbd45 rfl rfl (parse_parser_fixed.calls (a0_0:=a0_0) (a0_1:=y422.2) (a0_2:=y10.2) hr4 hl5 hy450) rfl ?_)
       rintro _ _ _ _ ⟨rfl,rfl,rfl⟩
       refine TV rfl rfl rfl (Val.neT rfl rfl) ?_
       refine TL.nil ?_
       refine TQ.then_ ?_
       refine TC.cond_b rfl h (fun hc458 h=>?_) (fun hc458 h=>?_)
       ·
        refine TC.region ?_
        refine TV rfl rfl rfl (Val.move rfl) ?_
        refine TV rfl rfl rfl (Val.move rfl) ?_
        refine TV rfl rfl rfl (Val.cmp rfl rfl run_add) ?_
        obtain ⟨y459,hy460,h⟩:=bind_no h
        refine TL.cons (TL.callV (Lin:=[Blk b1 [.slice A2 a0_0.length c3,VI y422.2,VI y10.2] 67]) (args:=[VP b1 0,VI (IntKind.i64.wrap (a1 + 1))]) rfl rfl rfl hbd72 rfl rfl (parse_parser_expr.calls (a0_0:=a0_0) (a0_1:=y422.2) (a0_2:=y10.2) (a1:=IntKind.i64.wrap (a1 + 1)) hr4 hl5 hy460) rfl ?_)
        rintro _ _ _ _ ⟨rfl,A461,c462,rfl,rfl⟩
        refine TL.cons (TL.buildSlice (xs:=[.tmp 57]) (vs:=[.agg #[VI y459.1.f0,.string y459.1.f1,VI y459.1.f2,.slice A461 y459.1.f3.length c462]]) (cs:=[VI y459.1.f0,.string y459.1.f1,VI y459.1.f2,.slice A461 y459.1.f3.length c462]) rfl rfl Try.underlying22 zs24 rfl rfl rfl rfl rfl rfl rfl rfl (fun b464=>?_))
        refine TV rfl rfl rfl (Val.fieldAddrB Try.underlying24 rfl fsz22 rfl rfl rfl) ?_
        refine TL.cons (TL.store 3 (ds:=[.slice (some ⟨b464,0,none⟩) 1 1]) (cs':=[VI 14,.string (⟨#[]⟩:ByteArray),VI y7,.slice (some ⟨b464,0,none⟩) 1 1]) (L':=(Blk b464 [VI y459.1.f0,.string y459.1.f1,VI y459.1.f2,.slice A461 y459.1.f3.length c462] 24::Blk b1 [.slice A2 a0_0.length c3,VI y459.2.1,VI y459.2.2] 67::Row k24 24 (.slice A461 y459.1.f3.length c462) y459.1.f3::Blk b9 [VI 14,.string (⟨#[]⟩:ByteArray),VI y7,.slice (some ⟨b464,0,none⟩) 1 1] 24::Blk b6 [VI 0,.string (⟨#[]⟩:ByteArray),VI 0,.slice none 0 0] 24::L)) rfl fsz22 rfl rfl rfl rfl rfl (Nat.le_of_ble_eq_true rfl) rfl rfl ?_)
        refine TL.nil ?_
        refine TQ.new (Els.nil k24) ?_
        refine TQ.sel (Ls:=[Row k24 24 (.slice A461 y459.1.f3.length c462) y459.1.f3,Els k24 [] [],Blk b464 [VI y459.1.f0,.string y459.1.f1,VI y459.1.f2,.slice A461 y459.1.f3.length c462] 24,Blk b1 [.slice A2 a0_0.length c3,VI y459.2.1,VI y459.2.2] 67,Blk b9 [VI 14,.string (⟨#[]⟩:ByteArray),VI y7,.slice (some ⟨b464,0,none⟩) 1 1] 24,Blk b6 [VI 0,.string (⟨#[]⟩:ByteArray),VI 0,.slice none 0 0] 24]) [3,0,1,2,4,5] 6 rfl rfl rfl ?_
        refine TQ.conv (ch':=El k24 y459.1 [VI y459.1.f0,.string y459.1.f1,VI y459.1.f2,.slice A461 y459.1.f3.length c462]) (fun B W F hh=>k24_mkM W B F y459.1 hh) ?_
        refine TQ.sel (Ls:=[Els k24 [] [],El k24 y459.1 [VI y459.1.f0,.string y459.1.f1,VI y459.1.f2,.slice A461 y459.1.f3.length c462],Blk b464 [VI y459.1.f0,.string y459.1.f1,VI y459.1.f2,.slice A461 y459.1.f3.length c462] 24,Blk b1 [.slice A2 a0_0.length c3,VI y459.2.1,VI y459.2.2] 67,Blk b9 [VI 14,.string (⟨#[]⟩:ByteArray),VI y7,.slice (some ⟨b464,0,none⟩) 1 1] 24,Blk b6 [VI 0,.string (⟨#[]⟩:ByteArray),VI 0,.slice none 0 0] 24]) [1,0,2,3,4,5] 6 rfl rfl rfl ?_
        refine TQ.two (ch:=Els k24 [y459.1] [VI y459.1.f0,.string y459.1.f1,VI y459.1.f2,.slice A461 y459.1.f3.length c462]) (Els.snoc k24) ?_
        refine TQ.sel (Ls:=[Blk b464 [VI y459.1.f0,.string y459.1.f1,VI y459.1.f2,.slice A461 y459.1.f3.length c462] 24,Els k24 [y459.1] [VI y459.1.f0,.string y459.1.f1,VI y459.1.f2,.slice A461 y459.1.f3.length c462],Blk b1 [.slice A2 a0_0.length c3,VI y459.2.1,VI y459.2.2] 67,Blk b9 [VI 14,.string (⟨#[]⟩:ByteArray),VI y7,.slice (some ⟨b464,0,none⟩) 1 1] 24,Blk b6 [VI 0,.string (⟨#[]⟩:ByteArray),VI 0,.slice none 0 0] 24]) [1,0,2,3,4] 5 rfl rfl rfl ?_
        refine TQ.two (ch:=Row k24 24 (.slice (some ⟨b464,0,none⟩) 1 1) ([y459.1]:List S24)) (Row.lit k24 rfl rfl) ?_
        exact fun a W hF hO=>⟨y459.2.1,y459.2.2,14,(⟨#[]⟩:ByteArray),y7,([y459.1]:List S24),(some ⟨b464,0,none⟩),1,h,hF.sub ⟨rfl,rfl,rfl,trivial⟩,hO.selT (Ls:=[Blk b1 [.slice A2 a0_0.length c3,VI y459.2.1,VI y459.2.2] 67,Blk b6 [VI 0,.string (⟨#[]⟩:ByteArray),VI 0,.slice none 0 0] 24,Blk b9 [VI 14,.string (⟨#[]⟩:ByteArray),VI y7,.slice (some ⟨b464,0,none⟩) ([y459.1]:List S24).length 1] 24,Row k24 24 (.slice (some ⟨b464,0,none⟩) ([y459.1]:List S24).length 1) ([y459.1]:List S24)]) [1,3,2,0] 4 rfl rfl rfl⟩
       ·
        refine TC.skip ?_
        exact fun a W hF hO=>⟨y422.2,y10.2,14,(⟨#[]⟩:ByteArray),y7,[],none,0,h,hF.sub ⟨rfl,rfl,rfl,trivial⟩,(Own.nilRow k24 24 hO).selT (Ls:=[Blk b1 [.slice A2 a0_0.length c3,VI y422.2,VI y10.2] 67,Blk b6 [VI 0,.string (⟨#[]⟩:ByteArray),VI 0,.slice none 0 0] 24,Blk b9 [VI 14,.string (⟨#[]⟩:ByteArray),VI y7,.slice none ([]:List S24).length 0] 24,Row k24 24 (.slice none ([]:List S24).length 0) ([]:List S24)]) [1,3,2,0] 4 rfl rfl rfl⟩
      ·
       refine TC.seq ?_
       refine TC.region ?_
       refine TV rfl rfl rfl (Val.move rfl) ?_
       obtain ⟨y466,hy467,h⟩:=bind_no h
       refine TL.cons (TL.callV (Lin:=[Blk b1 [.slice A2 a0_0.length c3,VI y422.2,VI y10.2] 67]) (args:=[VP b1 0,.string (⟨#[112,114,105,110,116]⟩:ByteArray)]) rfl rfl rfl hbd62 rfl rfl (parse_parser_take.calls (a0_0:=a0_0) (a0_1:=y422.2) (a0_2:=y10.2) (a1:=(⟨#[112,114,105,110,116]⟩:ByteArray)) hr4 hl5 hy467) rfl ?_)
       rintro _ _ _ _ ⟨rfl,rfl,rfl⟩
       refine TV rfl rfl rfl (Val.assign rfl) ?_
       refine TL.nil ?_
       refine TQ.then_ ?_
       refine TC.cond_b rfl h (fun hc480 h=>?_) (fun hc480 h=>?_)
       ·
        refine TC.region ?_
        refine TV rfl rfl rfl (Val.move rfl) ?_
        refine TV rfl rfl rfl (Val.move rfl) ?_
        refine TV rfl rfl rfl (Val.cmp rfl rfl run_add) ?_
        obtain ⟨y481,hy482,h⟩:=bind_no h
        refine TL.cons (TL.callV (Lin:=[Blk b1 [.slice A2 a0_0.length c3,VI y466.2,VI y10.2] 67]) (args:=[VP b1 0,VI (IntKind.i64.wrap (a1 + 1))]) rfl rfl rfl hbd72 rfl rfl (parse_parser_expr.calls (a0_0:=a0_0) (a0_1:=y466.2) (a0_2:=y10.2) (a1:=IntKind.i64.wrap (a1 + 1)) hr4 hl5 hy482) rfl ?_)
        rintro _ _ _ _ ⟨rfl,A483,c484,rfl,rfl⟩
        refine TL.cons (TL.buildSlice (xs:=[.tmp 66]) (vs:=[.agg #[VI y481.1.f0,.string y481.1.f1,VI y481.1.f2,.slice A483 y481.1.f3.length c484]]) (cs:=[VI y481.1.f0,.string y481.1.f1,VI y481.1.f2,.slice A483 y481.1.f3.length c484]) rfl rfl Try.underlying22 zs24 rfl rfl rfl rfl rfl rfl rfl rfl (fun b486=>?_))
        refine TV rfl rfl rfl (Val.fieldAddrB Try.underlying24 rfl fsz3 rfl rfl rfl) ?_
        refine TL.cons (TL.store 3 (ds:=[VI 15]) (cs':=[VI 15,.string (⟨#[]⟩:ByteArray),VI y7,.slice none 0 0]) (L':=(Blk b486 [VI y481.1.f0,.string y481.1.f1,VI y481.1.f2,.slice A483 y481.1.f3.length c484] 24::Blk b1 [.slice A2 a0_0.length c3,VI y481.2.1,VI y481.2.2] 67::Row k24 24 (.slice A483 y481.1.f3.length c484) y481.1.f3::Blk b9 [VI 15,.string (⟨#[]⟩:ByteArray),VI y7,.slice none 0 0] 24::Blk b6 [VI 0,.string (⟨#[]⟩:ByteArray),VI 0,.slice none 0 0] 24::L)) rfl fsz3 rfl rfl rfl rfl rfl (Nat.le_of_ble_eq_true rfl) rfl rfl ?_)
        refine TV rfl rfl rfl (Val.fieldAddrB Try.underlying24 rfl fsz22 rfl rfl rfl) ?_
        refine TL.cons (TL.store 3 (ds:=[.slice (some ⟨b486,0,none⟩) 1 1]) (cs':=[VI 15,.string (⟨#[]⟩:ByteArray),VI y7,.slice (some ⟨b486,0,none⟩) 1 1]) (L':=(Blk b486 [VI y481.1.f0,.string y481.1.f1,VI y481.1.f2,.slice A483 y481.1.f3.length c484] 24::Blk b1 [.slice A2 a0_0.length c3,VI y481.2.1,VI y481.2.2] 67::Row k24 24 (.slice A483 y481.1.f3.length c484) y481.1.f3::Blk b9 [VI 15,.string (⟨#[]⟩:ByteArray),VI y7,.slice (some ⟨b486,0,none⟩) 1 1] 24::Blk b6 [VI 0,.string (⟨#[]⟩:ByteArray),VI 0,.slice none 0 0] 24::L)) rfl fsz22 rfl rfl rfl rfl rfl (Nat.le_of_ble_eq_true rfl) rfl rfl ?_)
        refine TL.nil ?_
        refine TQ.new (Els.nil k24) ?_
        refine TQ.sel (Ls:=[Row k24 24 (.slice A483 y481.1.f3.length c484) y481.1.f3,Els k24 [] [],Blk b486 [VI y481.1.f0,.string y481.1.f1,VI y481.1.f2,.slice A483 y481.1.f3.length c484] 24,Blk b1 [.slice A2 a0_0.length c3,VI y481.2.1,VI y481.2.2] 67,Blk b9 [VI 15,.string (⟨#[]⟩:ByteArray),VI y7,.slice (some ⟨b486,0,none⟩) 1 1] 24,Blk b6 [VI 0,.string (⟨#[]⟩:ByteArray),VI 0,.slice none 0 0] 24]) [3,0,1,2,4,5] 6 rfl rfl rfl ?_
        refine TQ.conv (ch':=El k24 y481.1 [VI y481.1.f0,.string y481.1.f1,VI y481.1.f2,.slice A483 y481.1.f3.length c484]) (fun B W F hh=>k24_mkM W B F y481.1 hh) ?_
        refine TQ.sel (Ls:=[Els k24 [] [],El k24 y481.1 [VI y481.1.f0,.string y481.1.f1,VI y481.1.f2,.slice A483 y481.1.f3.length c484],Blk b486 [VI y481.1.f0,.string y481.1.f1,VI y481.1.f2,.slice A483 y481.1.f3.length c484] 24,Blk b1 [.slice A2 a0_0.length c3,VI y481.2.1,VI y481.2.2] 67,Blk b9 [VI 15,.string (⟨#[]⟩:ByteArray),VI y7,.slice (some ⟨b486,0,none⟩) 1 1] 24,Blk b6 [VI 0,.string (⟨#[]⟩:ByteArray),VI 0,.slice none 0 0] 24]) [1,0,2,3,4,5] 6 rfl rfl rfl ?_
        refine TQ.two (ch:=Els k24 [y481.1] [VI y481.1.f0,.string y481.1.f1,VI y481.1.f2,.slice A483 y481.1.f3.length c484]) (Els.snoc k24) ?_
        refine TQ.sel (Ls:=[Blk b486 [VI y481.1.f0,.string y481.1.f1,VI y481.1.f2,.slice A483 y481.1.f3.length c484] 24,Els k24 [y481.1] [VI y481.1.f0,.string y481.1.f1,VI y481.1.f2,.slice A483 y481.1.f3.length c484],Blk b1 [.slice A2 a0_0.length c3,VI y481.2.1,VI y481.2.2] 67,Blk b9 [VI 15,.string (⟨#[]⟩:ByteArray),VI y7,.slice (some ⟨b486,0,none⟩) 1 1] 24,Blk b6 [VI 0,.string (⟨#[]⟩:ByteArray),VI 0,.slice none 0 0] 24]) [1,0,2,3,4] 5 rfl rfl rfl ?_
        refine TQ.two (ch:=Row k24 24 (.slice (some ⟨b486,0,none⟩) 1 1) ([y481.1]:List S24)) (Row.lit k24 rfl rfl) ?_
        exact fun a W hF hO=>⟨y481.2.1,y481.2.2,15,(⟨#[]⟩:ByteArray),y7,([y481.1]:List S24),(some ⟨b486,0,none⟩),1,h,hF.sub ⟨rfl,rfl,rfl,trivial⟩,hO.selT (Ls:=[Blk b1 [.slice A2 a0_0.length c3,VI y481.2.1,VI y481.2.2] 67,Blk b6 [VI 0,.string (⟨#[]⟩:ByteArray),VI 0,.slice none 0 0] 24,Blk b9 [VI 15,.string (⟨#[]⟩:ByteArray),VI y7,.slice (some ⟨b486,0,none⟩) ([y481.1]:List S24).length 1] 24,Row k24 24 (.slice (some ⟨b486,0,none⟩) ([y481.1]:List S24).length 1) ([y481.1]:List S24)]) [1,3,2,0] 4 rfl rfl rfl⟩
       ·
        refine TC.region ?_
        refine TV rfl rfl rfl (Val.move rfl) ?_
        refine TV rfl rfl rfl (Val.loadsB 1 (cs:=[VI 0,.string (⟨#[]⟩:ByteArray),VI y7,.slice none 0 0]) agg24 fsz24 rfl rfl rfl rfl) ?_
        refine TV rfl rfl rfl (Val.move rfl) ?_
        obtain ⟨y488,hy489,h⟩:=bind_no h
        refine TL.cons (TL.callV (Lin:=[Blk b1 [.slice A2 a0_0.length c3,VI y466.2,VI y10.2] 67]) (args:=[VP b1 0,.agg #[VI 0,.string (⟨#[]⟩:ByteArray),VI y7,.slice none 0 0],VI a1]) rfl rfl rfl hbd73 rfl rfl (parse_parser_simple.calls (a0_0:=a0_0) (a0_1:=y466.2) (a0_2:=y10.2) (a1:=(⟨0,(⟨#[]⟩:ByteArray),y7,([]:List S24)⟩:S24)) (a2:=a1) hr4 hl5 (Rd.nil _ _) (Nat.le_refl 0) hy489) rfl ?_)
        rintro _ _ _ _ ⟨rfl,A490,c491,rfl,rfl⟩
        refine TL.cons (TL.store 2 (ds:=[VI y488.1.f0,.string y488.1.f1,VI y488.1.f2,.slice A490 y488.1.f3.length c491]) (cs':=[VI y488.1.f0,.string y488.1.f1,VI y488.1.f2,.slice A490 y488.1.f3.length c491]) (L':=(Blk b1 [.slice A2 a0_0.length c3,VI y488.2.1,VI y488.2.2] 67::Row k24 24 (.slice A490 y488.1.f3.length c491) y488.1.f3::Blk b9 [VI y488.1.f0,.string y488.1.f1,VI y488.1.f2,.slice A490 y488.1.f3.length c491] 24::Blk b6 [VI 0,.string (⟨#[]⟩:ByteArray),VI 0,.slice none 0 0] 24::L)) rfl fsz24 rfl rfl rfl rfl rfl (Nat.le_of_ble_eq_true rfl) rfl rfl ?_)
        refine TL.nil ?_
        exact fun a W hF hO=>⟨y488.2.1,y488.2.2,y488.1.f0,y488.1.f1,y488.1.f2,y488.1.f3,A490,c491,h,hF.sub ⟨rfl,rfl,rfl,trivial⟩,hO.selT (Ls:=[Blk b1 [.slice A2 a0_0.length c3,VI y488.2.1,VI y488.2.2] 67,Blk b6 [VI 0,.string (⟨#[]⟩:ByteArray),VI 0,.slice none 0 0] 24,Blk b9 [VI y488.1.f0,.string y488.1.f1,VI y488.1.f2,.slice A490 y488.1.f3.length c491] 24,Row k24 24 (.slice A490 y488.1.f3.length c491) y488.1.f3]) [0,3,2,1] 4 rfl rfl rfl⟩
def parse_parser_branches.g (rec49:((List S41) → Int → Int → Int → Option (S24 × Int × Int))) (rec68:((List S41) → Int → Int → Int → Option (S24 × Int × Int))) (rec71:((List S41) → Int → Int → S24 → Int → Option (S24 × Int × Int))) (a0_0:(List S41)) (a0_1:Int) (a0_2:Int) (a1:S24) (a2:Int):Option (S24 × Int × Int):=(parse_parser_expr.f a0_0 a0_1 a0_2 (IntKind.i64.wrap (a2 + 1))).bind fun (y12:(S24 × Int × Int))=>(rec49 a0_0 y12.2.1 y12.2.2 (IntKind.i64.wrap (a2 + 1))).bind fun (y28:(S24 × Int × Int))=>(if ([y12.1]:List S24).length < 2513169434916 then jn (γ:=(S24 × Int × Int)) (fun (x42:Bool) (x43:Int)=>jn (γ:=(S24 × Int × Int)) (fun (x64:Int) (x65:Int) (l66:(List S24))=>some ((⟨a1.f0,a1.f1,a1.f2,l66⟩:S24),x64,x65)) (fun (j70:(Int → Int → (List S24) → Option (S24 × Int × Int)))=>(if x42=true then (rec49 a0_0 x43 y28.2.2 (IntKind.i64.wrap (a2 + 1))).bind fun (y81:(S24 × Int × Int))=>(if (([y12.1]:List S24) ++ [y28.1]).length < 2513169434916 then j70 y81.2.1 y81.2.2 ((([y12.1]:List S24) ++ [y28.1]) ++ [y81.1]) else none) else j70 x43 y28.2.2 (([y12.1]:List S24) ++ [y28.1])))) (fun (j44:(Bool → Int → Option (S24 × Int × Int)))=>(if a1.f0=12 then (parse_parser_take.f a0_0 y28.2.1 y28.2.2 (⟨#[101,108,115,101]⟩:ByteArray)).bind fun (y92:(Bool × Int))=>j44 y92.1 y92.2 else j44 false y28.2.1)) else none)
theorem parse_parser_branches.step (rec49:((List S41) → Int → Int → Int → Option (S24 × Int × Int))) (rec68:((List S41) → Int → Int → Int → Option (S24 × Int × Int))) (rec71:((List S41) → Int → Int → S24 → Int → Option (S24 × Int × Int))) (ih49:∀ {G:Gd} {r:(S24 × Int × Int)} {a0_0:(List S41)} {a0_1:Int} {a0_2:Int} {a1:Int} {b1:Nat} {A2:Option Addr} {c3:Nat} (hr4:Rd G k41 A2 a0_0) (hl5:a0_0.length ≤ c3),rec49 a0_0 a0_1 a0_2 a1=some r → Fn Try.prog 49 G [Blk b1 [.slice A2 a0_0.length c3,VI a0_1,VI a0_2] 67] [VP b1 0,VI a1] (parse_parser_block.post G b1 A2 c3 a0_0 a0_1 a0_2 a1 r)) (ih68:∀ {G:Gd} {r:(S24 × Int × Int)} {a0_0:(List S41)} {a0_1:Int} {a0_2:Int} {a1:Int} {b1:Nat} {A2:Option Addr} {c3:Nat} (hr4:Rd G k41 A2 a0_0) (hl5:a0_0.length ≤ c3),rec68 a0_0 a0_1 a0_2 a1=some r → Fn Try.prog 68 G [Blk b1 [.slice A2 a0_0.length c3,VI a0_1,VI a0_2] 67] [VP b1 0,VI a1] (parse_parser_statement.post G b1 A2 c3 a0_0 a0_1 a0_2 a1 r)) (ih71:∀ {G:Gd} {r:(S24 × Int × Int)} {a0_0:(List S41)} {a0_1:Int} {a0_2:Int} {a1:S24} {a2:Int} {b1:Nat} {A2:Option Addr} {c3:Nat} {A6:Option Addr} {c7:Nat} (hr4:Rd G k41 A2 a0_0) (hl5:a0_0.length ≤ c3) (hr8:Rd G k24 A6 a1.f3) (hl9:a1.f3.length ≤ c7),rec71 a0_0 a0_1 a0_2 a1 a2=some r → Fn Try.prog 71 G [Blk b1 [.slice A2 a0_0.length c3,VI a0_1,VI a0_2] 67] [VP b1 0,.agg #[VI a1.f0,.string a1.f1,VI a1.f2,.slice A6 a1.f3.length c7],VI a2] (parse_parser_branches.post G b1 A2 c3 A6 c7 a0_0 a0_1 a0_2 a1 a2 r)) {G:Gd} {r:(S24 × Int × Int)} {a0_0:(List S41)} {a0_1:Int} {a0_2:Int} {a1:S24} {a2:Int} {b1:Nat} {A2:Option Addr} {c3:Nat} {A6:Option Addr} {c7:Nat} (hr4:Rd G k41 A2 a0_0) (hl5:a0_0.length ≤ c3) (hr8:Rd G k24 A6 a1.f3) (hl9:a1.f3.length ≤ c7) (h:parse_parser_branches.g rec49 rec68 rec71 a0_0 a0_1 a0_2 a1 a2=some r):Fn Try.prog 71 G [Blk b1 [.slice A2 a0_0.length c3,VI a0_1,VI a0_2] 67] [VP b1 0,.agg #[VI a1.f0,.string a1.f1,VI a1.f2,.slice A6 a1.f3.length c7],VI a2] (parse_parser_branches.post G b1 A2 c3 A6 c7 a0_0 a0_1 a0_2 a1 a2 r):=by
 refine Fn.intro (e:=[(0,VP b1 0),(1,.agg #[VI a1.f0,.string a1.f1,VI a1.f2,.slice A6 a1.f3.length c7]),(2,VI a2)]) 39 Try.func71 rfl Try.ntmps71 rfl rfl (Nat.le_of_ble_eq_true rfl) (fun L=>?_)
 unfold parse_parser_branches.g at h
 refine TC.seq ?_
 refine TC.region ?_
 refine TL.cons (TL.box (cs:=[VI a1.f0,.string a1.f1,VI a1.f2,.slice A6 a1.f3.length c7]) rfl rfl rfl rfl (fun b10=>?_))
 refine TL.cons (TL.alloc (cs:=[VI 0,.string (⟨#[]⟩:ByteArray),VI 0,.slice none 0 0]) rfl rfl zr24 rfl (fun b11=>?_))
 refine TL.nil ?_
 refine TQ.then_ ?_
 refine TC.seq ?_
 refine TC.region ?_
 refine TV rfl rfl rfl (Val.move rfl) ?_
 refine TV rfl rfl rfl (Val.move rfl) ?_
 refine TV rfl rfl rfl (Val.cmp rfl rfl run_add) ?_
 refine TK.sel (Ls:=[Blk b1 [.slice A2 a0_0.length c3,VI a0_1,VI a0_2] 67,Blk b11 [VI 0,.string (⟨#[]⟩:ByteArray),VI 0,.slice none 0 0] 24,Blk b10 [VI a1.f0,.string a1.f1,VI a1.f2,.slice A6 a1.f3.length c7] 24]) [2,0,1] 3 rfl rfl rfl ?_
 obtain ⟨y12,hy13,h⟩:=bind_no h
 refine TL.cons (TL.callV (Lin:=[Blk b1 [.slice A2 a0_0.length c3,VI a0_1,VI a0_2] 67]) (args:=[VP b1 0,VI (IntKind.i64.wrap (a2 + 1))]) rfl rfl rfl hbd72 rfl rfl (parse_parser_expr.calls (a0_0:=a0_0) (a0_1:=a0_1) (a0_2:=a0_2) (a1:=IntKind.i64.wrap (a2 + 1)) hr4 hl5 hy13) rfl ?_)
 rintro _ _ _ _ ⟨rfl,A14,c15,rfl,rfl⟩
 refine TL.cons (TL.buildSlice (xs:=[.tmp 10]) (vs:=[.agg #[VI y12.1.f0,.string y12.1.f1,VI y12.1.f2,.slice A14 y12.1.f3.length c15]]) (cs:=[VI y12.1.f0,.string y12.1.f1,VI y12.1.f2,.slice A14 y12.1.f3.length c15]) rfl rfl Try.underlying22 zs24 rfl rfl rfl rfl rfl rfl rfl rfl (fun b17=>?_))
 refine TV rfl rfl rfl (Val.fieldAddrB Try.underlying24 rfl fsz22 rfl rfl rfl) ?_
 refine TL.cons (TL.store 4 (ds:=[.slice (some ⟨b17,0,none⟩) 1 1]) (cs':=[VI a1.f0,.string a1.f1,VI a1.f2,.slice (some ⟨b17,0,none⟩) 1 1]) (L':=(Blk b17 [VI y12.1.f0,.string y12.1.f1,VI y12.1.f2,.slice A14 y12.1.f3.length c15] 24::Blk b1 [.slice A2 a0_0.length c3,VI y12.2.1,VI y12.2.2] 67::Row k24 24 (.slice A14 y12.1.f3.length c15) y12.1.f3::Blk b11 [VI 0,.string (⟨#[]⟩:ByteArray),VI 0,.slice none 0 0] 24::Blk b10 [VI a1.f0,.string a1.f1,VI a1.f2,.slice (some ⟨b17,0,none⟩) 1 1] 24::L)) rfl fsz22 rfl rfl rfl rfl rfl (Nat.le_of_ble_eq_true rfl) rfl rfl ?_)
 refine TL.nil ?_
 refine TQ.then_ ?_
 refine TC.seq ?_
 refine TC.new (Els.nil k24) ?_
 refine TC.sel (Ls:=[Row k24 24 (.slice A14 y12.1.f3.length c15) y12.1.f3,Els k24 [] [],Blk b17 [VI y12.1.f0,.string y12.1.f1,VI y12.1.f2,.slice A14 y12.1.f3.length c15] 24,Blk b1 [.slice A2 a0_0.length c3,VI y12.2.1,VI y12.2.2] 67,Blk b11 [VI 0,.string (⟨#[]⟩:ByteArray),VI 0,.slice none 0 0] 24,Blk b10 [VI a1.f0,.string a1.f1,VI a1.f2,.slice (some ⟨b17,0,none⟩) 1 1] 24]) [3,0,1,2,4,5] 6 rfl rfl rfl ?_
 refine TC.conv (ch':=El k24 y12.1 [VI y12.1.f0,.string y12.1.f1,VI y12.1.f2,.slice A14 y12.1.f3.length c15]) (fun B W F hh=>k24_mkM W B F y12.1 hh) ?_
 refine TC.sel (Ls:=[Els k24 [] [],El k24 y12.1 [VI y12.1.f0,.string y12.1.f1,VI y12.1.f2,.slice A14 y12.1.f3.length c15],Blk b17 [VI y12.1.f0,.string y12.1.f1,VI y12.1.f2,.slice A14 y12.1.f3.length c15] 24,Blk b1 [.slice A2 a0_0.length c3,VI y12.2.1,VI y12.2.2] 67,Blk b11 [VI 0,.string (⟨#[]⟩:ByteArray),VI 0,.slice none 0 0] 24,Blk b10 [VI a1.f0,.string a1.f1,VI a1.f2,.slice (some ⟨b17,0,none⟩) 1 1] 24]) [1,0,2,3,4,5] 6 rfl rfl rfl ?_
 refine TC.two (ch:=Els k24 [y12.1] [VI y12.1.f0,.string y12.1.f1,VI y12.1.f2,.slice A14 y12.1.f3.length c15]) (Els.snoc k24) ?_
 refine TC.sel (Ls:=[Blk b17 [VI y12.1.f0,.string y12.1.f1,VI y12.1.f2,.slice A14 y12.1.f3.length c15] 24,Els k24 [y12.1] [VI y12.1.f0,.string y12.1.f1,VI y12.1.f2,.slice A14 y12.1.f3.length c15],Blk b1 [.slice A2 a0_0.length c3,VI y12.2.1,VI y12.2.2] 67,Blk b11 [VI 0,.string (⟨#[]⟩:ByteArray),VI 0,.slice none 0 0] 24,Blk b10 [VI a1.f0,.string a1.f1,VI a1.f2,.slice (some ⟨b17,0,none⟩) 1 1] 24]) [1,0,2,3,4] 5 rfl rfl rfl ?_
 refine TC.two (ch:=Row k24 24 (.slice (some ⟨b17,0,none⟩) 1 1) ([y12.1]:List S24)) (Row.lit k24 rfl rfl) ?_
 refine TC.regionAnyS (L0:=(Blk b11 [VI 0,.string (⟨#[]⟩:ByteArray),VI 0,.slice none 0 0] 24::Blk b10 [VI a1.f0,.string a1.f1,VI a1.f2,.slice (some ⟨b17,0,none⟩) 1 1] 24::L)) [9] [0,1,2,3,4,8] mixed (by kernel_rfl) ?_
 refine TA.take 0 rfl (by kernel_rfl) rfl (PQ.then_ PQ.body) rfl (Val.fieldAddrB Try.underlying24 rfl fsz22 rfl rfl rfl) (fun W hO=>hO.selT (Ls:=[Blk b11 [VI 0,.string (⟨#[]⟩:ByteArray),VI 0,.slice none 0 0] 24,Blk b10 [VI a1.f0,.string a1.f1,VI a1.f2,.slice (some ⟨b17,0,none⟩) 1 1] 24]) [2,3] 4 rfl rfl rfl) ?_
 refine TA.take 1 rfl (by kernel_rfl) rfl (PQ.then_ PQ.body) rfl (Val.loadB 1 agg22 rfl rfl rfl) (fun W hO=>hO.selT (Ls:=[Blk b11 [VI 0,.string (⟨#[]⟩:ByteArray),VI 0,.slice none 0 0] 24,Blk b10 [VI a1.f0,.string a1.f1,VI a1.f2,.slice (some ⟨b17,0,none⟩) 1 1] 24]) [2,3] 4 rfl rfl rfl) ?_
 refine TA.take 2 rfl (by kernel_rfl) rfl (PQ.then_ PQ.body) rfl (Val.move rfl) (fun W hO=>hO.selT (Ls:=[Blk b11 [VI 0,.string (⟨#[]⟩:ByteArray),VI 0,.slice none 0 0] 24,Blk b10 [VI a1.f0,.string a1.f1,VI a1.f2,.slice (some ⟨b17,0,none⟩) 1 1] 24]) [2,3] 4 rfl rfl rfl) ?_
 refine TA.take 3 rfl (by kernel_rfl) rfl (PQ.then_ PQ.body) rfl (Val.move rfl) (fun W hO=>hO.selT (Ls:=[Blk b11 [VI 0,.string (⟨#[]⟩:ByteArray),VI 0,.slice none 0 0] 24,Blk b10 [VI a1.f0,.string a1.f1,VI a1.f2,.slice (some ⟨b17,0,none⟩) 1 1] 24]) [2,3] 4 rfl rfl rfl) ?_
 refine TA.take 4 rfl (by kernel_rfl) rfl (PQ.then_ PQ.body) rfl (Val.cmp rfl rfl run_add) (fun W hO=>hO.selT (Ls:=[Blk b11 [VI 0,.string (⟨#[]⟩:ByteArray),VI 0,.slice none 0 0] 24,Blk b10 [VI a1.f0,.string a1.f1,VI a1.f2,.slice (some ⟨b17,0,none⟩) 1 1] 24]) [2,3] 4 rfl rfl rfl) ?_
 refine TK.sel (Ls:=[Blk b1 [.slice A2 a0_0.length c3,VI y12.2.1,VI y12.2.2] 67,Row k24 24 (.slice (some ⟨b17,0,none⟩) 1 1) ([y12.1]:List S24),Blk b11 [VI 0,.string (⟨#[]⟩:ByteArray),VI 0,.slice none 0 0] 24,Blk b10 [VI a1.f0,.string a1.f1,VI a1.f2,.slice (some ⟨b17,0,none⟩) 1 1] 24]) [1,0,2,3] 4 rfl rfl rfl ?_
 obtain ⟨y28,hy29,h⟩:=bind_no h
 refine TA.eff 5 rfl (by kernel_rfl) rfl (TL.callV (Lin:=[Blk b1 [.slice A2 a0_0.length c3,VI y12.2.1,VI y12.2.2] 67]) (args:=[VP b1 0,VI (IntKind.i64.wrap (a2 + 1))]) rfl rfl rfl hbd49 rfl rfl (ih49 (a0_0:=a0_0) (a0_1:=y12.2.1) (a0_2:=y12.2.2) (a1:=IntKind.i64.wrap (a2 + 1)) hr4 hl5 hy29) rfl ?_)
 rintro _ _ _ _ ⟨rfl,A30,c31,rfl,rfl⟩
 refine TA.next (fun W hO=>hO.selT (Ls:=[Blk b11 [VI 0,.string (⟨#[]⟩:ByteArray),VI 0,.slice none 0 0] 24,Blk b10 [VI a1.f0,.string a1.f1,VI a1.f2,.slice (some ⟨b17,0,none⟩) 1 1] 24]) [3,4] 5 rfl rfl rfl) ?_
 refine TA.eff 6 rfl (by kernel_rfl) rfl (TL.buildSlice (xs:=[.tmp 18]) (vs:=[.agg #[VI y28.1.f0,.string y28.1.f1,VI y28.1.f2,.slice A30 y28.1.f3.length c31]]) (cs:=[VI y28.1.f0,.string y28.1.f1,VI y28.1.f2,.slice A30 y28.1.f3.length c31]) rfl rfl Try.underlying22 zs24 rfl rfl rfl rfl rfl rfl rfl rfl (fun b33=>?_))
 refine TA.next (fun W hO=>hO.selT (Ls:=[Blk b11 [VI 0,.string (⟨#[]⟩:ByteArray),VI 0,.slice none 0 0] 24,Blk b10 [VI a1.f0,.string a1.f1,VI a1.f2,.slice (some ⟨b17,0,none⟩) 1 1] 24]) [4,5] 6 rfl rfl rfl) ?_
 refine TK.sel (Ls:=[Row k24 24 (.slice A30 y28.1.f3.length c31) y28.1.f3,Blk b33 [VI y28.1.f0,.string y28.1.f1,VI y28.1.f2,.slice A30 y28.1.f3.length c31] 24,Blk b1 [.slice A2 a0_0.length c3,VI y28.2.1,VI y28.2.2] 67,Row k24 24 (.slice (some ⟨b17,0,none⟩) 1 1) ([y12.1]:List S24),Blk b11 [VI 0,.string (⟨#[]⟩:ByteArray),VI 0,.slice none 0 0] 24,Blk b10 [VI a1.f0,.string a1.f1,VI a1.f2,.slice (some ⟨b17,0,none⟩) 1 1] 24]) [2,0,1,3,4,5] 6 rfl rfl rfl ?_
 refine TK.conv (ch':=El k24 y28.1 [VI y28.1.f0,.string y28.1.f1,VI y28.1.f2,.slice A30 y28.1.f3.length c31]) (fun B W F hh=>k24_mkM W B F y28.1 hh) ?_
 refine TK.sel (Ls:=[Row k24 24 (.slice (some ⟨b17,0,none⟩) 1 1) ([y12.1]:List S24),El k24 y28.1 [VI y28.1.f0,.string y28.1.f1,VI y28.1.f2,.slice A30 y28.1.f3.length c31],Blk b33 [VI y28.1.f0,.string y28.1.f1,VI y28.1.f2,.slice A30 y28.1.f3.length c31] 24,Blk b1 [.slice A2 a0_0.length c3,VI y28.2.1,VI y28.2.2] 67,Blk b11 [VI 0,.string (⟨#[]⟩:ByteArray),VI 0,.slice none 0 0] 24,Blk b10 [VI a1.f0,.string a1.f1,VI a1.f2,.slice (some ⟨b17,0,none⟩) 1 1] 24]) [3,0,1,2,4,5] 6 rfl rfl rfl ?_
 obtain ⟨ha34,h⟩:=ite_no h
 refine TA.eff 7 rfl (by kernel_rfl) rfl (TL.append (xs:=([y12.1]:List S24)) k24 rfl rfl Try.underlying22 inf24 rfl (Nat.le_of_ble_eq_true rfl) (Nat.le_of_ble_eq_true rfl) rfl rfl (by omega) (fun A35 c36=>?_))
 refine TA.next (fun W hO=>hO.selT (Ls:=[Blk b11 [VI 0,.string (⟨#[]⟩:ByteArray),VI 0,.slice none 0 0] 24,Blk b10 [VI a1.f0,.string a1.f1,VI a1.f2,.slice (some ⟨b17,0,none⟩) 1 1] 24]) [2,3] 4 rfl rfl rfl) ?_
 refine TA.take 8 rfl (by kernel_rfl) rfl (PQ.then_ PQ.body) rfl (Val.fieldAddrB Try.underlying24 rfl fsz22 rfl rfl rfl) (fun W hO=>hO.selT (Ls:=[Blk b11 [VI 0,.string (⟨#[]⟩:ByteArray),VI 0,.slice none 0 0] 24,Blk b10 [VI a1.f0,.string a1.f1,VI a1.f2,.slice (some ⟨b17,0,none⟩) 1 1] 24]) [2,3] 4 rfl rfl rfl) ?_
 refine TA.eff 9 rfl (by kernel_rfl) rfl (TL.store 3 (ds:=[.slice A35 (([y12.1]:List S24) ++ [y28.1]).length c36]) (cs':=[VI a1.f0,.string a1.f1,VI a1.f2,.slice A35 (([y12.1]:List S24) ++ [y28.1]).length c36]) (L':=(Row k24 24 (.slice A35 (([y12.1]:List S24) ++ [y28.1]).length c36) (([y12.1]:List S24) ++ [y28.1])::Blk b1 [.slice A2 a0_0.length c3,VI y28.2.1,VI y28.2.2] 67::Blk b11 [VI 0,.string (⟨#[]⟩:ByteArray),VI 0,.slice none 0 0] 24::Blk b10 [VI a1.f0,.string a1.f1,VI a1.f2,.slice A35 (([y12.1]:List S24) ++ [y28.1]).length c36] 24::L)) rfl fsz22 rfl rfl rfl rfl rfl (Nat.le_of_ble_eq_true rfl) rfl rfl ?_)
 refine TA.last rfl ?_
 refine TA.done (by kernel_rfl) ?_
 refine TQ.then_ ?_
 refine TC.seq ?_
 refine TC.seq ?_
 obtain ⟨j44,hj44,h⟩:=jn_no h
 refine TC.tail (fun a W=>∃ (x42:Bool) (x43:Int),j44 x42 x43=some r∧Fr 39 a [(0,VP b1 0),(2,VI a2),(4,VP b10 0),(6,VP b11 0),(28,.bool x42)]∧Own G (Blk b1 [.slice A2 a0_0.length c3,VI x43,VI y28.2.2] 67::Blk b10 [VI a1.f0,.string a1.f1,VI a1.f2,.slice A35 (([y12.1]:List S24) ++ [y28.1]).length c36] 24::Blk b11 [VI 0,.string (⟨#[]⟩:ByteArray),VI 0,.slice none 0 0] 24::Row k24 24 (.slice A35 (([y12.1]:List S24) ++ [y28.1]).length c36) (([y12.1]:List S24) ++ [y28.1])::L) W) ?_ ?_
 ·
  rintro a W ⟨x42,x43,h,hF,hO⟩
  rw [hj44] at h
  refine TQ.use ?_ hF hO
  clear hF hO
  refine TQ.then_ ?_
  obtain ⟨j70,hj70,h⟩:=jn_no h
  refine TC.tail (fun a W=>∃ (x64:Int) (x65:Int) (l66:(List S24)) (A67:Option Addr) (c68:Nat),j70 x64 x65 l66=some r∧Fr 39 a [(4,VP b10 0),(6,VP b11 0)]∧Own G (Blk b1 [.slice A2 a0_0.length c3,VI x64,VI x65] 67::Blk b10 [VI a1.f0,.string a1.f1,VI a1.f2,.slice A67 l66.length c68] 24::Blk b11 [VI 0,.string (⟨#[]⟩:ByteArray),VI 0,.slice none 0 0] 24::Row k24 24 (.slice A67 l66.length c68) l66::L) W) ?_ ?_
  ·
   rintro a W ⟨x64,x65,l66,A67,c68,h,hF,hO⟩
   rw [hj70] at h
   refine TQ.use ?_ hF hO
   clear hF hO
   refine TQ.then_ ?_
   refine TC.seq ?_
   refine TC.region ?_
   refine TV rfl rfl rfl (Val.loadsB 1 (cs:=[VI a1.f0,.string a1.f1,VI a1.f2,.slice A67 l66.length c68]) agg24 fsz24 rfl rfl rfl rfl) ?_
   refine TL.cons (TL.store 2 (ds:=[VI a1.f0,.string a1.f1,VI a1.f2,.slice A67 l66.length c68]) (cs':=[VI a1.f0,.string a1.f1,VI a1.f2,.slice A67 l66.length c68]) (L':=(Blk b1 [.slice A2 a0_0.length c3,VI x64,VI x65] 67::Blk b10 [VI a1.f0,.string a1.f1,VI a1.f2,.slice A67 l66.length c68] 24::Blk b11 [VI a1.f0,.string a1.f1,VI a1.f2,.slice A67 l66.length c68] 24::Row k24 24 (.slice A67 l66.length c68) l66::L)) rfl fsz24 rfl rfl rfl rfl rfl (Nat.le_of_ble_eq_true rfl) rfl rfl ?_)
   refine TL.nil ?_
   refine TQ.then_ ?_
   refine TC.ret ?_
   obtain rfl:=Option.some.inj h
   exact TQ.fin (.inl rfl) rfl Try.results71 (.cells 2 rfl rfl agg24 fsz24 .nil) rfl (FRel.mk (Ls:=[Blk b1 [.slice A2 a0_0.length c3,VI x64,VI x65] 67,Row k24 24 (.slice A67 l66.length c68) l66]) [0,3] 4 (Gd.le.refl _) rfl rfl rfl ⟨rfl,A67,c68,rfl,rfl⟩)
  ·
   refine TC.cond_b rfl h (fun hc71 h=>?_) (fun hc71 h=>?_)
   ·
    refine TC.regionAnyS (L0:=(Blk b10 [VI a1.f0,.string a1.f1,VI a1.f2,.slice A35 (([y12.1]:List S24) ++ [y28.1]).length c36] 24::Blk b11 [VI 0,.string (⟨#[]⟩:ByteArray),VI 0,.slice none 0 0] 24::L)) [9] [0,1,2,3,4,8] mixed (by kernel_rfl) ?_
    refine TA.take 0 rfl (by kernel_rfl) rfl (PQ.then_ (PQ.then_ PQ.body)) rfl (Val.fieldAddrB Try.underlying24 rfl fsz22 rfl rfl rfl) (fun W hO=>hO.selT (Ls:=[Blk b10 [VI a1.f0,.string a1.f1,VI a1.f2,.slice A35 (([y12.1]:List S24) ++ [y28.1]).length c36] 24,Blk b11 [VI 0,.string (⟨#[]⟩:ByteArray),VI 0,.slice none 0 0] 24]) [1,2] 4 rfl rfl rfl) ?_
    refine TA.take 1 rfl (by kernel_rfl) rfl (PQ.then_ (PQ.then_ PQ.body)) rfl (Val.loadB 0 agg22 rfl rfl rfl) (fun W hO=>hO.selT (Ls:=[Blk b10 [VI a1.f0,.string a1.f1,VI a1.f2,.slice A35 (([y12.1]:List S24) ++ [y28.1]).length c36] 24,Blk b11 [VI 0,.string (⟨#[]⟩:ByteArray),VI 0,.slice none 0 0] 24]) [1,2] 4 rfl rfl rfl) ?_
    refine TA.take 2 rfl (by kernel_rfl) rfl (PQ.then_ (PQ.then_ PQ.body)) rfl (Val.move rfl) (fun W hO=>hO.selT (Ls:=[Blk b10 [VI a1.f0,.string a1.f1,VI a1.f2,.slice A35 (([y12.1]:List S24) ++ [y28.1]).length c36] 24,Blk b11 [VI 0,.string (⟨#[]⟩:ByteArray),VI 0,.slice none 0 0] 24]) [1,2] 4 rfl rfl rfl) ?_
    refine TA.take 3 rfl (by kernel_rfl) rfl (PQ.then_ (PQ.then_ PQ.body)) rfl (Val.move rfl) (fun W hO=>hO.selT (Ls:=[Blk b10 [VI a1.f0,.string a1.f1,VI a1.f2,.slice A35 (([y12.1]:List S24) ++ [y28.1]).length c36] 24,Blk b11 [VI 0,.string (⟨#[]⟩:ByteArray),VI 0,.slice none 0 0] 24]) [1,2] 4 rfl rfl rfl) ?_
    refine TA.take 4 rfl (by kernel_rfl) rfl (PQ.then_ (PQ.then_ PQ.body)) rfl (Val.cmp rfl rfl run_add) (fun W hO=>hO.selT (Ls:=[Blk b10 [VI a1.f0,.string a1.f1,VI a1.f2,.slice A35 (([y12.1]:List S24) ++ [y28.1]).length c36] 24,Blk b11 [VI 0,.string (⟨#[]⟩:ByteArray),VI 0,.slice none 0 0] 24]) [1,2] 4 rfl rfl rfl) ?_
    obtain ⟨y81,hy82,h⟩:=bind_no h
    refine TA.eff 5 rfl (by kernel_rfl) rfl (TL.callV (Lin:=[Blk b1 [.slice A2 a0_0.length c3,VI x43,VI y28.2.2] 67]) (args:=[VP b1 0,VI (IntKind.i64.wrap (a2 + 1))]) rfl rfl rfl hbd49 rfl rfl (ih49 (a0_0:=a0_0) (a0_1:=x43) (a0_2:=y28.2.2) (a1:=IntKind.i64.wrap (a2 + 1)) hr4 hl5 hy82) rfl ?_)
    rintro _ _ _ _ ⟨rfl,A83,c84,rfl,rfl⟩
    refine TA.next (fun W hO=>hO.selT (Ls:=[Blk b10 [VI a1.f0,.string a1.f1,VI a1.f2,.slice A35 (([y12.1]:List S24) ++ [y28.1]).length c36] 24,Blk b11 [VI 0,.string (⟨#[]⟩:ByteArray),VI 0,.slice none 0 0] 24]) [2,3] 5 rfl rfl rfl) ?_
    refine TA.eff 6 rfl (by kernel_rfl) rfl (TL.buildSlice (xs:=[.tmp 34]) (vs:=[.agg #[VI y81.1.f0,.string y81.1.f1,VI y81.1.f2,.slice A83 y81.1.f3.length c84]]) (cs:=[VI y81.1.f0,.string y81.1.f1,VI y81.1.f2,.slice A83 y81.1.f3.length c84]) rfl rfl Try.underlying22 zs24 rfl rfl rfl rfl rfl rfl rfl rfl (fun b86=>?_))
    refine TA.next (fun W hO=>hO.selT (Ls:=[Blk b10 [VI a1.f0,.string a1.f1,VI a1.f2,.slice A35 (([y12.1]:List S24) ++ [y28.1]).length c36] 24,Blk b11 [VI 0,.string (⟨#[]⟩:ByteArray),VI 0,.slice none 0 0] 24]) [3,4] 6 rfl rfl rfl) ?_
    refine TK.sel (Ls:=[Row k24 24 (.slice A83 y81.1.f3.length c84) y81.1.f3,Blk b86 [VI y81.1.f0,.string y81.1.f1,VI y81.1.f2,.slice A83 y81.1.f3.length c84] 24,Blk b1 [.slice A2 a0_0.length c3,VI y81.2.1,VI y81.2.2] 67,Blk b10 [VI a1.f0,.string a1.f1,VI a1.f2,.slice A35 (([y12.1]:List S24) ++ [y28.1]).length c36] 24,Blk b11 [VI 0,.string (⟨#[]⟩:ByteArray),VI 0,.slice none 0 0] 24,Row k24 24 (.slice A35 (([y12.1]:List S24) ++ [y28.1]).length c36) (([y12.1]:List S24) ++ [y28.1])]) [2,0,1,3,4,5] 6 rfl rfl rfl ?_
    refine TK.conv (ch':=El k24 y81.1 [VI y81.1.f0,.string y81.1.f1,VI y81.1.f2,.slice A83 y81.1.f3.length c84]) (fun B W F hh=>k24_mkM W B F y81.1 hh) ?_
    refine TK.sel (Ls:=[Row k24 24 (.slice A35 (([y12.1]:List S24) ++ [y28.1]).length c36) (([y12.1]:List S24) ++ [y28.1]),El k24 y81.1 [VI y81.1.f0,.string y81.1.f1,VI y81.1.f2,.slice A83 y81.1.f3.length c84],Blk b86 [VI y81.1.f0,.string y81.1.f1,VI y81.1.f2,.slice A83 y81.1.f3.length c84] 24,Blk b1 [.slice A2 a0_0.length c3,VI y81.2.1,VI y81.2.2] 67,Blk b10 [VI a1.f0,.string a1.f1,VI a1.f2,.slice A35 (([y12.1]:List S24) ++ [y28.1]).length c36] 24,Blk b11 [VI 0,.string (⟨#[]⟩:ByteArray),VI 0,.slice none 0 0] 24]) [5,0,1,2,3,4] 6 rfl rfl rfl ?_
    obtain ⟨ha87,h⟩:=ite_no h
    refine TA.eff 7 rfl (by kernel_rfl) rfl (TL.append (xs:=(([y12.1]:List S24) ++ [y28.1])) k24 rfl rfl Try.underlying22 inf24 rfl (Nat.le_of_ble_eq_true rfl) (Nat.le_of_ble_eq_true rfl) rfl rfl (by omega) (fun A88 c89=>?_))
    refine TA.next (fun W hO=>hO.selT (Ls:=[Blk b10 [VI a1.f0,.string a1.f1,VI a1.f2,.slice A35 (([y12.1]:List S24) ++ [y28.1]).length c36] 24,Blk b11 [VI 0,.string (⟨#[]⟩:ByteArray),VI 0,.slice none 0 0] 24]) [2,3] 4 rfl rfl rfl) ?_
    refine TA.take 8 rfl (by kernel_rfl) rfl (PQ.then_ (PQ.then_ PQ.body)) rfl (Val.fieldAddrB Try.underlying24 rfl fsz22 rfl rfl rfl) (fun W hO=>hO.selT (Ls:=[Blk b10 [VI a1.f0,.string a1.f1,VI a1.f2,.slice A35 (([y12.1]:List S24) ++ [y28.1]).length c36] 24,Blk b11 [VI 0,.string (⟨#[]⟩:ByteArray),VI 0,.slice none 0 0] 24]) [2,3] 4 rfl rfl rfl) ?_
    refine TA.eff 9 rfl (by kernel_rfl) rfl (TL.store 2 (ds:=[.slice A88 ((([y12.1]:List S24) ++ [y28.1]) ++ [y81.1]).length c89]) (cs':=[VI a1.f0,.string a1.f1,VI a1.f2,.slice A88 ((([y12.1]:List S24) ++ [y28.1]) ++ [y81.1]).length c89]) (L':=(Row k24 24 (.slice A88 ((([y12.1]:List S24) ++ [y28.1]) ++ [y81.1]).length c89) ((([y12.1]:List S24) ++ [y28.1]) ++ [y81.1])::Blk b1 [.slice A2 a0_0.length c3,VI y81.2.1,VI y81.2.2] 67::Blk b10 [VI a1.f0,.string a1.f1,VI a1.f2,.slice A88 ((([y12.1]:List S24) ++ [y28.1]) ++ [y81.1]).length c89] 24::Blk b11 [VI 0,.string (⟨#[]⟩:ByteArray),VI 0,.slice none 0 0] 24::L)) rfl fsz22 rfl rfl rfl rfl rfl (Nat.le_of_ble_eq_true rfl) rfl rfl ?_)
    refine TA.last rfl ?_
    refine TA.done (by kernel_rfl) ?_
    exact fun a W hF hO=>⟨y81.2.1,y81.2.2,((([y12.1]:List S24) ++ [y28.1]) ++ [y81.1]),A88,c89,h,hF.sub ⟨rfl,rfl,trivial⟩,hO.selT (Ls:=[Blk b1 [.slice A2 a0_0.length c3,VI y81.2.1,VI y81.2.2] 67,Blk b10 [VI a1.f0,.string a1.f1,VI a1.f2,.slice A88 ((([y12.1]:List S24) ++ [y28.1]) ++ [y81.1]).length c89] 24,Blk b11 [VI 0,.string (⟨#[]⟩:ByteArray),VI 0,.slice none 0 0] 24,Row k24 24 (.slice A88 ((([y12.1]:List S24) ++ [y28.1]) ++ [y81.1]).length c89) ((([y12.1]:List S24) ++ [y28.1]) ++ [y81.1])]) [1,2,3,0] 4 rfl rfl rfl⟩
   ·
    refine TC.skip ?_
    exact fun a W hF hO=>⟨x43,y28.2.2,(([y12.1]:List S24) ++ [y28.1]),A35,c36,h,hF.sub ⟨rfl,rfl,trivial⟩,hO.selT (Ls:=[Blk b1 [.slice A2 a0_0.length c3,VI x43,VI y28.2.2] 67,Blk b10 [VI a1.f0,.string a1.f1,VI a1.f2,.slice A35 (([y12.1]:List S24) ++ [y28.1]).length c36] 24,Blk b11 [VI 0,.string (⟨#[]⟩:ByteArray),VI 0,.slice none 0 0] 24,Row k24 24 (.slice A35 (([y12.1]:List S24) ++ [y28.1]).length c36) (([y12.1]:List S24) ++ [y28.1])]) [0,1,2,3] 4 rfl rfl rfl⟩
 ·
  refine TC.region ?_
  refine TV rfl rfl rfl (Val.fieldAddrB Try.underlying24 rfl fsz3 rfl rfl rfl) ?_
  refine TV rfl rfl rfl (Val.loadB 3 agg3 rfl rfl rfl) ?_
  refine TV rfl rfl rfl (Val.cmp rfl rfl run_eql) ?_
  refine TV rfl rfl rfl (Val.move rfl) ?_
  refine TK.split (p:=a1.f0=12) h (fun hg90 h=>?_) (fun hg90 h=>?_)
  ·
   have hk91:decide (a1.f0=12)=true:=decide_eq_true hg90
   refine TV (Wt.yes rfl rfl rfl hk91) rfl rfl (Val.move rfl) ?_
   refine TK.sel (Ls:=[Blk b1 [.slice A2 a0_0.length c3,VI y28.2.1,VI y28.2.2] 67,Row k24 24 (.slice A35 (([y12.1]:List S24) ++ [y28.1]).length c36) (([y12.1]:List S24) ++ [y28.1]),Blk b11 [VI 0,.string (⟨#[]⟩:ByteArray),VI 0,.slice none 0 0] 24,Blk b10 [VI a1.f0,.string a1.f1,VI a1.f2,.slice A35 (([y12.1]:List S24) ++ [y28.1]).length c36] 24]) [1,0,2,3] 4 rfl rfl rfl ?_
   obtain ⟨y92,hy93,h⟩:=bind_no h
   refine TL.cons (TL.callV (Lin:=[Blk b1 [.slice A2 a0_0.length c3,VI y28.2.1,VI y28.2.2] 67]) (args:=[VP b1 0,.string (⟨#[101,108,115,101]⟩:ByteArray)]) (Wt.yes rfl rfl rfl hk91) rfl rfl hbd62 rfl rfl (parse_parser_take.calls (a0_0:=a0_0) (a0_1:=y28.2.1) (a0_2:=y28.2.2) (a1:=(⟨#[101,108,115,101]⟩:ByteArray)) hr4 hl5 hy93) rfl ?_)
   rintro _ _ _ _ ⟨rfl,rfl,rfl⟩
   refine TV rfl rfl rfl (Val.pickY rfl hk91 rfl) ?_
   refine TL.nil ?_
   exact fun a W hF hO=>⟨y92.1,y92.2,h,hF.sub ⟨rfl,rfl,rfl,rfl,rfl,trivial⟩,hO.selT (Ls:=[Blk b1 [.slice A2 a0_0.length c3,VI y92.2,VI y28.2.2] 67,Blk b10 [VI a1.f0,.string a1.f1,VI a1.f2,.slice A35 (([y12.1]:List S24) ++ [y28.1]).length c36] 24,Blk b11 [VI 0,.string (⟨#[]⟩:ByteArray),VI 0,.slice none 0 0] 24,Row k24 24 (.slice A35 (([y12.1]:List S24) ++ [y28.1]).length c36) (([y12.1]:List S24) ++ [y28.1])]) [0,3,2,1] 4 rfl rfl rfl⟩
  ·
   have hk94:decide (a1.f0=12)=false:=decide_eq_false hg90
   refine TL.cons (TL.not (Wt.no rfl rfl rfl hk94) rfl ?_)
   refine TL.cons (TL.not (Wt.no rfl rfl rfl hk94) rfl ?_)
   refine TV rfl rfl rfl (Val.pickN rfl hk94 rfl) ?_
   refine TL.nil ?_
   exact fun a W hF hO=>⟨false,y28.2.1,h,hF.sub ⟨rfl,rfl,rfl,rfl,rfl,trivial⟩,hO.selT (Ls:=[Blk b1 [.slice A2 a0_0.length c3,VI y28.2.1,VI y28.2.2] 67,Blk b10 [VI a1.f0,.string a1.f1,VI a1.f2,.slice A35 (([y12.1]:List S24) ++ [y28.1]).length c36] 24,Blk b11 [VI 0,.string (⟨#[]⟩:ByteArray),VI 0,.slice none 0 0] 24,Row k24 24 (.slice A35 (([y12.1]:List S24) ++ [y28.1]).length c36) (([y12.1]:List S24) ++ [y28.1])]) [1,3,2,0] 4 rfl rfl rfl⟩
def parse_parser_block.fix:Nat → ((List S41) → Int → Int → Int → Option (S24 × Int × Int)) × ((List S41) → Int → Int → Int → Option (S24 × Int × Int)) × ((List S41) → Int → Int → S24 → Int → Option (S24 × Int × Int))
 | 0=>((fun _ _ _ _=>none),(fun _ _ _ _=>none),(fun _ _ _ _ _=>none))
 | n + 1=>(parse_parser_block.g (parse_parser_block.fix n).1 (parse_parser_block.fix n).2.1 (parse_parser_block.fix n).2.2,parse_parser_statement.g (parse_parser_block.fix n).1 (parse_parser_block.fix n).2.1 (parse_parser_block.fix n).2.2,parse_parser_branches.g (parse_parser_block.fix n).1 (parse_parser_block.fix n).2.1 (parse_parser_block.fix n).2.2)
theorem parse_parser_block.fixc:∀ k,(∀ {G:Gd} {r:(S24 × Int × Int)} {a0_0:(List S41)} {a0_1:Int} {a0_2:Int} {a1:Int} {b1:Nat} {A2:Option Addr} {c3:Nat} (hr4:Rd G k41 A2 a0_0) (hl5:a0_0.length ≤ c3),(parse_parser_block.fix k).1 a0_0 a0_1 a0_2 a1=some r → Fn Try.prog 49 G [Blk b1 [.slice A2 a0_0.length c3,VI a0_1,VI a0_2] 67] [VP b1 0,VI a1] (parse_parser_block.post G b1 A2 c3 a0_0 a0_1 a0_2 a1 r))∧(∀ {G:Gd} {r:(S24 × Int × Int)} {a0_0:(List S41)} {a0_1:Int} {a0_2:Int} {a1:Int} {b1:Nat} {A2:Option Addr} {c3:Nat} (hr4:Rd G k41 A2 a0_0) (hl5:a0_0.length ≤ c3),(parse_parser_block.fix k).2.1 a0_0 a0_1 a0_2 a1=some r → Fn Try.prog 68 G [Blk b1 [.slice A2 a0_0.length c3,VI a0_1,VI a0_2] 67] [VP b1 0,VI a1] (parse_parser_statement.post G b1 A2 c3 a0_0 a0_1 a0_2 a1 r))∧(∀ {G:Gd} {r:(S24 × Int × Int)} {a0_0:(List S41)} {a0_1:Int} {a0_2:Int} {a1:S24} {a2:Int} {b1:Nat} {A2:Option Addr} {c3:Nat} {A6:Option Addr} {c7:Nat} (hr4:Rd G k41 A2 a0_0) (hl5:a0_0.length ≤ c3) (hr8:Rd G k24 A6 a1.f3) (hl9:a1.f3.length ≤ c7),(parse_parser_block.fix k).2.2 a0_0 a0_1 a0_2 a1 a2=some r → Fn Try.prog 71 G [Blk b1 [.slice A2 a0_0.length c3,VI a0_1,VI a0_2] 67] [VP b1 0,.agg #[VI a1.f0,.string a1.f1,VI a1.f2,.slice A6 a1.f3.length c7],VI a2] (parse_parser_branches.post G b1 A2 c3 A6 c7 a0_0 a0_1 a0_2 a1 a2 r))∧True
 | 0=>⟨(by intros; contradiction),(by intros; contradiction),(by intros; contradiction),trivial⟩
 | k + 1=>by
  have ih:=parse_parser_block.fixc k
  exact ⟨(by
   intro G r a0_0 a0_1 a0_2 a1 b1 A2 c3 hr4 hl5 h
   exact parse_parser_block.step _ _ _ ih.1 ih.2.1 ih.2.2.1 hr4 hl5 h),(by
   intro G r a0_0 a0_1 a0_2 a1 b1 A2 c3 hr4 hl5 h
   exact parse_parser_statement.step _ _ _ ih.1 ih.2.1 ih.2.2.1 hr4 hl5 h),(by
   intro G r a0_0 a0_1 a0_2 a1 a2 b1 A2 c3 A6 c7 hr4 hl5 hr8 hl9 h
   exact parse_parser_branches.step _ _ _ ih.1 ih.2.1 ih.2.2.1 hr4 hl5 hr8 hl9 h),trivial⟩
def parse_parser_block.f (a0_0:(List S41)) (a0_1:Int) (a0_2:Int) (a1:Int):Option (S24 × Int × Int):=(parse_parser_block.fix 100000).1 a0_0 a0_1 a0_2 a1
theorem parse_parser_block.calls {G:Gd} {r:(S24 × Int × Int)} {a0_0:(List S41)} {a0_1:Int} {a0_2:Int} {a1:Int} {b1:Nat} {A2:Option Addr} {c3:Nat} (hr4:Rd G k41 A2 a0_0) (hl5:a0_0.length ≤ c3) (h:parse_parser_block.f a0_0 a0_1 a0_2 a1=some r):Fn Try.prog 49 G [Blk b1 [.slice A2 a0_0.length c3,VI a0_1,VI a0_2] 67] [VP b1 0,VI a1] (parse_parser_block.post G b1 A2 c3 a0_0 a0_1 a0_2 a1 r):=(parse_parser_block.fixc 100000).1 hr4 hl5 h
def parse_parser_statement.f (a0_0:(List S41)) (a0_1:Int) (a0_2:Int) (a1:Int):Option (S24 × Int × Int):=(parse_parser_block.fix 100000).2.1 a0_0 a0_1 a0_2 a1
theorem parse_parser_statement.calls {G:Gd} {r:(S24 × Int × Int)} {a0_0:(List S41)} {a0_1:Int} {a0_2:Int} {a1:Int} {b1:Nat} {A2:Option Addr} {c3:Nat} (hr4:Rd G k41 A2 a0_0) (hl5:a0_0.length ≤ c3) (h:parse_parser_statement.f a0_0 a0_1 a0_2 a1=some r):Fn Try.prog 68 G [Blk b1 [.slice A2 a0_0.length c3,VI a0_1,VI a0_2] 67] [VP b1 0,VI a1] (parse_parser_statement.post G b1 A2 c3 a0_0 a0_1 a0_2 a1 r):=(parse_parser_block.fixc 100000).2.1 hr4 hl5 h
def parse_parser_branches.f (a0_0:(List S41)) (a0_1:Int) (a0_2:Int) (a1:S24) (a2:Int):Option (S24 × Int × Int):=(parse_parser_block.fix 100000).2.2 a0_0 a0_1 a0_2 a1 a2
theorem parse_parser_branches.calls {G:Gd} {r:(S24 × Int × Int)} {a0_0:(List S41)} {a0_1:Int} {a0_2:Int} {a1:S24} {a2:Int} {b1:Nat} {A2:Option Addr} {c3:Nat} {A6:Option Addr} {c7:Nat} (hr4:Rd G k41 A2 a0_0) (hl5:a0_0.length ≤ c3) (hr8:Rd G k24 A6 a1.f3) (hl9:a1.f3.length ≤ c7) (h:parse_parser_branches.f a0_0 a0_1 a0_2 a1 a2=some r):Fn Try.prog 71 G [Blk b1 [.slice A2 a0_0.length c3,VI a0_1,VI a0_2] 67] [VP b1 0,.agg #[VI a1.f0,.string a1.f1,VI a1.f2,.slice A6 a1.f3.length c7],VI a2] (parse_parser_branches.post G b1 A2 c3 A6 c7 a0_0 a0_1 a0_2 a1 a2 r):=(parse_parser_block.fixc 100000).2.2.1 hr4 hl5 hr8 hl9 h
def parse_parser_function.l0 (a0_0:(List S41)):Nat → (List S24) → Int → Int → Option ((List S24) × Int × Int)
 | 0,_,_,_=>none
 | n473 + 1,l438,x442,x443=>(parse_parser_take.f a0_0 x442 x443 (⟨#[44]⟩:ByteArray)).bind fun (y497:(Bool × Int))=>(if y497.1=true then (parse_parser_param.f a0_0 y497.2 x443).bind fun (y510:(S24 × Int × Int))=>(if l438.length < 2513169434916 then parse_parser_function.l0 a0_0 n473 (l438 ++ [y510.1]) y510.2.1 y510.2.2 else none) else some (l438,y497.2,x443))
def parse_parser_function.f (a0_0:(List S41)) (a0_1:Int) (a0_2:Int):Option (S24 × Int × Int):=(parse_parser_start.f a0_0 a0_1 a0_2).bind fun (y7:Int)=>(parse_parser_must.f a0_0 a0_1 a0_2 (⟨#[102,117,110,99]⟩:ByteArray)).bind fun (y10:(Int × Int))=>(parse_parser_text.f a0_0 y10.1 y10.2 1).bind fun (y12:(ByteArray × Int × Int))=>(parse_parser_must.f a0_0 y12.2.1 y12.2.2 (⟨#[40]⟩:ByteArray)).bind fun (y14:(Int × Int))=>(parse_parser_fixed.f a0_0 y14.1 y14.2).bind fun (y16:ByteArray)=>jn (γ:=(S24 × Int × Int)) (fun (x198:Int) (x199:Int) (l200:(List S24))=>(parse_parser_must.f a0_0 x198 x199 (⟨#[41]⟩:ByteArray)).bind fun (y205:(Int × Int))=>(parse_parser_start.f a0_0 y205.1 y205.2).bind fun (y207:Int)=>(parse_parser_fixed.f a0_0 y205.1 y205.2).bind fun (y210:ByteArray)=>jn (γ:=(S24 × Int × Int)) (fun (x218:Int) (x219:Int) (x220:Int) (x221:ByteArray) (x222:Int) (l223:(List S24))=>(parse_parser_block.f a0_0 x218 x219 1).bind fun (y246:(S24 × Int × Int))=>(if l200.length + 2 ≤ 2513169434916 then some ((⟨2,y12.1,y7,(l200 ++ ([(⟨x220,x221,x222,l223⟩:S24),y246.1]:List S24))⟩:S24),y246.2.1,y246.2.2) else none)) (fun (j227:(Int → Int → Int → ByteArray → Int → (List S24) → Option (S24 × Int × Int)))=>(if (!(y210.data.toList == (⟨#[123]⟩:ByteArray).data.toList))=true then (parse_parser_typ.f a0_0 y205.1 y205.2 1).bind fun (y256:(S24 × Int × Int))=>j227 y256.2.1 y256.2.2 y256.1.f0 y256.1.f1 y256.1.f2 y256.1.f3 else j227 y205.1 y205.2 4 (⟨#[]⟩:ByteArray) y207 []))) (fun (j204:(Int → Int → (List S24) → Option (S24 × Int × Int)))=>(if (!(y16.data.toList == (⟨#[41]⟩:ByteArray).data.toList))=true then (parse_parser_param.f a0_0 y14.1 y14.2).bind fun (y368:(S24 × Int × Int))=>(parse_parser_function.l0 a0_0 100000 ([y368.1]:List S24) y368.2.1 y368.2.2).bind fun (l466,x470,x471)=>j204 x470 x471 l466 else j204 y14.1 y14.2 []))
def parse_parser_function.post (G:Gd) (b1:Nat) (A2:Option Addr) (c3:Nat) (a0_0:(List S41)) (a0_1:Int) (a0_2:Int) (r:(S24 × Int × Int)) (v:Value) (G':Gd) (Lr:List Ch):Prop:=G=G'∧∃ (A_1:Option Addr) (c_1:Nat),v=.agg #[VI r.1.f0,.string r.1.f1,VI r.1.f2,.slice A_1 r.1.f3.length c_1]∧Lr=[Blk b1 [.slice A2 a0_0.length c3,VI r.2.1,VI r.2.2] 67,Row k24 24 (.slice A_1 r.1.f3.length c_1) r.1.f3]
theorem parse_parser_function.calls {G:Gd} {r:(S24 × Int × Int)} {a0_0:(List S41)} {a0_1:Int} {a0_2:Int} {b1:Nat} {A2:Option Addr} {c3:Nat} (hr4:Rd G k41 A2 a0_0) (hl5:a0_0.length ≤ c3) (h:parse_parser_function.f a0_0 a0_1 a0_2=some r):Fn Try.prog 30 G [Blk b1 [.slice A2 a0_0.length c3,VI a0_1,VI a0_2] 67] [VP b1 0] (parse_parser_function.post G b1 A2 c3 a0_0 a0_1 a0_2 r):=by
 refine Fn.intro (e:=[(0,VP b1 0)]) 42 Try.func30 rfl Try.ntmps30 rfl rfl (Nat.le_of_ble_eq_true rfl) (fun L=>?_)
 unfold parse_parser_function.f at h
 refine TC.seq ?_
 refine TC.region ?_
 refine TL.cons (TL.alloc (cs:=[VI 0,.string (⟨#[]⟩:ByteArray),VI 0,.slice none 0 0]) rfl rfl zr24 rfl (fun b6=>?_))
 refine TL.nil ?_
 refine TQ.then_ ?_
 refine TC.seq ?_
 refine TC.region ?_
 refine TV rfl rfl rfl (Val.move rfl) ?_
 refine TK.sel (Ls:=[Blk b1 [.slice A2 a0_0.length c3,VI a0_1,VI a0_2] 67,Blk b6 [VI 0,.string (⟨#[]⟩:ByteArray),VI 0,.slice none 0 0] 24]) [1,0] 2 rfl rfl rfl ?_
 obtain ⟨y7,hy8,h⟩:=bind_no h
 refine TL.cons (TL.callV (Lin:=[Blk b1 [.slice A2 a0_0.length c3,VI a0_1,VI a0_2] 67]) (args:=[VP b1 0]) rfl rfl rfl hbd29 rfl rfl (parse_parser_start.calls (a0_0:=a0_0) (a0_1:=a0_1) (a0_2:=a0_2) hr4 hl5 hy8) rfl ?_)
 rintro _ _ _ _ ⟨rfl,rfl,rfl⟩
 refine TV rfl rfl rfl (Val.build (cs:=[VI 2,.string (⟨#[]⟩:ByteArray),VI y7,.slice none 0 0]) (is:=[0,2]) (xs:=[.const (VI 2),.tmp 6]) Try.underlying24 zr24 bld24 rfl rfl rfl rfl) ?_
 refine TL.cons (TL.alloc (cs:=[VI 0,.string (⟨#[]⟩:ByteArray),VI 0,.slice none 0 0]) rfl rfl zr24 rfl (fun b9=>?_))
 refine TL.cons (TL.store 0 (ds:=[VI 2,.string (⟨#[]⟩:ByteArray),VI y7,.slice none 0 0]) (cs':=[VI 2,.string (⟨#[]⟩:ByteArray),VI y7,.slice none 0 0]) (L':=(Blk b9 [VI 2,.string (⟨#[]⟩:ByteArray),VI y7,.slice none 0 0] 24::Blk b1 [.slice A2 a0_0.length c3,VI a0_1,VI a0_2] 67::Blk b6 [VI 0,.string (⟨#[]⟩:ByteArray),VI 0,.slice none 0 0] 24::L)) rfl fsz24 rfl rfl rfl rfl rfl (Nat.le_of_ble_eq_true rfl) rfl rfl ?_)
 refine TL.nil ?_
 refine TQ.then_ ?_
 refine TC.seq ?_
 refine TC.region ?_
 refine TV rfl rfl rfl (Val.move rfl) ?_
 refine TK.sel (Ls:=[Blk b1 [.slice A2 a0_0.length c3,VI a0_1,VI a0_2] 67,Blk b9 [VI 2,.string (⟨#[]⟩:ByteArray),VI y7,.slice none 0 0] 24,Blk b6 [VI 0,.string (⟨#[]⟩:ByteArray),VI 0,.slice none 0 0] 24]) [1,0,2] 3 rfl rfl rfl ?_
 obtain ⟨y10,hy11,h⟩:=bind_no h
 refine TL.cons (TL.callV (Lin:=[Blk b1 [.slice A2 a0_0.length c3,VI a0_1,VI a0_2] 67]) (args:=[VP b1 0,.string (⟨#[102,117,110,99]⟩:ByteArray)]) rfl rfl rfl hbd43 rfl rfl (parse_parser_must.calls (a0_0:=a0_0) (a0_1:=a0_1) (a0_2:=a0_2) (a1:=(⟨#[102,117,110,99]⟩:ByteArray)) hr4 hl5 hy11) rfl ?_)
 rintro _ _ _ _ ⟨rfl,rfl,rfl⟩
 refine TL.nil ?_
 refine TQ.then_ ?_
 refine TC.seq ?_
 refine TC.region ?_
 refine TV rfl rfl rfl (Val.move rfl) ?_
 obtain ⟨y12,hy13,h⟩:=bind_no h
 refine TL.cons (TL.callV (Lin:=[Blk b1 [.slice A2 a0_0.length c3,VI y10.1,VI y10.2] 67]) (args:=[VP b1 0,VI 1]) rfl rfl rfl hbd44 rfl rfl (parse_parser_text.calls (a0_0:=a0_0) (a0_1:=y10.1) (a0_2:=y10.2) (a1:=1) hr4 hl5 hy13) rfl ?_)
 rintro _ _ _ _ ⟨rfl,rfl,rfl⟩
 refine TV rfl rfl rfl (Val.fieldAddrB Try.underlying24 rfl fsz9 rfl rfl rfl) ?_
 refine TL.cons (TL.store 1 (ds:=[.string y12.1]) (cs':=[VI 2,.string y12.1,VI y7,.slice none 0 0]) (L':=(Blk b1 [.slice A2 a0_0.length c3,VI y12.2.1,VI y12.2.2] 67::Blk b9 [VI 2,.string y12.1,VI y7,.slice none 0 0] 24::Blk b6 [VI 0,.string (⟨#[]⟩:ByteArray),VI 0,.slice none 0 0] 24::L)) rfl fsz9 rfl rfl rfl rfl rfl (Nat.le_of_ble_eq_true rfl) rfl rfl ?_)
 refine TL.nil ?_
 refine TQ.then_ ?_
 refine TC.seq ?_
 refine TC.region ?_
 refine TV rfl rfl rfl (Val.move rfl) ?_
 obtain ⟨y14,hy15,h⟩:=bind_no h
 refine TL.cons (TL.callV (Lin:=[Blk b1 [.slice A2 a0_0.length c3,VI y12.2.1,VI y12.2.2] 67]) (args:=[VP b1 0,.string (⟨#[40]⟩:ByteArray)]) rfl rfl rfl hbd43 rfl rfl (parse_parser_must.calls (a0_0:=a0_0) (a0_1:=y12.2.1) (a0_2:=y12.2.2) (a1:=(⟨#[40]⟩:ByteArray)) hr4 hl5 hy15) rfl ?_)
 rintro _ _ _ _ ⟨rfl,rfl,rfl⟩
 refine TL.nil ?_
 refine TQ.then_ ?_
 refine TC.seq ?_
 refine TC.seq ?_
 refine TC.region ?_
 refine TV rfl rfl rfl (Val.move rfl) ?_
 obtain ⟨y16,hy17,h⟩:=bind_no h
 refine TL.cons (TL.callV (Lin:=[Blk b1 [.slice A2 a0_0.length c3,VI y14.1,VI y14.2] 67]) (args:=[VP b1 0]) rfl rfl rfl hbd45 rfl rfl (parse_parser_fixed.calls (a0_0:=a0_0) (a0_1:=y14.1) (a0_2:=y14.2) hr4 hl5 hy17) rfl ?_)
 rintro _ _ _ _ ⟨rfl,rfl,rfl⟩
 refine TV rfl rfl rfl (Val.neT rfl rfl) ?_
 refine TL.nil ?_
 refine TQ.then_ ?_
 obtain ⟨j204,hj204,h⟩:=jn_no h
 refine TC.tail (fun a W=>∃ (x198:Int) (x199:Int) (l200:(List S24)) (A201:Option Addr) (c202:Nat),j204 x198 x199 l200=some r∧Fr 42 a [(0,VP b1 0),(2,VP b6 0),(3,VP b9 0)]∧Own G (Blk b1 [.slice A2 a0_0.length c3,VI x198,VI x199] 67::Blk b6 [VI 0,.string (⟨#[]⟩:ByteArray),VI 0,.slice none 0 0] 24::Blk b9 [VI 2,.string y12.1,VI y7,.slice A201 l200.length c202] 24::Row k24 24 (.slice A201 l200.length c202) l200::L) W) ?_ ?_
 ·
  rintro a W ⟨x198,x199,l200,A201,c202,h,hF,hO⟩
  rw [hj204] at h
  refine TQ.use ?_ hF hO
  clear hF hO
  refine TQ.then_ ?_
  refine TC.seq ?_
  refine TC.region ?_
  refine TV rfl rfl rfl (Val.move rfl) ?_
  obtain ⟨y205,hy206,h⟩:=bind_no h
  refine TL.cons (TL.callV (Lin:=[Blk b1 [.slice A2 a0_0.length c3,VI x198,VI x199] 67]) (args:=[VP b1 0,.string (⟨#[41]⟩:ByteArray)]) rfl rfl rfl hbd43 rfl rfl (parse_parser_must.calls (a0_0:=a0_0) (a0_1:=x198) (a0_2:=x199) (a1:=(⟨#[41]⟩:ByteArray)) hr4 hl5 hy206) rfl ?_)
  rintro _ _ _ _ ⟨rfl,rfl,rfl⟩
  refine TL.nil ?_
  refine TQ.then_ ?_
  refine TC.seq ?_
  refine TC.region ?_
  refine TV rfl rfl rfl (Val.move rfl) ?_
  obtain ⟨y207,hy208,h⟩:=bind_no h
  refine TL.cons (TL.callV (Lin:=[Blk b1 [.slice A2 a0_0.length c3,VI y205.1,VI y205.2] 67]) (args:=[VP b1 0]) rfl rfl rfl hbd29 rfl rfl (parse_parser_start.calls (a0_0:=a0_0) (a0_1:=y205.1) (a0_2:=y205.2) hr4 hl5 hy208) rfl ?_)
  rintro _ _ _ _ ⟨rfl,rfl,rfl⟩
  refine TV rfl rfl rfl (Val.build (cs:=[VI 4,.string (⟨#[]⟩:ByteArray),VI y207,.slice none 0 0]) (is:=[0,2]) (xs:=[.const (VI 4),.tmp 26]) Try.underlying24 zr24 bld24 rfl rfl rfl rfl) ?_
  refine TL.cons (TL.alloc (cs:=[VI 0,.string (⟨#[]⟩:ByteArray),VI 0,.slice none 0 0]) rfl rfl zr24 rfl (fun b209=>?_))
  refine TL.cons (TL.store 0 (ds:=[VI 4,.string (⟨#[]⟩:ByteArray),VI y207,.slice none 0 0]) (cs':=[VI 4,.string (⟨#[]⟩:ByteArray),VI y207,.slice none 0 0]) (L':=(Blk b209 [VI 4,.string (⟨#[]⟩:ByteArray),VI y207,.slice none 0 0] 24::Blk b1 [.slice A2 a0_0.length c3,VI y205.1,VI y205.2] 67::Blk b6 [VI 0,.string (⟨#[]⟩:ByteArray),VI 0,.slice none 0 0] 24::Blk b9 [VI 2,.string y12.1,VI y7,.slice A201 l200.length c202] 24::Row k24 24 (.slice A201 l200.length c202) l200::L)) rfl fsz24 rfl rfl rfl rfl rfl (Nat.le_of_ble_eq_true rfl) rfl rfl ?_)
  refine TL.nil ?_
  refine TQ.then_ ?_
  refine TC.seq ?_
  refine TC.seq ?_
  refine TC.region ?_
  refine TV rfl rfl rfl (Val.move rfl) ?_
  refine TK.sel (Ls:=[Blk b1 [.slice A2 a0_0.length c3,VI y205.1,VI y205.2] 67,Blk b209 [VI 4,.string (⟨#[]⟩:ByteArray),VI y207,.slice none 0 0] 24,Blk b6 [VI 0,.string (⟨#[]⟩:ByteArray),VI 0,.slice none 0 0] 24,Blk b9 [VI 2,.string y12.1,VI y7,.slice A201 l200.length c202] 24,Row k24 24 (.slice A201 l200.length c202) l200]) [1,0,2,3,4] 5 rfl rfl rfl ?_
  obtain ⟨y210,hy211,h⟩:=bind_no h
  refine TL.cons (TL.callV (Lin:=[Blk b1 [.slice A2 a0_0.length c3,VI y205.1,VI y205.2] 67]) (args:=[VP b1 0]) rfl rfl rfl hbd45 rfl rfl (parse_parser_fixed.calls (a0_0:=a0_0) (a0_1:=y205.1) (a0_2:=y205.2) hr4 hl5 hy211) rfl ?_)
  rintro _ _ _ _ ⟨rfl,rfl,rfl⟩
  refine TV rfl rfl rfl (Val.neT rfl rfl) ?_
  refine TL.nil ?_
  refine TQ.then_ ?_
  obtain ⟨j227,hj227,h⟩:=jn_no h
  refine TC.tail (fun a W=>∃ (x218:Int) (x219:Int) (x220:Int) (x221:ByteArray) (x222:Int) (l223:(List S24)) (A224:Option Addr) (c225:Nat),j227 x218 x219 x220 x221 x222 l223=some r∧Fr 42 a [(0,VP b1 0),(2,VP b6 0),(3,VP b9 0),(4,VP b209 0)]∧Own G (Blk b1 [.slice A2 a0_0.length c3,VI x218,VI x219] 67::Blk b209 [VI x220,.string x221,VI x222,.slice A224 l223.length c225] 24::Blk b6 [VI 0,.string (⟨#[]⟩:ByteArray),VI 0,.slice none 0 0] 24::Blk b9 [VI 2,.string y12.1,VI y7,.slice A201 l200.length c202] 24::Row k24 24 (.slice A224 l223.length c225) l223::Row k24 24 (.slice A201 l200.length c202) l200::L) W) ?_ ?_
  ·
   rintro a W ⟨x218,x219,x220,x221,x222,l223,A224,c225,h,hF,hO⟩
   rw [hj227] at h
   refine TQ.use ?_ hF hO
   clear hF hO
   refine TQ.then_ ?_
   refine TC.seq ?_
   refine TC.regionAnyS (L0:=(Blk b209 [VI x220,.string x221,VI x222,.slice A224 l223.length c225] 24::Blk b6 [VI 0,.string (⟨#[]⟩:ByteArray),VI 0,.slice none 0 0] 24::Blk b9 [VI 2,.string y12.1,VI y7,.slice A201 l200.length c202] 24::Row k24 24 (.slice A224 l223.length c225) l223::Row k24 24 (.slice A201 l200.length c202) l200::L)) [6,7,8] [0,1,2,3] mixed (by kernel_rfl) ?_
   refine TA.take 0 rfl (by kernel_rfl) rfl (PQ.then_ PQ.body) rfl (Val.fieldAddrB Try.underlying24 rfl fsz22 rfl rfl rfl) (fun W hO=>hO.selT (Ls:=[Blk b209 [VI x220,.string x221,VI x222,.slice A224 l223.length c225] 24,Blk b6 [VI 0,.string (⟨#[]⟩:ByteArray),VI 0,.slice none 0 0] 24,Blk b9 [VI 2,.string y12.1,VI y7,.slice A201 l200.length c202] 24,Row k24 24 (.slice A224 l223.length c225) l223,Row k24 24 (.slice A201 l200.length c202) l200]) [1,2,3,4,5] 6 rfl rfl rfl) ?_
   refine TA.take 1 rfl (by kernel_rfl) rfl (PQ.then_ PQ.body) rfl (Val.loadB 2 agg22 rfl rfl rfl) (fun W hO=>hO.selT (Ls:=[Blk b209 [VI x220,.string x221,VI x222,.slice A224 l223.length c225] 24,Blk b6 [VI 0,.string (⟨#[]⟩:ByteArray),VI 0,.slice none 0 0] 24,Blk b9 [VI 2,.string y12.1,VI y7,.slice A201 l200.length c202] 24,Row k24 24 (.slice A224 l223.length c225) l223,Row k24 24 (.slice A201 l200.length c202) l200]) [1,2,3,4,5] 6 rfl rfl rfl) ?_
   refine TA.take 2 rfl (by kernel_rfl) rfl (PQ.then_ PQ.body) rfl (Val.loadsB 0 (cs:=[VI x220,.string x221,VI x222,.slice A224 l223.length c225]) agg24 fsz24 rfl rfl rfl rfl) (fun W hO=>hO.selT (Ls:=[Blk b209 [VI x220,.string x221,VI x222,.slice A224 l223.length c225] 24,Blk b6 [VI 0,.string (⟨#[]⟩:ByteArray),VI 0,.slice none 0 0] 24,Blk b9 [VI 2,.string y12.1,VI y7,.slice A201 l200.length c202] 24,Row k24 24 (.slice A224 l223.length c225) l223,Row k24 24 (.slice A201 l200.length c202) l200]) [1,2,3,4,5] 6 rfl rfl rfl) ?_
   refine TA.take 3 rfl (by kernel_rfl) rfl (PQ.then_ PQ.body) rfl (Val.move rfl) (fun W hO=>hO.selT (Ls:=[Blk b209 [VI x220,.string x221,VI x222,.slice A224 l223.length c225] 24,Blk b6 [VI 0,.string (⟨#[]⟩:ByteArray),VI 0,.slice none 0 0] 24,Blk b9 [VI 2,.string y12.1,VI y7,.slice A201 l200.length c202] 24,Row k24 24 (.slice A224 l223.length c225) l223,Row k24 24 (.slice A201 l200.length c202) l200]) [1,2,3,4,5] 6 rfl rfl rfl) ?_
   obtain ⟨y246,hy247,h⟩:=bind_no h
   refine TA.eff 4 rfl (by kernel_rfl) rfl (TL.callV (Lin:=[Blk b1 [.slice A2 a0_0.length c3,VI x218,VI x219] 67]) (args:=[VP b1 0,VI 1]) rfl rfl rfl hbd49 rfl rfl (parse_parser_block.calls (a0_0:=a0_0) (a0_1:=x218) (a0_2:=x219) (a1:=1) hr4 hl5 hy247) rfl ?_)
   rintro _ _ _ _ ⟨rfl,A248,c249,rfl,rfl⟩
   refine TA.next (fun W hO=>hO.selT (Ls:=[Blk b209 [VI x220,.string x221,VI x222,.slice A224 l223.length c225] 24,Blk b6 [VI 0,.string (⟨#[]⟩:ByteArray),VI 0,.slice none 0 0] 24,Blk b9 [VI 2,.string y12.1,VI y7,.slice A201 l200.length c202] 24,Row k24 24 (.slice A224 l223.length c225) l223,Row k24 24 (.slice A201 l200.length c202) l200]) [2,3,4,5,6] 7 rfl rfl rfl) ?_
   refine TA.eff 5 rfl (by kernel_rfl) rfl (TL.buildSlice (xs:=[.tmp 35,.tmp 37]) (vs:=[.agg #[VI x220,.string x221,VI x222,.slice A224 l223.length c225],.agg #[VI y246.1.f0,.string y246.1.f1,VI y246.1.f2,.slice A248 y246.1.f3.length c249]]) (cs:=[VI x220,.string x221,VI x222,.slice A224 l223.length c225,VI y246.1.f0,.string y246.1.f1,VI y246.1.f2,.slice A248 y246.1.f3.length c249]) rfl rfl Try.underlying22 zs24 rfl rfl rfl rfl rfl rfl rfl rfl (fun b251=>?_))
   refine TA.next (fun W hO=>hO.selT (Ls:=[Blk b209 [VI x220,.string x221,VI x222,.slice A224 l223.length c225] 24,Blk b6 [VI 0,.string (⟨#[]⟩:ByteArray),VI 0,.slice none 0 0] 24,Blk b9 [VI 2,.string y12.1,VI y7,.slice A201 l200.length c202] 24,Row k24 24 (.slice A224 l223.length c225) l223,Row k24 24 (.slice A201 l200.length c202) l200]) [3,4,5,6,7] 8 rfl rfl rfl) ?_
   refine TK.new (Els.nil k24) ?_
   refine TK.sel (Ls:=[Row k24 24 (.slice A224 l223.length c225) l223,Els k24 [] [],Blk b251 [VI x220,.string x221,VI x222,.slice A224 l223.length c225,VI y246.1.f0,.string y246.1.f1,VI y246.1.f2,.slice A248 y246.1.f3.length c249] 24,Blk b1 [.slice A2 a0_0.length c3,VI y246.2.1,VI y246.2.2] 67,Row k24 24 (.slice A248 y246.1.f3.length c249) y246.1.f3,Blk b209 [VI x220,.string x221,VI x222,.slice A224 l223.length c225] 24,Blk b6 [VI 0,.string (⟨#[]⟩:ByteArray),VI 0,.slice none 0 0] 24,Blk b9 [VI 2,.string y12.1,VI y7,.slice A201 l200.length c202] 24,Row k24 24 (.slice A201 l200.length c202) l200]) [7,0,1,2,3,4,5,6,8] 9 rfl rfl rfl ?_
   refine TK.conv (ch':=El k24 (⟨x220,x221,x222,l223⟩:S24) [VI x220,.string x221,VI x222,.slice A224 l223.length c225]) (fun B W F hh=>k24_mkM W B F (⟨x220,x221,x222,l223⟩:S24) hh) ?_
   refine TK.sel (Ls:=[Els k24 [] [],El k24 (⟨x220,x221,x222,l223⟩:S24) [VI x220,.string x221,VI x222,.slice A224 l223.length c225],Blk b251 [VI x220,.string x221,VI x222,.slice A224 l223.length c225,VI y246.1.f0,.string y246.1.f1,VI y246.1.f2,.slice A248 y246.1.f3.length c249] 24,Blk b1 [.slice A2 a0_0.length c3,VI y246.2.1,VI y246.2.2] 67,Row k24 24 (.slice A248 y246.1.f3.length c249) y246.1.f3,Blk b209 [VI x220,.string x221,VI x222,.slice A224 l223.length c225] 24,Blk b6 [VI 0,.string (⟨#[]⟩:ByteArray),VI 0,.slice none 0 0] 24,Blk b9 [VI 2,.string y12.1,VI y7,.slice A201 l200.length c202] 24,Row k24 24 (.slice A201 l200.length c202) l200]) [1,0,2,3,4,5,6,7,8] 9 rfl rfl rfl ?_
   refine TK.two (ch:=Els k24 [(⟨x220,x221,x222,l223⟩:S24)] [VI x220,.string x221,VI x222,.slice A224 l223.length c225]) (Els.snoc k24) ?_
   refine TK.sel (Ls:=[Row k24 24 (.slice A248 y246.1.f3.length c249) y246.1.f3,Els k24 [(⟨x220,x221,x222,l223⟩:S24)] [VI x220,.string x221,VI x222,.slice A224 l223.length c225],Blk b251 [VI x220,.string x221,VI x222,.slice A224 l223.length c225,VI y246.1.f0,.string y246.1.f1,VI y246.1.f2,.slice A248 y246.1.f3.length c249] 24,Blk b1 [.slice A2 a0_0.length c3,VI y246.2.1,VI y246.2.2] 67,Blk b209 [VI x220,.string x221,VI x222,.slice A224 l223.length c225] 24,Blk b6 [VI 0,.string (⟨#[]⟩:ByteArray),VI 0,.slice none 0 0] 24,Blk b9 [VI 2,.string y12.1,VI y7,.slice A201 l200.length c202] 24,Row k24 24 (.slice A201 l200.length c202) l200]) [3,0,1,2,4,5,6,7] 8 rfl rfl rfl ?_
   refine TK.conv (ch':=El k24 y246.1 [VI y246.1.f0,.string y246.1.f1,VI y246.1.f2,.slice A248 y246.1.f3.length c249]) (fun B W F hh=>k24_mkM W B F y246.1 hh) ?_
   refine TK.sel (Ls:=[Els k24 [(⟨x220,x221,x222,l223⟩:S24)] [VI x220,.string x221,VI x222,.slice A224 l223.length c225],El k24 y246.1 [VI y246.1.f0,.string y246.1.f1,VI y246.1.f2,.slice A248 y246.1.f3.length c249],Blk b251 [VI x220,.string x221,VI x222,.slice A224 l223.length c225,VI y246.1.f0,.string y246.1.f1,VI y246.1.f2,.slice A248 y246.1.f3.length c249] 24,Blk b1 [.slice A2 a0_0.length c3,VI y246.2.1,VI y246.2.2] 67,Blk b209 [VI x220,.string x221,VI x222,.slice A224 l223.length c225] 24,Blk b6 [VI 0,.string (⟨#[]⟩:ByteArray),VI 0,.slice none 0 0] 24,Blk b9 [VI 2,.string y12.1,VI y7,.slice A201 l200.length c202] 24,Row k24 24 (.slice A201 l200.length c202) l200]) [1,0,2,3,4,5,6,7] 8 rfl rfl rfl ?_
   refine TK.two (ch:=Els k24 [(⟨x220,x221,x222,l223⟩:S24),y246.1] [VI x220,.string x221,VI x222,.slice A224 l223.length c225,VI y246.1.f0,.string y246.1.f1,VI y246.1.f2,.slice A248 y246.1.f3.length c249]) (Els.snoc k24) ?_
   refine TK.sel (Ls:=[Row k24 24 (.slice A201 l200.length c202) l200,Els k24 [(⟨x220,x221,x222,l223⟩:S24),y246.1] [VI x220,.string x221,VI x222,.slice A224 l223.length c225,VI y246.1.f0,.string y246.1.f1,VI y246.1.f2,.slice A248 y246.1.f3.length c249],Blk b251 [VI x220,.string x221,VI x222,.slice A224 l223.length c225,VI y246.1.f0,.string y246.1.f1,VI y246.1.f2,.slice A248 y246.1.f3.length c249] 24,Blk b1 [.slice A2 a0_0.length c3,VI y246.2.1,VI y246.2.2] 67,Blk b209 [VI x220,.string x221,VI x222,.slice A224 l223.length c225] 24,Blk b6 [VI 0,.string (⟨#[]⟩:ByteArray),VI 0,.slice none 0 0] 24,Blk b9 [VI 2,.string y12.1,VI y7,.slice A201 l200.length c202] 24]) [6,0,1,2,3,4,5] 7 rfl rfl rfl ?_
   obtain ⟨ha252,h⟩:=ite_no h
   refine TA.eff 6 rfl (by kernel_rfl) rfl (TL.appendE (xs:=l200) (ys:=([(⟨x220,x221,x222,l223⟩:S24),y246.1]:List S24)) k24 rfl rfl Try.underlying22 inf24 rfl (Nat.le_of_ble_eq_true rfl) (Nat.le_of_ble_eq_true rfl) rfl rfl rfl (by omega) (fun A253 c254=>?_))
   refine TA.last rfl ?_
   refine TA.eff 7 rfl (by kernel_rfl) rfl (TO.val rfl rfl rfl (Val.fieldAddrB Try.underlying24 rfl fsz22 rfl rfl rfl) ?_)
   refine TA.last rfl ?_
   refine TA.eff 8 rfl (by kernel_rfl) rfl (TL.store 4 (ds:=[.slice A253 (l200 ++ ([(⟨x220,x221,x222,l223⟩:S24),y246.1]:List S24)).length c254]) (cs':=[VI 2,.string y12.1,VI y7,.slice A253 (l200 ++ ([(⟨x220,x221,x222,l223⟩:S24),y246.1]:List S24)).length c254]) (L':=(Row k24 24 (.slice A253 (l200 ++ ([(⟨x220,x221,x222,l223⟩:S24),y246.1]:List S24)).length c254) (l200 ++ ([(⟨x220,x221,x222,l223⟩:S24),y246.1]:List S24))::Blk b1 [.slice A2 a0_0.length c3,VI y246.2.1,VI y246.2.2] 67::Blk b209 [VI x220,.string x221,VI x222,.slice A224 l223.length c225] 24::Blk b6 [VI 0,.string (⟨#[]⟩:ByteArray),VI 0,.slice none 0 0] 24::Blk b9 [VI 2,.string y12.1,VI y7,.slice A253 (l200 ++ ([(⟨x220,x221,x222,l223⟩:S24),y246.1]:List S24)).length c254] 24::L)) rfl fsz22 rfl rfl rfl rfl rfl (Nat.le_of_ble_eq_true rfl) rfl rfl ?_)
   refine TA.last rfl ?_
   refine TA.done (by kernel_rfl) ?_
   refine TQ.then_ ?_
   refine TC.seq ?_
   refine TC.region ?_
   refine TV rfl rfl rfl (Val.loadsB 4 (cs:=[VI 2,.string y12.1,VI y7,.slice A253 (l200 ++ ([(⟨x220,x221,x222,l223⟩:S24),y246.1]:List S24)).length c254]) agg24 fsz24 rfl rfl rfl rfl) ?_
   refine TL.cons (TL.store 3 (ds:=[VI 2,.string y12.1,VI y7,.slice A253 (l200 ++ ([(⟨x220,x221,x222,l223⟩:S24),y246.1]:List S24)).length c254]) (cs':=[VI 2,.string y12.1,VI y7,.slice A253 (l200 ++ ([(⟨x220,x221,x222,l223⟩:S24),y246.1]:List S24)).length c254]) (L':=(Row k24 24 (.slice A253 (l200 ++ ([(⟨x220,x221,x222,l223⟩:S24),y246.1]:List S24)).length c254) (l200 ++ ([(⟨x220,x221,x222,l223⟩:S24),y246.1]:List S24))::Blk b1 [.slice A2 a0_0.length c3,VI y246.2.1,VI y246.2.2] 67::Blk b209 [VI x220,.string x221,VI x222,.slice A224 l223.length c225] 24::Blk b6 [VI 2,.string y12.1,VI y7,.slice A253 (l200 ++ ([(⟨x220,x221,x222,l223⟩:S24),y246.1]:List S24)).length c254] 24::Blk b9 [VI 2,.string y12.1,VI y7,.slice A253 (l200 ++ ([(⟨x220,x221,x222,l223⟩:S24),y246.1]:List S24)).length c254] 24::L)) rfl fsz24 rfl rfl rfl rfl rfl (Nat.le_of_ble_eq_true rfl) rfl rfl ?_)
   refine TL.nil ?_
   refine TQ.then_ ?_
   refine TC.ret ?_
   obtain rfl:=Option.some.inj h
   exact TQ.fin (.inl rfl) rfl Try.results30 (.cells 3 rfl rfl agg24 fsz24 .nil) rfl (FRel.mk (Ls:=[Blk b1 [.slice A2 a0_0.length c3,VI y246.2.1,VI y246.2.2] 67,Row k24 24 (.slice A253 (l200 ++ ([(⟨x220,x221,x222,l223⟩:S24),y246.1]:List S24)).length c254) (l200 ++ ([(⟨x220,x221,x222,l223⟩:S24),y246.1]:List S24))]) [1,0] 5 (Gd.le.refl _) rfl rfl rfl ⟨rfl,A253,c254,rfl,rfl⟩)
  ·
   refine TC.cond_b rfl h (fun hc255 h=>?_) (fun hc255 h=>?_)
   ·
    refine TC.region ?_
    refine TV rfl rfl rfl (Val.move rfl) ?_
    obtain ⟨y256,hy257,h⟩:=bind_no h
    refine TL.cons (TL.callV (Lin:=[Blk b1 [.slice A2 a0_0.length c3,VI y205.1,VI y205.2] 67]) (args:=[VP b1 0,VI 1]) rfl rfl rfl hbd48 rfl rfl (parse_parser_typ.calls (a0_0:=a0_0) (a0_1:=y205.1) (a0_2:=y205.2) (a1:=1) hr4 hl5 hy257) rfl ?_)
    rintro _ _ _ _ ⟨rfl,A258,c259,rfl,rfl⟩
    refine TL.cons (TL.store 2 (ds:=[VI y256.1.f0,.string y256.1.f1,VI y256.1.f2,.slice A258 y256.1.f3.length c259]) (cs':=[VI y256.1.f0,.string y256.1.f1,VI y256.1.f2,.slice A258 y256.1.f3.length c259]) (L':=(Blk b1 [.slice A2 a0_0.length c3,VI y256.2.1,VI y256.2.2] 67::Row k24 24 (.slice A258 y256.1.f3.length c259) y256.1.f3::Blk b209 [VI y256.1.f0,.string y256.1.f1,VI y256.1.f2,.slice A258 y256.1.f3.length c259] 24::Blk b6 [VI 0,.string (⟨#[]⟩:ByteArray),VI 0,.slice none 0 0] 24::Blk b9 [VI 2,.string y12.1,VI y7,.slice A201 l200.length c202] 24::Row k24 24 (.slice A201 l200.length c202) l200::L)) rfl fsz24 rfl rfl rfl rfl rfl (Nat.le_of_ble_eq_true rfl) rfl rfl ?_)
    refine TL.nil ?_
    exact fun a W hF hO=>⟨y256.2.1,y256.2.2,y256.1.f0,y256.1.f1,y256.1.f2,y256.1.f3,A258,c259,h,hF.sub ⟨rfl,rfl,rfl,rfl,trivial⟩,hO.selT (Ls:=[Blk b1 [.slice A2 a0_0.length c3,VI y256.2.1,VI y256.2.2] 67,Blk b209 [VI y256.1.f0,.string y256.1.f1,VI y256.1.f2,.slice A258 y256.1.f3.length c259] 24,Blk b6 [VI 0,.string (⟨#[]⟩:ByteArray),VI 0,.slice none 0 0] 24,Blk b9 [VI 2,.string y12.1,VI y7,.slice A201 l200.length c202] 24,Row k24 24 (.slice A258 y256.1.f3.length c259) y256.1.f3,Row k24 24 (.slice A201 l200.length c202) l200]) [0,2,3,4,1,5] 6 rfl rfl rfl⟩
   ·
    refine TC.skip ?_
    exact fun a W hF hO=>⟨y205.1,y205.2,4,(⟨#[]⟩:ByteArray),y207,[],none,0,h,hF.sub ⟨rfl,rfl,rfl,rfl,trivial⟩,(Own.nilRow k24 24 hO).selT (Ls:=[Blk b1 [.slice A2 a0_0.length c3,VI y205.1,VI y205.2] 67,Blk b209 [VI 4,.string (⟨#[]⟩:ByteArray),VI y207,.slice none ([]:List S24).length 0] 24,Blk b6 [VI 0,.string (⟨#[]⟩:ByteArray),VI 0,.slice none 0 0] 24,Blk b9 [VI 2,.string y12.1,VI y7,.slice A201 l200.length c202] 24,Row k24 24 (.slice none ([]:List S24).length 0) ([]:List S24),Row k24 24 (.slice A201 l200.length c202) l200]) [1,2,3,4,0,5] 6 rfl rfl rfl⟩
 ·
  refine TC.cond_b rfl h (fun hc261 h=>?_) (fun hc261 h=>?_)
  ·
   refine TC.region ?_
   refine TV rfl rfl rfl (Val.move rfl) ?_
   refine TV rfl rfl rfl (Val.move rfl) ?_
   refine TV rfl rfl rfl (Val.makeFunc (xs:=[VP b1 0]) (ys:=[]) rfl rfl) ?_
   refine TL.cons (TO.inl (args:=[VP b1 0,.func (.func 47) #[VP b1 0] #[]]) (e':=[(0,VP b1 0),(1,.func (.func 47) #[VP b1 0] #[])]) 17 rfl rfl hbd46 rfl rfl Try.func46 rfl Try.ntmps46 rfl rfl (Nat.le_of_ble_eq_true rfl) (fun a262 hf263=>?_))
   refine TC.seq ?_
   refine TC.region ?_
   refine TV rfl rfl rfl (Val.assign rfl) ?_
   refine TL.nil ?_
   refine TQ.then_ ?_
   refine TC.seq ?_
   refine TC.region ?_
   refine TV rfl rfl rfl (Val.move rfl) ?_
   obtain ⟨y368,hy369,h⟩:=bind_no h
   refine TL.cons (TL.callV (Lin:=[Blk b1 [.slice A2 a0_0.length c3,VI y14.1,VI y14.2] 67]) (args:=[VP b1 0]) rfl rfl rfl hbd47 rfl rfl (parse_parser_param.calls (a0_0:=a0_0) (a0_1:=y14.1) (a0_2:=y14.2) hr4 hl5 hy369) rfl ?_)
   rintro _ _ _ _ ⟨rfl,A370,c371,rfl,rfl⟩
   refine TL.cons (TL.buildSlice (xs:=[.tmp 7]) (vs:=[.agg #[VI y368.1.f0,.string y368.1.f1,VI y368.1.f2,.slice A370 y368.1.f3.length c371]]) (cs:=[VI y368.1.f0,.string y368.1.f1,VI y368.1.f2,.slice A370 y368.1.f3.length c371]) rfl rfl Try.underlying22 zs24 rfl rfl rfl rfl rfl rfl rfl rfl (fun b373=>?_))
   refine TV rfl rfl rfl (Val.assign rfl) ?_
   refine TL.nil ?_
   refine TQ.then_ ?_
   refine TC.seq ?_
   refine TC.new (Els.nil k24) ?_
   refine TC.sel (Ls:=[Row k24 24 (.slice A370 y368.1.f3.length c371) y368.1.f3,Els k24 [] [],Blk b373 [VI y368.1.f0,.string y368.1.f1,VI y368.1.f2,.slice A370 y368.1.f3.length c371] 24,Blk b1 [.slice A2 a0_0.length c3,VI y368.2.1,VI y368.2.2] 67,Blk b9 [VI 2,.string y12.1,VI y7,.slice none 0 0] 24,Blk b6 [VI 0,.string (⟨#[]⟩:ByteArray),VI 0,.slice none 0 0] 24]) [3,0,1,2,4,5] 6 rfl rfl rfl ?_
   refine TC.conv (ch':=El k24 y368.1 [VI y368.1.f0,.string y368.1.f1,VI y368.1.f2,.slice A370 y368.1.f3.length c371]) (fun B W F hh=>k24_mkM W B F y368.1 hh) ?_
   refine TC.sel (Ls:=[Els k24 [] [],El k24 y368.1 [VI y368.1.f0,.string y368.1.f1,VI y368.1.f2,.slice A370 y368.1.f3.length c371],Blk b373 [VI y368.1.f0,.string y368.1.f1,VI y368.1.f2,.slice A370 y368.1.f3.length c371] 24,Blk b1 [.slice A2 a0_0.length c3,VI y368.2.1,VI y368.2.2] 67,Blk b9 [VI 2,.string y12.1,VI y7,.slice none 0 0] 24,Blk b6 [VI 0,.string (⟨#[]⟩:ByteArray),VI 0,.slice none 0 0] 24]) [1,0,2,3,4,5] 6 rfl rfl rfl ?_
   refine TC.two (ch:=Els k24 [y368.1] [VI y368.1.f0,.string y368.1.f1,VI y368.1.f2,.slice A370 y368.1.f3.length c371]) (Els.snoc k24) ?_
   refine TC.sel (Ls:=[Blk b373 [VI y368.1.f0,.string y368.1.f1,VI y368.1.f2,.slice A370 y368.1.f3.length c371] 24,Els k24 [y368.1] [VI y368.1.f0,.string y368.1.f1,VI y368.1.f2,.slice A370 y368.1.f3.length c371],Blk b1 [.slice A2 a0_0.length c3,VI y368.2.1,VI y368.2.2] 67,Blk b9 [VI 2,.string y12.1,VI y7,.slice none 0 0] 24,Blk b6 [VI 0,.string (⟨#[]⟩:ByteArray),VI 0,.slice none 0 0] 24]) [1,0,2,3,4] 5 rfl rfl rfl ?_
   refine TC.two (ch:=Row k24 24 (.slice (some ⟨b373,0,none⟩) 1 1) ([y368.1]:List S24)) (Row.lit k24 rfl rfl) ?_
   obtain ⟨o472,ho472,ko472⟩:=bind_no h
   clear h
   refine TC.tail (fun a W=>∃ (l466:(List S24)) (x470:Int) (x471:Int) (A467:Option Addr) (c468:Nat),(l466,x470,x471)=o472∧Fr 17 a [(5,.slice A467 l466.length c468)]∧Own G (Blk b1 [.slice A2 a0_0.length c3,VI x470,VI x471] 67::Blk b6 [VI 0,.string (⟨#[]⟩:ByteArray),VI 0,.slice none 0 0] 24::Blk b9 [VI 2,.string y12.1,VI y7,.slice none 0 0] 24::Row k24 24 (.slice A467 l466.length c468) l466::L) W) ?_ ?_
   ·
    rintro a W ⟨l466,x470,x471,A467,c468,rfl,hF,hO⟩
    have h:=ko472
    clear ko472 ho472
    refine TQ.use ?_ hF hO
    clear hF hO
    refine TQ.then_ ?_
    refine TC.seq ?_
    refine TC.region ?_
    refine TV rfl rfl rfl (Val.move rfl) ?_
    refine TV rfl rfl rfl (Val.assign rfl) ?_
    refine TL.nil ?_
    refine TQ.then_ ?_
    refine TC.ret ?_
    refine TQ.fin (v:=.slice A467 l466.length c468) (.inl rfl) rfl Try.results46 (.tmp rfl .nil) rfl (After.mk hf263 rfl ?_)
    refine TV rfl rfl rfl (Val.fieldAddrB Try.underlying24 rfl fsz22 rfl rfl rfl) ?_
    refine TL.cons (TL.store 2 (ds:=[.slice A467 l466.length c468]) (cs':=[VI 2,.string y12.1,VI y7,.slice A467 l466.length c468]) (L':=(Blk b1 [.slice A2 a0_0.length c3,VI x470,VI x471] 67::Blk b6 [VI 0,.string (⟨#[]⟩:ByteArray),VI 0,.slice none 0 0] 24::Blk b9 [VI 2,.string y12.1,VI y7,.slice A467 l466.length c468] 24::Row k24 24 (.slice A467 l466.length c468) l466::L)) rfl fsz22 rfl rfl rfl rfl rfl (Nat.le_of_ble_eq_true rfl) rfl rfl ?_)
    refine TL.nil ?_
    exact fun a W hF hO=>⟨x470,x471,l466,A467,c468,h,hF.sub ⟨rfl,rfl,rfl,trivial⟩,hO.selT (Ls:=[Blk b1 [.slice A2 a0_0.length c3,VI x470,VI x471] 67,Blk b6 [VI 0,.string (⟨#[]⟩:ByteArray),VI 0,.slice none 0 0] 24,Blk b9 [VI 2,.string y12.1,VI y7,.slice A467 l466.length c468] 24,Row k24 24 (.slice A467 l466.length c468) l466]) [0,1,2,3] 4 rfl rfl rfl⟩
   ·
    refine TC.block ?_
    intro a W hF hO
    have hS:∃ (l438:(List S24)) (x442:Int) (x443:Int) (A439:Option Addr) (c440:Nat),parse_parser_function.l0 a0_0 100000 l438 x442 x443=some o472∧Fr 17 a [(0,VP b1 0),(1,.func (.func 47) #[VP b1 0] #[]),(5,.slice A439 l438.length c440)]∧Own G (Blk b1 [.slice A2 a0_0.length c3,VI x442,VI x443] 67::Blk b6 [VI 0,.string (⟨#[]⟩:ByteArray),VI 0,.slice none 0 0] 24::Blk b9 [VI 2,.string y12.1,VI y7,.slice none 0 0] 24::Row k24 24 (.slice A439 l438.length c440) l438::L) W:=by
     exact ⟨([y368.1]:List S24),y368.2.1,y368.2.2,(some ⟨b373,0,none⟩),1,ho472,hF.sub ⟨rfl,rfl,rfl,trivial⟩,hO.selT (Ls:=[Blk b1 [.slice A2 a0_0.length c3,VI y368.2.1,VI y368.2.2] 67,Blk b6 [VI 0,.string (⟨#[]⟩:ByteArray),VI 0,.slice none 0 0] 24,Blk b9 [VI 2,.string y12.1,VI y7,.slice none 0 0] 24,Row k24 24 (.slice (some ⟨b373,0,none⟩) ([y368.1]:List S24).length 1) ([y368.1]:List S24)]) [1,3,2,0] 4 rfl rfl rfl⟩
    clear hF hO ho472 ko472
    refine TC.loop (fun n473 a W=>∃ (l438:(List S24)) (x442:Int) (x443:Int) (A439:Option Addr) (c440:Nat),parse_parser_function.l0 a0_0 n473 l438 x442 x443=some o472∧Fr 17 a [(0,VP b1 0),(1,.func (.func 47) #[VP b1 0] #[]),(5,.slice A439 l438.length c440)]∧Own G (Blk b1 [.slice A2 a0_0.length c3,VI x442,VI x443] 67::Blk b6 [VI 0,.string (⟨#[]⟩:ByteArray),VI 0,.slice none 0 0] 24::Blk b9 [VI 2,.string y12.1,VI y7,.slice none 0 0] 24::Row k24 24 (.slice A439 l438.length c440) l438::L) W) ?_ ?_ hS
    ·
     rintro a W ⟨l438,x442,x443,A439,c440,h,hF,hO⟩
     exact none_no h
    ·
     clear hS
     rintro n473 a W ⟨l438,x442,x443,A439,c440,h,hF,hO⟩
     rw [parse_parser_function.l0] at h
     refine TC.use ?_ hF hO
     clear hF hO
     refine TC.seq ?_
     refine TC.seq ?_
     refine TC.region ?_
     refine TV rfl rfl rfl (Val.move rfl) ?_
     obtain ⟨y497,hy498,h⟩:=bind_no h
     refine TL.cons (TL.callV (Lin:=[Blk b1 [.slice A2 a0_0.length c3,VI x442,VI x443] 67]) (args:=[VP b1 0,.string (⟨#[44]⟩:ByteArray)]) rfl rfl rfl hbd62 rfl rfl (parse_parser_take.calls (a0_0:=a0_0) (a0_1:=x442) (a0_2:=x443) (a1:=(⟨#[44]⟩:ByteArray)) hr4 hl5 hy498) rfl ?_)
     rintro _ _ _ _ ⟨rfl,rfl,rfl⟩
     refine TL.nil ?_
     refine TQ.then_ ?_
     refine TC.cond_b rfl h (fun hc500 h=>?_) (fun hc500 h=>?_)
     ·
      refine TC.skip ?_
      refine TQ.then_ ?_
      refine TC.block ?_
      refine TC.region ?_
      refine TV rfl rfl rfl (Val.move rfl) ?_
      refine TV rfl rfl rfl (Val.move rfl) ?_
      obtain ⟨y510,hy511,h⟩:=bind_no h
      refine TL.cons (TL.callV (Lin:=[Blk b1 [.slice A2 a0_0.length c3,VI y497.2,VI x443] 67]) (args:=[VP b1 0]) rfl rfl rfl hbd47 rfl rfl (parse_parser_param.calls (a0_0:=a0_0) (a0_1:=y497.2) (a0_2:=x443) hr4 hl5 hy511) rfl ?_)
      rintro _ _ _ _ ⟨rfl,A512,c513,rfl,rfl⟩
      refine TL.cons (TL.buildSlice (xs:=[.tmp 13]) (vs:=[.agg #[VI y510.1.f0,.string y510.1.f1,VI y510.1.f2,.slice A512 y510.1.f3.length c513]]) (cs:=[VI y510.1.f0,.string y510.1.f1,VI y510.1.f2,.slice A512 y510.1.f3.length c513]) rfl rfl Try.underlying22 zs24 rfl rfl rfl rfl rfl rfl rfl rfl (fun b515=>?_))
      refine TK.sel (Ls:=[Row k24 24 (.slice A512 y510.1.f3.length c513) y510.1.f3,Blk b515 [VI y510.1.f0,.string y510.1.f1,VI y510.1.f2,.slice A512 y510.1.f3.length c513] 24,Blk b1 [.slice A2 a0_0.length c3,VI y510.2.1,VI y510.2.2] 67,Blk b6 [VI 0,.string (⟨#[]⟩:ByteArray),VI 0,.slice none 0 0] 24,Blk b9 [VI 2,.string y12.1,VI y7,.slice none 0 0] 24,Row k24 24 (.slice A439 l438.length c440) l438]) [2,0,1,3,4,5] 6 rfl rfl rfl ?_
      refine TK.conv (ch':=El k24 y510.1 [VI y510.1.f0,.string y510.1.f1,VI y510.1.f2,.slice A512 y510.1.f3.length c513]) (fun B W F hh=>k24_mkM W B F y510.1 hh) ?_
      refine TK.sel (Ls:=[Row k24 24 (.slice A439 l438.length c440) l438,El k24 y510.1 [VI y510.1.f0,.string y510.1.f1,VI y510.1.f2,.slice A512 y510.1.f3.length c513],Blk b515 [VI y510.1.f0,.string y510.1.f1,VI y510.1.f2,.slice A512 y510.1.f3.length c513] 24,Blk b1 [.slice A2 a0_0.length c3,VI y510.2.1,VI y510.2.2] 67,Blk b6 [VI 0,.string (⟨#[]⟩:ByteArray),VI 0,.slice none 0 0] 24,Blk b9 [VI 2,.string y12.1,VI y7,.slice none 0 0] 24]) [5,0,1,2,3,4] 6 rfl rfl rfl ?_
      obtain ⟨ha516,h⟩:=ite_no h
      refine TL.cons (TL.append (xs:=l438) k24 rfl rfl Try.underlying22 inf24 rfl (Nat.le_of_ble_eq_true rfl) (Nat.le_of_ble_eq_true rfl) rfl rfl (by omega) (fun A517 c518=>?_))
      refine TV rfl rfl rfl (Val.assign rfl) ?_
      refine TL.nil ?_
      refine TQ.inB ?_
      exact fun a W hF hO=>⟨(l438 ++ [y510.1]),y510.2.1,y510.2.2,A517,c518,h,hF.sub ⟨rfl,rfl,rfl,trivial⟩,hO.selT (Ls:=[Blk b1 [.slice A2 a0_0.length c3,VI y510.2.1,VI y510.2.2] 67,Blk b6 [VI 0,.string (⟨#[]⟩:ByteArray),VI 0,.slice none 0 0] 24,Blk b9 [VI 2,.string y12.1,VI y7,.slice none 0 0] 24,Row k24 24 (.slice A517 (l438 ++ [y510.1]).length c518) (l438 ++ [y510.1])]) [1,2,3,0] 4 rfl rfl rfl⟩
     ·
      refine TC.exit ?_
      refine TQ.thenX ?_
      refine TQ.thenX ?_
      refine TQ.inBX ?_
      exact fun a W hF hO=>⟨l438,y497.2,x443,A439,c440,Option.some.inj h,hF.sub ⟨rfl,trivial⟩,hO.selT (Ls:=[Blk b1 [.slice A2 a0_0.length c3,VI y497.2,VI x443] 67,Blk b6 [VI 0,.string (⟨#[]⟩:ByteArray),VI 0,.slice none 0 0] 24,Blk b9 [VI 2,.string y12.1,VI y7,.slice none 0 0] 24,Row k24 24 (.slice A439 l438.length c440) l438]) [0,1,2,3] 4 rfl rfl rfl⟩
  ·
   refine TC.skip ?_
   exact fun a W hF hO=>⟨y14.1,y14.2,[],none,0,h,hF.sub ⟨rfl,rfl,rfl,trivial⟩,(Own.nilRow k24 24 hO).selT (Ls:=[Blk b1 [.slice A2 a0_0.length c3,VI y14.1,VI y14.2] 67,Blk b6 [VI 0,.string (⟨#[]⟩:ByteArray),VI 0,.slice none 0 0] 24,Blk b9 [VI 2,.string y12.1,VI y7,.slice none ([]:List S24).length 0] 24,Row k24 24 (.slice none ([]:List S24).length 0) ([]:List S24)]) [1,3,2,0] 4 rfl rfl rfl⟩
end Go.Proofs.Ythlhmoocgjddpaa.Sy
set_option linter.unusedVariables false
set_option linter.unusedSimpArgs false
namespace Go.Proofs.Ythlhmoocgjddpaa.Sy
open Go Go.RowKit Go.Proofs.YthlhmoocgjddpaaW.PrintWords
def Rs (b : Int) (r : S24) (p1 e1 : Int) : Prop := e1 = 0 → b < p1 ∧ Dp (p1 - b + 1).toNat r
def sw (x : Int × Int × List S24) : List S24 × Int × Int := (x.2.2, x.1, x.2.1)
theorem Gv.done {α β : Type} {Z : Prop} {n p e o : Int} {T : Prop} {x x' : Option (β × Int × Int)} {f f' : β × Int × Int → Option (α × Int × Int)} {R1 : β → Int → Int → Prop} {R : α → Int → Int → Prop} {g : β → α} (hx : Gv Z n T o p e x x' R1)
    (hf : ∀ r p1 e1, f (r, p1, e1) = some (g r, p1, e1)) (hf' : ∀ r p1 e1, f' (r, p1, e1) = some (g r, p1, e1)) (hR : ∀ r p1 e1, p ≤ p1 → p1 ≤ n → (e1 = 0 → e = 0) → R1 r p1 e1 → R (g r) p1 e1) : Gv Z n T o p e (x.bind f) (x'.bind f') R := by
  obtain ⟨r, p1, e1, h1, h2, h3, h4, h5, h6, h7⟩ := hx
  refine ⟨g r, p1, e1, by rw [h1, Option.bind_some, hf], h2, h3, h4, h5, hR _ _ _ h2 h3 (fun h => ?_) h6, fun h => by rw [h7 h, Option.bind_some, hf']⟩
  apply Classical.byContradiction; intro hn
  exact hn ((h4 hn).2 ▸ h)
section
variable {l l' : List S41} {o : Int} {T : Prop}
abbrev P4n := List S41 → Int → Int → S24 → Int → Option (S24 × Int × Int)
def RF (b : Int) (r : List S24) (p1 e1 : Int) : Prop := r.length ≤ 200000 ∧ (e1 = 0 → DL (p1 - b) r)
end
end Go.Proofs.Ythlhmoocgjddpaa.Sy
set_option linter.unusedVariables false
set_option linter.unusedSimpArgs false
set_option maxRecDepth 100000
set_option maxHeartbeats 4000000
namespace Go.Proofs.Ythlhmoocgjddpaa.Sy
open Go Go.RowKit Go.Proofs.YthlhmoocgjddpaaW.PrintWords 
def parse_Parse.l0 (a0:(List S41)):Nat → Int → Int → (List S24) → Option (Int × Int × (List S24))
 | 0,_,_,_=>none
 | n163 + 1,x104,x105,l106=>jn (γ:=(Int × Int × (List S24))) (fun (x216:Bool)=>(if x216=true then (parse_parser_function.f a0 x104 x105).bind fun (y247:(S24 × Int × Int))=>(if l106.length < 2513169434916 then parse_Parse.l0 a0 n163 y247.2.1 y247.2.2 (l106 ++ [y247.1]) else none) else some (x104,x105,l106))) (fun (j217:(Bool → Option (Int × Int × (List S24))))=>(if x105=0 then j217 (decide (x104 < (a0.length:Int))) else j217 false))
def parse_Parse.f (a0:(List S41)):Option (S24 × Int × Int):=(parse_parser_start.f a0 0 0).bind fun (y7:Int)=>(parse_Parse.l0 a0 100000 0 0 []).bind fun (x156,x157,l158)=>(if (!decide (x157=0))=true then some ((⟨0,(⟨#[]⟩:ByteArray),0,([]:List S24)⟩:S24),x156,x157) else some ((⟨1,(⟨#[]⟩:ByteArray),y7,l158⟩:S24),x156,0))
def parse_Parse.post (G:Gd)  (r:(S24 × Int × Int)) (v:Value) (G':Gd) (Lr:List Ch):Prop:=G=G'∧∃ (A_1:Option Addr) (c_1:Nat),v=.tuple #[.agg #[VI r.1.f0,.string r.1.f1,VI r.1.f2,.slice A_1 r.1.f3.length c_1],VI r.2.1,VI r.2.2]∧Lr=[Row k24 24 (.slice A_1 r.1.f3.length c_1) r.1.f3]
theorem parse_Parse.calls {G:Gd} {r:(S24 × Int × Int)} {a0:(List S41)} {A1:Option Addr} {c2:Nat} (hr3:Rd G k41 A1 a0) (hl4:a0.length ≤ c2) (h:parse_Parse.f a0=some r):Fn Try.prog 18 G [] [.slice A1 a0.length c2] (parse_Parse.post G  r):=by
 refine Fn.intro (e:=[(0,.slice A1 a0.length c2)]) 53 Try.func18 rfl Try.ntmps18 rfl rfl (Nat.le_of_ble_eq_true rfl) (fun L=>?_)
 unfold parse_Parse.f at h
 refine TC.seq ?_
 refine TC.region ?_
 refine TL.cons (TL.alloc (cs:=[VI 0,.string (⟨#[]⟩:ByteArray),VI 0,.slice none 0 0]) rfl rfl zr24 rfl (fun b5=>?_))
 refine TV rfl rfl rfl (Val.assign rfl) ?_
 refine TV rfl rfl rfl (Val.assign rfl) ?_
 refine TL.nil ?_
 refine TQ.then_ ?_
 refine TC.seq ?_
 refine TC.region ?_
 refine TV rfl rfl rfl (Val.move rfl) ?_
 refine TV rfl rfl rfl (Val.build (cs:=[.slice A1 a0.length c2,VI 0,VI 0]) (is:=[0]) (xs:=[.tmp 7]) Try.underlying67 zr67 bld67 rfl rfl rfl rfl) ?_
 refine TL.cons (TL.box (cs:=[.slice A1 a0.length c2,VI 0,VI 0]) rfl rfl rfl rfl (fun b6=>?_))
 refine TV rfl rfl rfl (Val.assign rfl) ?_
 refine TL.nil ?_
 refine TQ.then_ ?_
 refine TC.seq ?_
 refine TC.region ?_
 refine TV rfl rfl rfl (Val.move rfl) ?_
 obtain ⟨y7,hy8,h⟩:=bind_no h
 refine TL.cons (TL.callV (Lin:=[Blk b6 [.slice A1 a0.length c2,VI 0,VI 0] 67]) (args:=[VP b6 0]) rfl rfl rfl hbd29 rfl rfl (parse_parser_start.calls (a0_0:=a0) (a0_1:=0) (a0_2:=0) hr3 hl4 hy8) rfl ?_)
 rintro _ _ _ _ ⟨rfl,rfl,rfl⟩
 refine TV rfl rfl rfl (Val.build (cs:=[VI 1,.string (⟨#[]⟩:ByteArray),VI y7,.slice none 0 0]) (is:=[0,2]) (xs:=[.const (VI 1),.tmp 11]) Try.underlying24 zr24 bld24 rfl rfl rfl rfl) ?_
 refine TL.cons (TL.alloc (cs:=[VI 0,.string (⟨#[]⟩:ByteArray),VI 0,.slice none 0 0]) rfl rfl zr24 rfl (fun b9=>?_))
 refine TL.cons (TL.store 0 (ds:=[VI 1,.string (⟨#[]⟩:ByteArray),VI y7,.slice none 0 0]) (cs':=[VI 1,.string (⟨#[]⟩:ByteArray),VI y7,.slice none 0 0]) (L':=(Blk b9 [VI 1,.string (⟨#[]⟩:ByteArray),VI y7,.slice none 0 0] 24::Blk b6 [.slice A1 a0.length c2,VI 0,VI 0] 67::Blk b5 [VI 0,.string (⟨#[]⟩:ByteArray),VI 0,.slice none 0 0] 24::L)) rfl fsz24 rfl rfl rfl rfl rfl (Nat.le_of_ble_eq_true rfl) rfl rfl ?_)
 refine TL.nil ?_
 refine TQ.then_ ?_
 refine TC.seq ?_
 obtain ⟨o162,ho162,ko162⟩:=bind_no h
 clear h
 refine TC.tail (fun a W=>∃ (x156:Int) (x157:Int) (l158:(List S24)) (A159:Option Addr) (c160:Nat),(x156,x157,l158)=o162∧Fr 53 a [(2,VP b5 0),(5,VP b6 0),(6,VP b9 0)]∧Own G (Blk b5 [VI 0,.string (⟨#[]⟩:ByteArray),VI 0,.slice none 0 0] 24::Blk b6 [.slice A1 a0.length c2,VI x156,VI x157] 67::Blk b9 [VI 1,.string (⟨#[]⟩:ByteArray),VI y7,.slice A159 l158.length c160] 24::Row k24 24 (.slice A159 l158.length c160) l158::L) W) ?_ ?_
 ·
  rintro a W ⟨x156,x157,l158,A159,c160,rfl,hF,hO⟩
  have h:=ko162
  clear ko162 ho162
  refine TQ.use ?_ hF hO
  clear hF hO
  refine TQ.then_ ?_
  refine TC.seq ?_
  refine TC.seq ?_
  refine TC.region ?_
  refine TV rfl rfl rfl (Val.move rfl) ?_
  refine TV rfl rfl rfl (Val.nilCheck rfl) ?_
  refine TV rfl rfl rfl (Val.fieldAddrB Try.underlying67 rfl fsz33 rfl rfl rfl) ?_
  refine TV rfl rfl rfl (Val.loadB 1 agg33 rfl rfl rfl) ?_
  refine TV rfl rfl rfl (Val.cmp rfl rfl run_neq) ?_
  refine TL.nil ?_
  refine TQ.then_ ?_
  refine TC.cond_b rfl h (fun hc211 h=>?_) (fun hc211 h=>?_)
  ·
   refine TC.seq ?_
   refine TC.regionAnyS (L0:=(Blk b6 [.slice A1 a0.length c2,VI x156,VI x157] 67::Blk b9 [VI 1,.string (⟨#[]⟩:ByteArray),VI y7,.slice A159 l158.length c160] 24::Row k24 24 (.slice A159 l158.length c160) l158::L)) [] [0,1,2,3,4,5,6,7,8,10,11] mixed (by kernel_rfl) ?_
   refine TA.take 0 rfl (by kernel_rfl) rfl (PQ.then_ (PQ.then_ PQ.body)) rfl (Val.build (cs:=[VI 0,.string (⟨#[]⟩:ByteArray),VI 0,.slice none 0 0]) (is:=[]) (xs:=[]) Try.underlying24 zr24 bld24 rfl rfl rfl rfl) (fun W hO=>hO.selT (Ls:=[Blk b6 [.slice A1 a0.length c2,VI x156,VI x157] 67,Blk b9 [VI 1,.string (⟨#[]⟩:ByteArray),VI y7,.slice A159 l158.length c160] 24,Row k24 24 (.slice A159 l158.length c160) l158]) [1,2,3] 4 rfl rfl rfl) ?_
   refine TA.take 1 rfl (by kernel_rfl) rfl (PQ.then_ (PQ.then_ PQ.body)) rfl (Val.move rfl) (fun W hO=>hO.selT (Ls:=[Blk b6 [.slice A1 a0.length c2,VI x156,VI x157] 67,Blk b9 [VI 1,.string (⟨#[]⟩:ByteArray),VI y7,.slice A159 l158.length c160] 24,Row k24 24 (.slice A159 l158.length c160) l158]) [1,2,3] 4 rfl rfl rfl) ?_
   refine TA.take 2 rfl (by kernel_rfl) rfl (PQ.then_ (PQ.then_ PQ.body)) rfl (Val.nilCheck rfl) (fun W hO=>hO.selT (Ls:=[Blk b6 [.slice A1 a0.length c2,VI x156,VI x157] 67,Blk b9 [VI 1,.string (⟨#[]⟩:ByteArray),VI y7,.slice A159 l158.length c160] 24,Row k24 24 (.slice A159 l158.length c160) l158]) [1,2,3] 4 rfl rfl rfl) ?_
   refine TA.take 3 rfl (by kernel_rfl) rfl (PQ.then_ (PQ.then_ PQ.body)) rfl (Val.fieldAddrB Try.underlying67 rfl fsz3 rfl rfl rfl) (fun W hO=>hO.selT (Ls:=[Blk b6 [.slice A1 a0.length c2,VI x156,VI x157] 67,Blk b9 [VI 1,.string (⟨#[]⟩:ByteArray),VI y7,.slice A159 l158.length c160] 24,Row k24 24 (.slice A159 l158.length c160) l158]) [1,2,3] 4 rfl rfl rfl) ?_
   refine TA.take 4 rfl (by kernel_rfl) rfl (PQ.then_ (PQ.then_ PQ.body)) rfl (Val.loadB 0 agg3 rfl rfl rfl) (fun W hO=>hO.selT (Ls:=[Blk b6 [.slice A1 a0.length c2,VI x156,VI x157] 67,Blk b9 [VI 1,.string (⟨#[]⟩:ByteArray),VI y7,.slice A159 l158.length c160] 24,Row k24 24 (.slice A159 l158.length c160) l158]) [1,2,3] 4 rfl rfl rfl) ?_
   refine TA.take 5 rfl (by kernel_rfl) rfl (PQ.then_ (PQ.then_ PQ.body)) rfl (Val.move rfl) (fun W hO=>hO.selT (Ls:=[Blk b6 [.slice A1 a0.length c2,VI x156,VI x157] 67,Blk b9 [VI 1,.string (⟨#[]⟩:ByteArray),VI y7,.slice A159 l158.length c160] 24,Row k24 24 (.slice A159 l158.length c160) l158]) [1,2,3] 4 rfl rfl rfl) ?_
   refine TA.take 6 rfl (by kernel_rfl) rfl (PQ.then_ (PQ.then_ PQ.body)) rfl (Val.nilCheck rfl) (fun W hO=>hO.selT (Ls:=[Blk b6 [.slice A1 a0.length c2,VI x156,VI x157] 67,Blk b9 [VI 1,.string (⟨#[]⟩:ByteArray),VI y7,.slice A159 l158.length c160] 24,Row k24 24 (.slice A159 l158.length c160) l158]) [1,2,3] 4 rfl rfl rfl) ?_
   refine TA.take 7 rfl (by kernel_rfl) rfl (PQ.then_ (PQ.then_ PQ.body)) rfl (Val.fieldAddrB Try.underlying67 rfl fsz33 rfl rfl rfl) (fun W hO=>hO.selT (Ls:=[Blk b6 [.slice A1 a0.length c2,VI x156,VI x157] 67,Blk b9 [VI 1,.string (⟨#[]⟩:ByteArray),VI y7,.slice A159 l158.length c160] 24,Row k24 24 (.slice A159 l158.length c160) l158]) [1,2,3] 4 rfl rfl rfl) ?_
   refine TA.take 8 rfl (by kernel_rfl) rfl (PQ.then_ (PQ.then_ PQ.body)) rfl (Val.loadB 0 agg33 rfl rfl rfl) (fun W hO=>hO.selT (Ls:=[Blk b6 [.slice A1 a0.length c2,VI x156,VI x157] 67,Blk b9 [VI 1,.string (⟨#[]⟩:ByteArray),VI y7,.slice A159 l158.length c160] 24,Row k24 24 (.slice A159 l158.length c160) l158]) [1,2,3] 4 rfl rfl rfl) ?_
   refine TA.eff 9 rfl (by kernel_rfl) rfl (TL.store 0 (ds:=[VI 0,.string (⟨#[]⟩:ByteArray),VI 0,.slice none 0 0]) (cs':=[VI 0,.string (⟨#[]⟩:ByteArray),VI 0,.slice none 0 0]) (L':=(Blk b5 [VI 0,.string (⟨#[]⟩:ByteArray),VI 0,.slice none 0 0] 24::Blk b6 [.slice A1 a0.length c2,VI x156,VI x157] 67::Blk b9 [VI 1,.string (⟨#[]⟩:ByteArray),VI y7,.slice A159 l158.length c160] 24::Row k24 24 (.slice A159 l158.length c160) l158::L)) rfl fsz24 rfl rfl rfl rfl rfl (Nat.le_of_ble_eq_true rfl) rfl rfl ?_)
   refine TA.next (fun W hO=>hO.selT (Ls:=[Blk b6 [.slice A1 a0.length c2,VI x156,VI x157] 67,Blk b9 [VI 1,.string (⟨#[]⟩:ByteArray),VI y7,.slice A159 l158.length c160] 24,Row k24 24 (.slice A159 l158.length c160) l158]) [1,2,3] 4 rfl rfl rfl) ?_
   refine TA.take 10 rfl (by kernel_rfl) rfl (PQ.then_ (PQ.then_ PQ.body)) rfl (Val.assign rfl) (fun W hO=>hO.selT (Ls:=[Blk b6 [.slice A1 a0.length c2,VI x156,VI x157] 67,Blk b9 [VI 1,.string (⟨#[]⟩:ByteArray),VI y7,.slice A159 l158.length c160] 24,Row k24 24 (.slice A159 l158.length c160) l158]) [1,2,3] 4 rfl rfl rfl) ?_
   refine TA.take 11 rfl (by kernel_rfl) rfl (PQ.then_ (PQ.then_ PQ.body)) rfl (Val.assign rfl) (fun W hO=>hO.selT (Ls:=[Blk b6 [.slice A1 a0.length c2,VI x156,VI x157] 67,Blk b9 [VI 1,.string (⟨#[]⟩:ByteArray),VI y7,.slice A159 l158.length c160] 24,Row k24 24 (.slice A159 l158.length c160) l158]) [1,2,3] 4 rfl rfl rfl) ?_
   refine TA.done (by kernel_rfl) ?_
   refine TQ.then_ ?_
   refine TC.ret ?_
   refine TQ.thenR ?_
   refine TQ.nilRow k24 24 ?_
   obtain rfl:=Option.some.inj h
   exact TQ.fin (.inl rfl) rfl Try.results18 (.cells 1 rfl rfl agg24 fsz24 (.tmp rfl (.tmp rfl .nil))) rfl (FRel.mk (Ls:=[Row k24 24 (.slice none 0 0) ([]:List S24)]) [0] 5 (Gd.le.refl _) rfl rfl rfl ⟨rfl,none,0,rfl,rfl⟩)
  ·
   refine TC.skip ?_
   refine TQ.then_ ?_
   refine TC.seq ?_
   refine TC.regionAnyS (L0:=(Blk b6 [.slice A1 a0.length c2,VI x156,VI x157] 67::Blk b9 [VI 1,.string (⟨#[]⟩:ByteArray),VI y7,.slice A159 l158.length c160] 24::Row k24 24 (.slice A159 l158.length c160) l158::L)) [] [0,1,2,3,4,6,7] mixed (by kernel_rfl) ?_
   refine TA.take 0 rfl (by kernel_rfl) rfl (PQ.then_ PQ.body) rfl (Val.loadsB 1 (cs:=[VI 1,.string (⟨#[]⟩:ByteArray),VI y7,.slice A159 l158.length c160]) agg24 fsz24 rfl rfl rfl rfl) (fun W hO=>hO.selT (Ls:=[Blk b6 [.slice A1 a0.length c2,VI x156,VI x157] 67,Blk b9 [VI 1,.string (⟨#[]⟩:ByteArray),VI y7,.slice A159 l158.length c160] 24,Row k24 24 (.slice A159 l158.length c160) l158]) [1,2,3] 4 rfl rfl rfl) ?_
   refine TA.take 1 rfl (by kernel_rfl) rfl (PQ.then_ PQ.body) rfl (Val.move rfl) (fun W hO=>hO.selT (Ls:=[Blk b6 [.slice A1 a0.length c2,VI x156,VI x157] 67,Blk b9 [VI 1,.string (⟨#[]⟩:ByteArray),VI y7,.slice A159 l158.length c160] 24,Row k24 24 (.slice A159 l158.length c160) l158]) [1,2,3] 4 rfl rfl rfl) ?_
   refine TA.take 2 rfl (by kernel_rfl) rfl (PQ.then_ PQ.body) rfl (Val.nilCheck rfl) (fun W hO=>hO.selT (Ls:=[Blk b6 [.slice A1 a0.length c2,VI x156,VI x157] 67,Blk b9 [VI 1,.string (⟨#[]⟩:ByteArray),VI y7,.slice A159 l158.length c160] 24,Row k24 24 (.slice A159 l158.length c160) l158]) [1,2,3] 4 rfl rfl rfl) ?_
   refine TA.take 3 rfl (by kernel_rfl) rfl (PQ.then_ PQ.body) rfl (Val.fieldAddrB Try.underlying67 rfl fsz3 rfl rfl rfl) (fun W hO=>hO.selT (Ls:=[Blk b6 [.slice A1 a0.length c2,VI x156,VI x157] 67,Blk b9 [VI 1,.string (⟨#[]⟩:ByteArray),VI y7,.slice A159 l158.length c160] 24,Row k24 24 (.slice A159 l158.length c160) l158]) [1,2,3] 4 rfl rfl rfl) ?_
   refine TA.take 4 rfl (by kernel_rfl) rfl (PQ.then_ PQ.body) rfl (Val.loadB 0 agg3 rfl rfl rfl) (fun W hO=>hO.selT (Ls:=[Blk b6 [.slice A1 a0.length c2,VI x156,VI x157] 67,Blk b9 [VI 1,.string (⟨#[]⟩:ByteArray),VI y7,.slice A159 l158.length c160] 24,Row k24 24 (.slice A159 l158.length c160) l158]) [1,2,3] 4 rfl rfl rfl) ?_
   refine TA.eff 5 rfl (by kernel_rfl) rfl (TL.store 0 (ds:=[VI 1,.string (⟨#[]⟩:ByteArray),VI y7,.slice A159 l158.length c160]) (cs':=[VI 1,.string (⟨#[]⟩:ByteArray),VI y7,.slice A159 l158.length c160]) (L':=(Blk b5 [VI 1,.string (⟨#[]⟩:ByteArray),VI y7,.slice A159 l158.length c160] 24::Blk b6 [.slice A1 a0.length c2,VI x156,VI x157] 67::Blk b9 [VI 1,.string (⟨#[]⟩:ByteArray),VI y7,.slice A159 l158.length c160] 24::Row k24 24 (.slice A159 l158.length c160) l158::L)) rfl fsz24 rfl rfl rfl rfl rfl (Nat.le_of_ble_eq_true rfl) rfl rfl ?_)
   refine TA.next (fun W hO=>hO.selT (Ls:=[Blk b6 [.slice A1 a0.length c2,VI x156,VI x157] 67,Blk b9 [VI 1,.string (⟨#[]⟩:ByteArray),VI y7,.slice A159 l158.length c160] 24,Row k24 24 (.slice A159 l158.length c160) l158]) [1,2,3] 4 rfl rfl rfl) ?_
   refine TA.take 6 rfl (by kernel_rfl) rfl (PQ.then_ PQ.body) rfl (Val.assign rfl) (fun W hO=>hO.selT (Ls:=[Blk b6 [.slice A1 a0.length c2,VI x156,VI x157] 67,Blk b9 [VI 1,.string (⟨#[]⟩:ByteArray),VI y7,.slice A159 l158.length c160] 24,Row k24 24 (.slice A159 l158.length c160) l158]) [1,2,3] 4 rfl rfl rfl) ?_
   refine TA.take 7 rfl (by kernel_rfl) rfl (PQ.then_ PQ.body) rfl (Val.assign rfl) (fun W hO=>hO.selT (Ls:=[Blk b6 [.slice A1 a0.length c2,VI x156,VI x157] 67,Blk b9 [VI 1,.string (⟨#[]⟩:ByteArray),VI y7,.slice A159 l158.length c160] 24,Row k24 24 (.slice A159 l158.length c160) l158]) [1,2,3] 4 rfl rfl rfl) ?_
   refine TA.done (by kernel_rfl) ?_
   refine TQ.then_ ?_
   refine TC.ret ?_
   obtain rfl:=Option.some.inj h
   exact TQ.fin (.inl rfl) rfl Try.results18 (.cells 0 rfl rfl agg24 fsz24 (.tmp rfl (.tmp rfl .nil))) rfl (FRel.mk (Ls:=[Row k24 24 (.slice A159 l158.length c160) l158]) [3] 4 (Gd.le.refl _) rfl rfl rfl ⟨rfl,A159,c160,rfl,rfl⟩)
 ·
  refine TC.block ?_
  intro a W hF hO
  have hS:∃ (x104:Int) (x105:Int) (l106:(List S24)) (A107:Option Addr) (c108:Nat),parse_Parse.l0 a0 100000 x104 x105 l106=some o162∧Fr 53 a [(0,.slice A1 a0.length c2),(2,VP b5 0),(5,VP b6 0),(6,VP b9 0)]∧Own G (Blk b5 [VI 0,.string (⟨#[]⟩:ByteArray),VI 0,.slice none 0 0] 24::Blk b6 [.slice A1 a0.length c2,VI x104,VI x105] 67::Blk b9 [VI 1,.string (⟨#[]⟩:ByteArray),VI y7,.slice A107 l106.length c108] 24::Row k24 24 (.slice A107 l106.length c108) l106::L) W:=by
   exact ⟨0,0,[],none,0,ho162,hF.sub ⟨rfl,rfl,rfl,rfl,trivial⟩,(Own.nilRow k24 24 hO).selT (Ls:=[Blk b5 [VI 0,.string (⟨#[]⟩:ByteArray),VI 0,.slice none 0 0] 24,Blk b6 [.slice A1 a0.length c2,VI 0,VI 0] 67,Blk b9 [VI 1,.string (⟨#[]⟩:ByteArray),VI y7,.slice none ([]:List S24).length 0] 24,Row k24 24 (.slice none ([]:List S24).length 0) ([]:List S24)]) [3,2,1,0] 4 rfl rfl rfl⟩
  clear hF hO ho162 ko162
  refine TC.loop (fun n163 a W=>∃ (x104:Int) (x105:Int) (l106:(List S24)) (A107:Option Addr) (c108:Nat),parse_Parse.l0 a0 n163 x104 x105 l106=some o162∧Fr 53 a [(0,.slice A1 a0.length c2),(2,VP b5 0),(5,VP b6 0),(6,VP b9 0)]∧Own G (Blk b5 [VI 0,.string (⟨#[]⟩:ByteArray),VI 0,.slice none 0 0] 24::Blk b6 [.slice A1 a0.length c2,VI x104,VI x105] 67::Blk b9 [VI 1,.string (⟨#[]⟩:ByteArray),VI y7,.slice A107 l106.length c108] 24::Row k24 24 (.slice A107 l106.length c108) l106::L) W) ?_ ?_ hS
  ·
   rintro a W ⟨x104,x105,l106,A107,c108,h,hF,hO⟩
   exact none_no h
  ·
   clear hS
   rintro n163 a W ⟨x104,x105,l106,A107,c108,h,hF,hO⟩
   rw [parse_Parse.l0] at h
   refine TC.use ?_ hF hO
   clear hF hO
   refine TC.seq ?_
   refine TC.seq ?_
   obtain ⟨j217,hj217,h⟩:=jn_no h
   refine TC.tail (fun a W=>∃ (x216:Bool),j217 x216=some o162∧Fr 53 a [(0,.slice A1 a0.length c2),(2,VP b5 0),(5,VP b6 0),(6,VP b9 0),(26,.bool x216)]∧Own G (Blk b5 [VI 0,.string (⟨#[]⟩:ByteArray),VI 0,.slice none 0 0] 24::Blk b6 [.slice A1 a0.length c2,VI x104,VI x105] 67::Blk b9 [VI 1,.string (⟨#[]⟩:ByteArray),VI y7,.slice A107 l106.length c108] 24::Row k24 24 (.slice A107 l106.length c108) l106::L) W) ?_ ?_
   ·
    rintro a W ⟨x216,h,hF,hO⟩
    rw [hj217] at h
    refine TQ.use ?_ hF hO
    clear hF hO
    refine TQ.then_ ?_
    refine TC.cond_b rfl h (fun hc219 h=>?_) (fun hc219 h=>?_)
    ·
     refine TC.skip ?_
     refine TQ.then_ ?_
     refine TC.block ?_
     refine TC.regionAnyS (L0:=(Blk b5 [VI 0,.string (⟨#[]⟩:ByteArray),VI 0,.slice none 0 0] 24::Blk b9 [VI 1,.string (⟨#[]⟩:ByteArray),VI y7,.slice A107 l106.length c108] 24::L)) [7] [0,1,2,6] mixed (by kernel_rfl) ?_
     refine TA.take 0 rfl (by kernel_rfl) rfl (PQ.inB (PQ.then_ (PQ.inB (PQ.then_ (PQ.then_ PQ.body))))) rfl (Val.fieldAddrB Try.underlying24 rfl fsz22 rfl rfl rfl) (fun W hO=>hO.selT (Ls:=[Blk b5 [VI 0,.string (⟨#[]⟩:ByteArray),VI 0,.slice none 0 0] 24,Blk b9 [VI 1,.string (⟨#[]⟩:ByteArray),VI y7,.slice A107 l106.length c108] 24]) [0,2] 4 rfl rfl rfl) ?_
     refine TA.take 1 rfl (by kernel_rfl) rfl (PQ.inB (PQ.then_ (PQ.inB (PQ.then_ (PQ.then_ PQ.body))))) rfl (Val.loadB 1 agg22 rfl rfl rfl) (fun W hO=>hO.selT (Ls:=[Blk b5 [VI 0,.string (⟨#[]⟩:ByteArray),VI 0,.slice none 0 0] 24,Blk b9 [VI 1,.string (⟨#[]⟩:ByteArray),VI y7,.slice A107 l106.length c108] 24]) [0,2] 4 rfl rfl rfl) ?_
     refine TA.take 2 rfl (by kernel_rfl) rfl (PQ.inB (PQ.then_ (PQ.inB (PQ.then_ (PQ.then_ PQ.body))))) rfl (Val.move rfl) (fun W hO=>hO.selT (Ls:=[Blk b5 [VI 0,.string (⟨#[]⟩:ByteArray),VI 0,.slice none 0 0] 24,Blk b9 [VI 1,.string (⟨#[]⟩:ByteArray),VI y7,.slice A107 l106.length c108] 24]) [0,2] 4 rfl rfl rfl) ?_
     refine TK.sel (Ls:=[Blk b6 [.slice A1 a0.length c2,VI x104,VI x105] 67,Blk b5 [VI 0,.string (⟨#[]⟩:ByteArray),VI 0,.slice none 0 0] 24,Blk b9 [VI 1,.string (⟨#[]⟩:ByteArray),VI y7,.slice A107 l106.length c108] 24,Row k24 24 (.slice A107 l106.length c108) l106]) [1,0,2,3] 4 rfl rfl rfl ?_
     obtain ⟨y247,hy248,h⟩:=bind_no h
     refine TA.eff 3 rfl (by kernel_rfl) rfl (TL.callV (Lin:=[Blk b6 [.slice A1 a0.length c2,VI x104,VI x105] 67]) (args:=[VP b6 0]) rfl rfl rfl hbd30 rfl rfl (parse_parser_function.calls (a0_0:=a0) (a0_1:=x104) (a0_2:=x105) hr3 hl4 hy248) rfl ?_)
     rintro _ _ _ _ ⟨rfl,A249,c250,rfl,rfl⟩
     refine TA.next (fun W hO=>hO.selT (Ls:=[Blk b5 [VI 0,.string (⟨#[]⟩:ByteArray),VI 0,.slice none 0 0] 24,Blk b9 [VI 1,.string (⟨#[]⟩:ByteArray),VI y7,.slice A107 l106.length c108] 24]) [2,3] 5 rfl rfl rfl) ?_
     refine TA.eff 4 rfl (by kernel_rfl) rfl (TL.buildSlice (xs:=[.tmp 30]) (vs:=[.agg #[VI y247.1.f0,.string y247.1.f1,VI y247.1.f2,.slice A249 y247.1.f3.length c250]]) (cs:=[VI y247.1.f0,.string y247.1.f1,VI y247.1.f2,.slice A249 y247.1.f3.length c250]) rfl rfl Try.underlying22 zs24 rfl rfl rfl rfl rfl rfl rfl rfl (fun b252=>?_))
     refine TA.next (fun W hO=>hO.selT (Ls:=[Blk b5 [VI 0,.string (⟨#[]⟩:ByteArray),VI 0,.slice none 0 0] 24,Blk b9 [VI 1,.string (⟨#[]⟩:ByteArray),VI y7,.slice A107 l106.length c108] 24]) [3,4] 6 rfl rfl rfl) ?_
     refine TK.sel (Ls:=[Row k24 24 (.slice A249 y247.1.f3.length c250) y247.1.f3,Blk b252 [VI y247.1.f0,.string y247.1.f1,VI y247.1.f2,.slice A249 y247.1.f3.length c250] 24,Blk b6 [.slice A1 a0.length c2,VI y247.2.1,VI y247.2.2] 67,Blk b5 [VI 0,.string (⟨#[]⟩:ByteArray),VI 0,.slice none 0 0] 24,Blk b9 [VI 1,.string (⟨#[]⟩:ByteArray),VI y7,.slice A107 l106.length c108] 24,Row k24 24 (.slice A107 l106.length c108) l106]) [2,0,1,3,4,5] 6 rfl rfl rfl ?_
     refine TK.conv (ch':=El k24 y247.1 [VI y247.1.f0,.string y247.1.f1,VI y247.1.f2,.slice A249 y247.1.f3.length c250]) (fun B W F hh=>k24_mkM W B F y247.1 hh) ?_
     refine TK.sel (Ls:=[Row k24 24 (.slice A107 l106.length c108) l106,El k24 y247.1 [VI y247.1.f0,.string y247.1.f1,VI y247.1.f2,.slice A249 y247.1.f3.length c250],Blk b252 [VI y247.1.f0,.string y247.1.f1,VI y247.1.f2,.slice A249 y247.1.f3.length c250] 24,Blk b6 [.slice A1 a0.length c2,VI y247.2.1,VI y247.2.2] 67,Blk b5 [VI 0,.string (⟨#[]⟩:ByteArray),VI 0,.slice none 0 0] 24,Blk b9 [VI 1,.string (⟨#[]⟩:ByteArray),VI y7,.slice A107 l106.length c108] 24]) [5,0,1,2,3,4] 6 rfl rfl rfl ?_
     obtain ⟨ha253,h⟩:=ite_no h
     refine TA.eff 5 rfl (by kernel_rfl) rfl (TL.append (xs:=l106) k24 rfl rfl Try.underlying22 inf24 rfl (Nat.le_of_ble_eq_true rfl) (Nat.le_of_ble_eq_true rfl) rfl rfl (by omega) (fun A254 c255=>?_))
     refine TA.next (fun W hO=>hO.selT (Ls:=[Blk b5 [VI 0,.string (⟨#[]⟩:ByteArray),VI 0,.slice none 0 0] 24,Blk b9 [VI 1,.string (⟨#[]⟩:ByteArray),VI y7,.slice A107 l106.length c108] 24]) [2,3] 4 rfl rfl rfl) ?_
     refine TA.take 6 rfl (by kernel_rfl) rfl (PQ.inB (PQ.then_ (PQ.inB (PQ.then_ (PQ.then_ PQ.body))))) rfl (Val.fieldAddrB Try.underlying24 rfl fsz22 rfl rfl rfl) (fun W hO=>hO.selT (Ls:=[Blk b5 [VI 0,.string (⟨#[]⟩:ByteArray),VI 0,.slice none 0 0] 24,Blk b9 [VI 1,.string (⟨#[]⟩:ByteArray),VI y7,.slice A107 l106.length c108] 24]) [2,3] 4 rfl rfl rfl) ?_
     refine TA.eff 7 rfl (by kernel_rfl) rfl (TL.store 3 (ds:=[.slice A254 (l106 ++ [y247.1]).length c255]) (cs':=[VI 1,.string (⟨#[]⟩:ByteArray),VI y7,.slice A254 (l106 ++ [y247.1]).length c255]) (L':=(Row k24 24 (.slice A254 (l106 ++ [y247.1]).length c255) (l106 ++ [y247.1])::Blk b6 [.slice A1 a0.length c2,VI y247.2.1,VI y247.2.2] 67::Blk b5 [VI 0,.string (⟨#[]⟩:ByteArray),VI 0,.slice none 0 0] 24::Blk b9 [VI 1,.string (⟨#[]⟩:ByteArray),VI y7,.slice A254 (l106 ++ [y247.1]).length c255] 24::L)) rfl fsz22 rfl rfl rfl rfl rfl (Nat.le_of_ble_eq_true rfl) rfl rfl ?_)
     refine TA.last rfl ?_
     refine TA.done (by kernel_rfl) ?_
     refine TQ.inB ?_
     exact fun a W hF hO=>⟨y247.2.1,y247.2.2,(l106 ++ [y247.1]),A254,c255,h,hF.sub ⟨rfl,rfl,rfl,rfl,trivial⟩,hO.selT (Ls:=[Blk b5 [VI 0,.string (⟨#[]⟩:ByteArray),VI 0,.slice none 0 0] 24,Blk b6 [.slice A1 a0.length c2,VI y247.2.1,VI y247.2.2] 67,Blk b9 [VI 1,.string (⟨#[]⟩:ByteArray),VI y7,.slice A254 (l106 ++ [y247.1]).length c255] 24,Row k24 24 (.slice A254 (l106 ++ [y247.1]).length c255) (l106 ++ [y247.1])]) [2,1,3,0] 4 rfl rfl rfl⟩
    ·
     refine TC.exit ?_
     refine TQ.thenX ?_
     refine TQ.thenX ?_
     refine TQ.inBX ?_
     exact fun a W hF hO=>⟨x104,x105,l106,A107,c108,Option.some.inj h,hF.sub ⟨rfl,rfl,rfl,trivial⟩,hO.selT (Ls:=[Blk b5 [VI 0,.string (⟨#[]⟩:ByteArray),VI 0,.slice none 0 0] 24,Blk b6 [.slice A1 a0.length c2,VI x104,VI x105] 67,Blk b9 [VI 1,.string (⟨#[]⟩:ByteArray),VI y7,.slice A107 l106.length c108] 24,Row k24 24 (.slice A107 l106.length c108) l106]) [0,1,2,3] 4 rfl rfl rfl⟩
   ·
    refine TC.region ?_
    refine TV rfl rfl rfl (Val.move rfl) ?_
    refine TV rfl rfl rfl (Val.nilCheck rfl) ?_
    refine TV rfl rfl rfl (Val.fieldAddrB Try.underlying67 rfl fsz33 rfl rfl rfl) ?_
    refine TV rfl rfl rfl (Val.loadB 1 agg33 rfl rfl rfl) ?_
    refine TV rfl rfl rfl (Val.cmp rfl rfl run_eql) ?_
    refine TV rfl rfl rfl (Val.move rfl) ?_
    refine TK.split (p:=x105=0) h (fun hg256 h=>?_) (fun hg256 h=>?_)
    ·
     have hk257:decide (x105=0)=true:=decide_eq_true hg256
     refine TV (Wt.yes rfl rfl rfl hk257) rfl rfl (Val.move rfl) ?_
     refine TV (Wt.yes rfl rfl rfl hk257) rfl rfl (Val.nilCheck rfl) ?_
     refine TV (Wt.yes rfl rfl rfl hk257) rfl rfl (Val.fieldAddrB Try.underlying67 rfl fsz3 rfl rfl rfl) ?_
     refine TV (Wt.yes rfl rfl rfl hk257) rfl rfl (Val.loadB 1 agg3 rfl rfl rfl) ?_
     refine TV (Wt.yes rfl rfl rfl hk257) rfl rfl (Val.move rfl) ?_
     refine TV (Wt.yes rfl rfl rfl hk257) rfl rfl (Val.len Try.underlying32 rfl) ?_
     refine TV (Wt.yes rfl rfl rfl hk257) rfl rfl (Val.cmp rfl rfl run_lss) ?_
     refine TV rfl rfl rfl (Val.pickY rfl hk257 rfl) ?_
     refine TL.nil ?_
     exact fun a W hF hO=>⟨decide (x104 < (a0.length:Int)),h,hF.sub ⟨rfl,rfl,rfl,rfl,rfl,trivial⟩,hO.selT (Ls:=[Blk b5 [VI 0,.string (⟨#[]⟩:ByteArray),VI 0,.slice none 0 0] 24,Blk b6 [.slice A1 a0.length c2,VI x104,VI x105] 67,Blk b9 [VI 1,.string (⟨#[]⟩:ByteArray),VI y7,.slice A107 l106.length c108] 24,Row k24 24 (.slice A107 l106.length c108) l106]) [0,1,2,3] 4 rfl rfl rfl⟩
    ·
     have hk258:decide (x105=0)=false:=decide_eq_false hg256
     refine TL.cons (TL.not (Wt.no rfl rfl rfl hk258) rfl ?_)
     refine TL.cons (TL.not (Wt.no rfl rfl rfl hk258) rfl ?_)
     refine TL.cons (TL.not (Wt.no rfl rfl rfl hk258) rfl ?_)
     refine TL.cons (TL.not (Wt.no rfl rfl rfl hk258) rfl ?_)
     refine TL.cons (TL.not (Wt.no rfl rfl rfl hk258) rfl ?_)
     refine TL.cons (TL.not (Wt.no rfl rfl rfl hk258) rfl ?_)
     refine TL.cons (TL.not (Wt.no rfl rfl rfl hk258) rfl ?_)
     refine TV rfl rfl rfl (Val.pickN rfl hk258 rfl) ?_
     refine TL.nil ?_
     exact fun a W hF hO=>⟨false,h,hF.sub ⟨rfl,rfl,rfl,rfl,rfl,trivial⟩,hO.selT (Ls:=[Blk b5 [VI 0,.string (⟨#[]⟩:ByteArray),VI 0,.slice none 0 0] 24,Blk b6 [.slice A1 a0.length c2,VI x104,VI x105] 67,Blk b9 [VI 1,.string (⟨#[]⟩:ByteArray),VI y7,.slice A107 l106.length c108] 24,Row k24 24 (.slice A107 l106.length c108) l106]) [0,1,2,3] 4 rfl rfl rfl⟩
def parse_Size.post (G:Gd)  (r:Int) (v:Value) (G':Gd) (Lr:List Ch):Prop:=G=G'∧v=VI r∧Lr=[]
def parse_Size.l0 (rec11:(S24 → Option Int)) (a0:S24):Nat → Int → Int → Option (Int)
 | 0,_,_=>none
 | n114 + 1,x76,x77=>(if x77 < (a0.f3.length:Int) then (at? a0.f3 x77).bind fun y167=>(rec11 y167).bind fun (y181:Int)=>parse_Size.l0 rec11 a0 n114 (IntKind.i64.wrap (x76 + y181)) (IntKind.i64.wrap (x77 + 1)) else some x76)
def parse_Size.g (rec11:(S24 → Option Int)) (a0:S24):Option Int:=(parse_Size.l0 rec11 a0 (a0.f3.length + 1) 1 0).bind fun (x112:Int)=>some x112
theorem parse_Size.step (rec11:(S24 → Option Int)) (ih11:∀ {G:Gd} {r:Int} {a0:S24} {A1:Option Addr} {c2:Nat} (hr3:Rd G k24 A1 a0.f3) (hl4:a0.f3.length ≤ c2),rec11 a0=some r → Fn Try.prog 11 G [] [.agg #[VI a0.f0,.string a0.f1,VI a0.f2,.slice A1 a0.f3.length c2]] (parse_Size.post G  r)) {G:Gd} {r:Int} {a0:S24} {A1:Option Addr} {c2:Nat} (hr3:Rd G k24 A1 a0.f3) (hl4:a0.f3.length ≤ c2) (h:parse_Size.g rec11 a0=some r):Fn Try.prog 11 G [] [.agg #[VI a0.f0,.string a0.f1,VI a0.f2,.slice A1 a0.f3.length c2]] (parse_Size.post G  r):=by
 refine Fn.intro (e:=[(0,.agg #[VI a0.f0,.string a0.f1,VI a0.f2,.slice A1 a0.f3.length c2])]) 19 Try.func11 rfl Try.ntmps11 rfl rfl (Nat.le_of_ble_eq_true rfl) (fun L=>?_)
 unfold parse_Size.g at h
 refine TC.seq ?_
 refine TC.region ?_
 refine TL.cons (TL.box (cs:=[VI a0.f0,.string a0.f1,VI a0.f2,.slice A1 a0.f3.length c2]) rfl rfl rfl rfl (fun b5=>?_))
 refine TV rfl rfl rfl (Val.assign rfl) ?_
 refine TL.nil ?_
 refine TQ.then_ ?_
 refine TC.seq ?_
 refine TC.region ?_
 refine TV rfl rfl rfl (Val.assign rfl) ?_
 refine TL.nil ?_
 refine TQ.then_ ?_
 refine TC.seq ?_
 refine TC.seq ?_
 refine TC.region ?_
 refine TV rfl rfl rfl (Val.fieldAddrB Try.underlying24 rfl fsz22 rfl rfl rfl) ?_
 refine TV rfl rfl rfl (Val.loadB 0 agg22 rfl rfl rfl) ?_
 refine TV rfl rfl rfl (Val.len Try.underlying22 rfl) ?_
 refine TV rfl rfl rfl (Val.move rfl) ?_
 refine TL.nil ?_
 refine TQ.then_ ?_
 obtain ⟨o113,ho113,ko113⟩:=bind_no h
 clear h
 refine TC.tail (fun a W=>∃ (x112:Int),x112=o113∧Fr 19 a [(3,VI x112)]∧Own G (L) W) ?_ ?_
 ·
  rintro a W ⟨x112,rfl,hF,hO⟩
  have h:=ko113
  clear ko113 ho113
  refine TQ.use ?_ hF hO
  clear hF hO
  refine TQ.then_ ?_
  refine TC.seq ?_
  refine TC.region ?_
  refine TV rfl rfl rfl (Val.move rfl) ?_
  refine TV rfl rfl rfl (Val.assign rfl) ?_
  refine TL.nil ?_
  refine TQ.then_ ?_
  refine TC.ret ?_
  obtain rfl:=Option.some.inj h
  exact TQ.fin (.inl rfl) rfl Try.results11 (.tmp rfl .nil) rfl (FRel.mk (Ls:=[]) [] 0 (Gd.le.refl _) rfl rfl rfl ⟨rfl,rfl,rfl⟩)
 ·
  refine TC.block ?_
  intro a W hF hO
  have hS:∃ (x76:Int) (x77:Int),parse_Size.l0 rec11 a0 (a0.f3.length + 1) x76 x77=some o113∧Fr 19 a [(3,VI x76),(7,.slice A1 a0.f3.length c2),(8,VI (a0.f3.length:Int)),(9,VI x77)]∧Own G (L) W:=by
   exact ⟨1,0,ho113,hF.sub ⟨rfl,rfl,rfl,rfl,trivial⟩,hO.selT (Ls:=[]) [] 1 rfl rfl rfl⟩
  clear hF hO ho113 ko113
  refine TC.loop (fun n114 a W=>∃ (x76:Int) (x77:Int),parse_Size.l0 rec11 a0 n114 x76 x77=some o113∧Fr 19 a [(3,VI x76),(7,.slice A1 a0.f3.length c2),(8,VI (a0.f3.length:Int)),(9,VI x77)]∧Own G (L) W) ?_ ?_ hS
  ·
   rintro a W ⟨x76,x77,h,hF,hO⟩
   exact none_no h
  ·
   clear hS
   rintro n114 a W ⟨x76,x77,h,hF,hO⟩
   rw [parse_Size.l0] at h
   refine TC.use ?_ hF hO
   clear hF hO
   refine TC.seq ?_
   refine TC.region ?_
   refine TV rfl rfl rfl (Val.cmp rfl rfl run_lss) ?_
   refine TL.nil ?_
   refine TQ.then_ ?_
   refine TC.seq ?_
   refine TC.cond_p rfl h (fun hc150 h=>?_) (fun hc150 h=>?_)
   ·
    refine TC.skip ?_
    refine TQ.then_ ?_
    refine TC.seq ?_
    refine TC.block ?_
    refine TC.seq ?_
    refine TC.region ?_
    obtain ⟨y167,hx168,h⟩:=bind_no h
    obtain ⟨ad169,cs175,hA170,hi171,hj172,hcl173,hK174⟩:=Rd.at hr3 hx168
    obtain ⟨A176,c177,rfl,hr178,hl179⟩:=k24_openR hK174
    refine TV rfl rfl rfl (Val.indexAddr Try.underlying22 fsz24 rfl hA170 rfl hi171 hj172) ?_
    refine TV rfl rfl rfl (Val.loadsS (cs:=[VI y167.f0,.string y167.f1,VI y167.f2,.slice A176 y167.f3.length c177]) agg24 fsz24 rfl rfl (Cl.sub (off:=0) (n:=4) hcl173 rfl)) ?_
    refine TL.cons (TL.alloc (cs:=[VI 0,.string (⟨#[]⟩:ByteArray),VI 0,.slice none 0 0]) rfl rfl zr24 rfl (fun b180=>?_))
    refine TL.cons (TL.store 0 (ds:=[VI y167.f0,.string y167.f1,VI y167.f2,.slice A176 y167.f3.length c177]) (cs':=[VI y167.f0,.string y167.f1,VI y167.f2,.slice A176 y167.f3.length c177]) (L':=(Blk b180 [VI y167.f0,.string y167.f1,VI y167.f2,.slice A176 y167.f3.length c177] 24::L)) rfl fsz24 rfl rfl rfl rfl rfl (Nat.le_of_ble_eq_true rfl) rfl rfl ?_)
    refine TL.nil ?_
    refine TQ.then_ ?_
    refine TC.region ?_
    refine TV rfl rfl rfl (Val.move rfl) ?_
    refine TV rfl rfl rfl (Val.loadsB 0 (cs:=[VI y167.f0,.string y167.f1,VI y167.f2,.slice A176 y167.f3.length c177]) agg24 fsz24 rfl rfl rfl rfl) ?_
    obtain ⟨y181,hy182,h⟩:=bind_no h
    refine TL.cons (TL.callV (Lin:=[]) (args:=[.agg #[VI y167.f0,.string y167.f1,VI y167.f2,.slice A176 y167.f3.length c177]]) rfl rfl rfl hbd11 rfl rfl (ih11 (a0:=y167) hr178 hl179 hy182) rfl ?_)
    rintro _ _ _ _ ⟨rfl,rfl,rfl⟩
    refine TV rfl rfl rfl (Val.cmp rfl rfl run_add) ?_
    refine TV rfl rfl rfl (Val.assign rfl) ?_
    refine TL.nil ?_
    refine TQ.inB ?_
    refine TQ.then_ ?_
    refine TC.region ?_
    refine TV rfl rfl rfl (Val.cmp rfl rfl run_add) ?_
    refine TV rfl rfl rfl (Val.move rfl) ?_
    refine TL.nil ?_
    exact fun a W hF hO=>⟨IntKind.i64.wrap (x76 + y181),IntKind.i64.wrap (x77 + 1),h,hF.sub ⟨rfl,rfl,rfl,rfl,trivial⟩,hO.selT (Ls:=[]) [] 1 rfl rfl rfl⟩
   ·
    refine TC.exit ?_
    refine TQ.thenX ?_
    refine TQ.thenX ?_
    refine TQ.inBX ?_
    exact fun a W hF hO=>⟨x76,Option.some.inj h,hF.sub ⟨rfl,trivial⟩,hO.selT (Ls:=[]) [] 0 rfl rfl rfl⟩
def parse_Size.fix:Nat → (S24 → Option Int)
 | 0=>(fun _=>none)
 | n + 1=>parse_Size.g (parse_Size.fix n)
theorem parse_Size.fixc:∀ k,(∀ {G:Gd} {r:Int} {a0:S24} {A1:Option Addr} {c2:Nat} (hr3:Rd G k24 A1 a0.f3) (hl4:a0.f3.length ≤ c2),(parse_Size.fix k) a0=some r → Fn Try.prog 11 G [] [.agg #[VI a0.f0,.string a0.f1,VI a0.f2,.slice A1 a0.f3.length c2]] (parse_Size.post G  r))∧True
 | 0=>⟨(by intros; contradiction),trivial⟩
 | k + 1=>by
  have ih:=parse_Size.fixc k
  exact ⟨(by
   intro G r a0 A1 c2 hr3 hl4 h
   exact parse_Size.step _ ih.1 hr3 hl4 h),trivial⟩
def parse_Size.f (a0:S24):Option Int:=(parse_Size.fix 100000) a0
theorem parse_Size.calls {G:Gd} {r:Int} {a0:S24} {A1:Option Addr} {c2:Nat} (hr3:Rd G k24 A1 a0.f3) (hl4:a0.f3.length ≤ c2) (h:parse_Size.f a0=some r):Fn Try.prog 11 G [] [.agg #[VI a0.f0,.string a0.f1,VI a0.f2,.slice A1 a0.f3.length c2]] (parse_Size.post G  r):=(parse_Size.fixc 100000).1 hr3 hl4 h
end Go.Proofs.Ythlhmoocgjddpaa.Sy
set_option linter.unusedVariables false
set_option linter.unusedSimpArgs false
namespace Go.Proofs.Ythlhmoocgjddpaa.Sy
open Go Go.RowKit Go.Proofs.YthlhmoocgjddpaaW.PrintWords
/-! #### Size -/
theorem size_loop {rec : S24 → Option Int} {x : S24} {v : S24 → Int} (hv : ∀ y ∈ x.f3, rec y = some (v y)) : ∀ (ys : List S24) (m i : Nat) (a : Int), x.f3.drop i = ys → ys.length < m → i + ys.length ≤ 1000000000000 →
    parse_Size.l0 rec x m (IntKind.i64.wrap a) i = some (IntKind.i64.wrap (a + (ys.map v).sum)) := by
  intro ys
  induction ys with
  | nil =>
    intro m i a hd hm hi
    obtain ⟨m, rfl⟩ : ∃ j, m = j + 1 := ⟨m - 1, by simp at hm; omega⟩
    have := List.drop_eq_nil_iff.1 hd
    rw [parse_Size.l0, if_neg (by omega)]
    simp
  | cons y ys ih2 =>
    intro m i a hd hm hi
    obtain ⟨m, rfl⟩ : ∃ j, m = j + 1 := ⟨m - 1, by simp at hm; omega⟩
    have hl : i < x.f3.length := by
      apply Classical.byContradiction; intro hn
      rw [List.drop_eq_nil_of_le (by omega)] at hd; cases hd
    rw [List.drop_eq_getElem_cons hl] at hd
    injection hd with h1 h2
    have hy : y ∈ x.f3 := by rw [← h1]; exact List.getElem_mem hl
    have ha : at? x.f3 (i : Int) = some y := by
      unfold at?; rw [if_pos (by omega)]; simp [List.getElem?_eq_getElem hl, h1]
    rw [parse_Size.l0, if_pos (by omega), ha, Option.bind_some, hv y hy, Option.bind_some]
    have e1 : IntKind.i64.wrap ((i : Int) + 1) = ((i + 1 : Nat) : Int) := by rw [w64 (by omega) (by simp at hi; omega)]; omega
    have e2 : IntKind.i64.wrap (IntKind.i64.wrap a + v y) = IntKind.i64.wrap (a + v y) := by
      rw [IntKind.wrap_i64, IntKind.wrap_i64, IntKind.wrap_i64]; omega
    rw [e1, e2, ih2 m (i + 1) (a + v y) h2 (by simp at hm; omega) (by simp at hi; omega)]
    simp only [List.map_cons, List.sum_cons]
    congr 2; omega
theorem size_g {rec : S24 → Option Int} {x : S24} {v : S24 → Int} (hv : ∀ y ∈ x.f3, rec y = some (v y)) (hl : x.f3.length ≤ 1000000) : parse_Size.g rec x = some (IntKind.i64.wrap (1 + (x.f3.map v).sum)) := by
  unfold parse_Size.g
  have := size_loop hv x.f3 (x.f3.length + 1) 0 1 rfl (by omega) (by omega)
  rw [w64 (n := 1) (by omega) (by omega)] at this
  rw [show ((0 : Nat) : Int) = 0 from rfl] at this
  rw [this]; rfl
theorem size_tot : ∀ (n : Nat), n ≤ 1000000 → ∀ (x : S24), Dp n x → ∃ k, parse_Size.fix n x = some k := by
  intro n
  induction n with
  | zero => intro _ x h; exact h.elim
  | succ n ih =>
    intro hn x h
    refine ⟨_, size_g (v := fun y => (parse_Size.fix n y).getD 0) (fun y hy => ?_) (by have := h.1; omega)⟩
    obtain ⟨k, hk⟩ := ih (by omega) y (h.2 y hy)
    rw [hk]; rfl
def sz (y : S24) : Int := (parse_Size.fix 99999 y).getD 0
theorem size_f {a c : Int} {b : ByteArray} {ks : List S24} (h : DL 50000 ks) : parse_Size.f ⟨a, b, c, ks⟩ = some (IntKind.i64.wrap (1 + (ks.map sz).sum)) := by
  refine size_g (x := ⟨a, b, c, ks⟩) (v := sz) (fun y hy => ?_) (by have := h.1; show ks.length ≤ _; omega)
  obtain ⟨k, hk⟩ := size_tot 99999 (by omega) y ((h.2 y hy).mono (by omega))
  unfold sz; rw [hk]; rfl
end Go.Proofs.Ythlhmoocgjddpaa.Sy
set_option linter.unusedVariables false
set_option linter.unusedSimpArgs false
set_option maxRecDepth 100000
set_option maxHeartbeats 4000000
namespace Go.Proofs.Ythlhmoocgjddpaa.Sy
open Go Go.RowKit Go.Proofs.YthlhmoocgjddpaaW.PrintWords 
def parse_least.f (a0:Int):Option Int:=jn (γ:=Int) (fun (x125:Bool)=>(if x125=true then some 2 else jn (γ:=Int) (fun (x184:Bool)=>(if x184=true then some 0 else jn (γ:=Int) (fun (x191:Bool)=>(if x191=true then some 1 else some (-1))) (fun (j192:(Bool → Option Int))=>(if 1 < a0 then j192 (decide (a0 < 27)) else j192 false)))) (fun (j185:(Bool → Option Int))=>(if a0=1 then j185 (decide (a0=1)) else (if a0=4 then j185 (decide (a0=4)) else (if a0=5 then j185 (decide (a0=5)) else (if a0=9 then j185 (decide (a0=9)) else (if a0=14 then j185 (decide (a0=14)) else (if a0=17 then j185 (decide (a0=17)) else (if a0=18 then j185 (decide (a0=18)) else (if a0=25 then j185 (decide (a0=25)) else j185 (decide (a0=27))))))))))))) (fun (j126:(Bool → Option Int))=>(if a0=2 then j126 (decide (a0=2)) else (if a0=11 then j126 (decide (a0=11)) else (if a0=12 then j126 (decide (a0=12)) else (if a0=13 then j126 (decide (a0=13)) else (if a0=19 then j126 (decide (a0=19)) else j126 (decide (a0=23))))))))
def parse_least.post (G:Gd)  (r:Int) (v:Value) (G':Gd) (Lr:List Ch):Prop:=G=G'∧v=VI r∧Lr=[]
theorem parse_least.calls {G:Gd} {r:Int} {a0:Int} (h:parse_least.f a0=some r):Fn Try.prog 31 G [] [VI a0] (parse_least.post G  r):=by
 refine Fn.intro (e:=[(0,VI a0)]) 27 Try.func31 rfl Try.ntmps31 rfl rfl (Nat.le_of_ble_eq_true rfl) (fun L=>?_)
 unfold parse_least.f at h
 refine TC.seq ?_
 refine TC.region ?_
 refine TV rfl rfl rfl (Val.assign rfl) ?_
 refine TL.nil ?_
 refine TQ.then_ ?_
 refine TC.seq ?_
 refine TC.seq ?_
 refine TC.region ?_
 refine TV rfl rfl rfl (Val.move rfl) ?_
 refine TL.nil ?_
 refine TQ.then_ ?_
 refine TC.block ?_
 refine TC.seq ?_
 refine TC.seq ?_
 refine TC.region ?_
 refine TV rfl rfl rfl (Val.cmp rfl rfl run_eql) ?_
 refine TV rfl rfl rfl (Val.assign rfl) ?_
 refine TL.nil ?_
 refine TQ.then_ ?_
 obtain ⟨j126,hj126,h⟩:=jn_no h
 refine TC.tail (fun a W=>∃ (x125:Bool),j126 x125=some r∧Fr 27 a [(0,VI a0),(3,VI a0),(4,.bool x125)]∧Own G (L) W) ?_ ?_
 ·
  rintro a W ⟨x125,h,hF,hO⟩
  rw [hj126] at h
  refine TQ.use ?_ hF hO
  clear hF hO
  refine TQ.then_ ?_
  refine TC.cond_b rfl h (fun hc175 h=>?_) (fun hc175 h=>?_)
  ·
   refine TC.seq ?_
   refine TC.region ?_
   refine TV rfl rfl rfl (Val.assign rfl) ?_
   refine TL.nil ?_
   refine TQ.then_ ?_
   refine TC.ret ?_
   refine TQ.inBR ?_
   refine TQ.thenR ?_
   obtain rfl:=Option.some.inj h
   exact TQ.fin (.inl rfl) rfl Try.results31 (.tmp rfl .nil) rfl (FRel.mk (Ls:=[]) [] 0 (Gd.le.refl _) rfl rfl rfl ⟨rfl,rfl,rfl⟩)
  ·
   refine TC.seq ?_
   refine TC.seq ?_
   refine TC.region ?_
   refine TV rfl rfl rfl (Val.cmp rfl rfl run_eql) ?_
   refine TV rfl rfl rfl (Val.assign rfl) ?_
   refine TL.nil ?_
   refine TQ.then_ ?_
   obtain ⟨j185,hj185,h⟩:=jn_no h
   refine TC.tail (fun a W=>∃ (x184:Bool),j185 x184=some r∧Fr 27 a [(0,VI a0),(11,.bool x184)]∧Own G (L) W) ?_ ?_
   ·
    rintro a W ⟨x184,h,hF,hO⟩
    rw [hj185] at h
    refine TQ.use ?_ hF hO
    clear hF hO
    refine TQ.then_ ?_
    refine TC.cond_b rfl h (fun hc187 h=>?_) (fun hc187 h=>?_)
    ·
     refine TC.seq ?_
     refine TC.region ?_
     refine TV rfl rfl rfl (Val.assign rfl) ?_
     refine TL.nil ?_
     refine TQ.then_ ?_
     refine TC.ret ?_
     refine TQ.inBR ?_
     refine TQ.thenR ?_
     obtain rfl:=Option.some.inj h
     exact TQ.fin (.inl rfl) rfl Try.results31 (.tmp rfl .nil) rfl (FRel.mk (Ls:=[]) [] 0 (Gd.le.refl _) rfl rfl rfl ⟨rfl,rfl,rfl⟩)
    ·
     refine TC.skip ?_
     refine TQ.inB ?_
     refine TQ.then_ ?_
     refine TC.seq ?_
     refine TC.seq ?_
     obtain ⟨j192,hj192,h⟩:=jn_no h
     refine TC.tail (fun a W=>∃ (x191:Bool),j192 x191=some r∧Fr 27 a [(26,.bool x191)]∧Own G (L) W) ?_ ?_
     ·
      rintro a W ⟨x191,h,hF,hO⟩
      rw [hj192] at h
      refine TQ.use ?_ hF hO
      clear hF hO
      refine TQ.then_ ?_
      refine TC.cond_b rfl h (fun hc194 h=>?_) (fun hc194 h=>?_)
      ·
       refine TC.seq ?_
       refine TC.region ?_
       refine TV rfl rfl rfl (Val.assign rfl) ?_
       refine TL.nil ?_
       refine TQ.then_ ?_
       refine TC.ret ?_
       refine TQ.thenR ?_
       obtain rfl:=Option.some.inj h
       exact TQ.fin (.inl rfl) rfl Try.results31 (.tmp rfl .nil) rfl (FRel.mk (Ls:=[]) [] 0 (Gd.le.refl _) rfl rfl rfl ⟨rfl,rfl,rfl⟩)
      ·
       refine TC.skip ?_
       refine TQ.then_ ?_
       refine TC.seq ?_
       refine TC.region ?_
       refine TV rfl rfl rfl (Val.assign rfl) ?_
       refine TL.nil ?_
       refine TQ.then_ ?_
       refine TC.ret ?_
       obtain rfl:=Option.some.inj h
       exact TQ.fin (.inl rfl) rfl Try.results31 (.tmp rfl .nil) rfl (FRel.mk (Ls:=[]) [] 0 (Gd.le.refl _) rfl rfl rfl ⟨rfl,rfl,rfl⟩)
     ·
      refine TC.region ?_
      refine TV rfl rfl rfl (Val.move rfl) ?_
      refine TV rfl rfl rfl (Val.cmp rfl rfl run_gtr) ?_
      refine TV rfl rfl rfl (Val.move rfl) ?_
      refine TK.split (p:=1 < a0) h (fun hg195 h=>?_) (fun hg195 h=>?_)
      ·
       have hk196:decide (1 < a0)=true:=decide_eq_true hg195
       refine TV (Wt.yes rfl rfl rfl hk196) rfl rfl (Val.move rfl) ?_
       refine TV (Wt.yes rfl rfl rfl hk196) rfl rfl (Val.cmp rfl rfl run_lss) ?_
       refine TV rfl rfl rfl (Val.pickY rfl hk196 rfl) ?_
       refine TL.nil ?_
       exact fun a W hF hO=>⟨decide (a0 < 27),h,hF.sub ⟨rfl,trivial⟩,hO.selT (Ls:=[]) [] 0 rfl rfl rfl⟩
      ·
       have hk197:decide (1 < a0)=false:=decide_eq_false hg195
       refine TL.cons (TL.not (Wt.no rfl rfl rfl hk197) rfl ?_)
       refine TL.cons (TL.not (Wt.no rfl rfl rfl hk197) rfl ?_)
       refine TV rfl rfl rfl (Val.pickN rfl hk197 rfl) ?_
       refine TL.nil ?_
       exact fun a W hF hO=>⟨false,h,hF.sub ⟨rfl,trivial⟩,hO.selT (Ls:=[]) [] 0 rfl rfl rfl⟩
   ·
    refine TC.cond_p rfl h (fun hc198 h=>?_) (fun hc198 h=>?_)
    ·
     refine TC.skip ?_
     exact fun a W hF hO=>⟨decide (a0=1),h,hF.sub ⟨rfl,rfl,trivial⟩,hO.selT (Ls:=[]) [] 0 rfl rfl rfl⟩
    ·
     refine TC.seq ?_
     refine TC.region ?_
     refine TV rfl rfl rfl (Val.cmp rfl rfl run_eql) ?_
     refine TV rfl rfl rfl (Val.assign rfl) ?_
     refine TL.nil ?_
     refine TQ.then_ ?_
     refine TC.cond_p rfl h (fun hc206 h=>?_) (fun hc206 h=>?_)
     ·
      refine TC.skip ?_
      exact fun a W hF hO=>⟨decide (a0=4),h,hF.sub ⟨rfl,rfl,trivial⟩,hO.selT (Ls:=[]) [] 0 rfl rfl rfl⟩
     ·
      refine TC.seq ?_
      refine TC.region ?_
      refine TV rfl rfl rfl (Val.cmp rfl rfl run_eql) ?_
      refine TV rfl rfl rfl (Val.assign rfl) ?_
      refine TL.nil ?_
      refine TQ.then_ ?_
      refine TC.cond_p rfl h (fun hc213 h=>?_) (fun hc213 h=>?_)
      ·
       refine TC.skip ?_
       exact fun a W hF hO=>⟨decide (a0=5),h,hF.sub ⟨rfl,rfl,trivial⟩,hO.selT (Ls:=[]) [] 0 rfl rfl rfl⟩
      ·
       refine TC.seq ?_
       refine TC.region ?_
       refine TV rfl rfl rfl (Val.cmp rfl rfl run_eql) ?_
       refine TV rfl rfl rfl (Val.assign rfl) ?_
       refine TL.nil ?_
       refine TQ.then_ ?_
       refine TC.cond_p rfl h (fun hc219 h=>?_) (fun hc219 h=>?_)
       ·
        refine TC.skip ?_
        exact fun a W hF hO=>⟨decide (a0=9),h,hF.sub ⟨rfl,rfl,trivial⟩,hO.selT (Ls:=[]) [] 0 rfl rfl rfl⟩
       ·
        refine TC.seq ?_
        refine TC.region ?_
        refine TV rfl rfl rfl (Val.cmp rfl rfl run_eql) ?_
        refine TV rfl rfl rfl (Val.assign rfl) ?_
        refine TL.nil ?_
        refine TQ.then_ ?_
        refine TC.cond_p rfl h (fun hc224 h=>?_) (fun hc224 h=>?_)
        ·
         refine TC.skip ?_
         exact fun a W hF hO=>⟨decide (a0=14),h,hF.sub ⟨rfl,rfl,trivial⟩,hO.selT (Ls:=[]) [] 0 rfl rfl rfl⟩
        ·
         refine TC.seq ?_
         refine TC.region ?_
         refine TV rfl rfl rfl (Val.cmp rfl rfl run_eql) ?_
         refine TV rfl rfl rfl (Val.assign rfl) ?_
         refine TL.nil ?_
         refine TQ.then_ ?_
         refine TC.cond_p rfl h (fun hc228 h=>?_) (fun hc228 h=>?_)
         ·
          refine TC.skip ?_
          exact fun a W hF hO=>⟨decide (a0=17),h,hF.sub ⟨rfl,rfl,trivial⟩,hO.selT (Ls:=[]) [] 0 rfl rfl rfl⟩
         ·
          refine TC.seq ?_
          refine TC.region ?_
          refine TV rfl rfl rfl (Val.cmp rfl rfl run_eql) ?_
          refine TV rfl rfl rfl (Val.assign rfl) ?_
          refine TL.nil ?_
          refine TQ.then_ ?_
          refine TC.cond_p rfl h (fun hc231 h=>?_) (fun hc231 h=>?_)
          ·
           refine TC.skip ?_
           exact fun a W hF hO=>⟨decide (a0=18),h,hF.sub ⟨rfl,rfl,trivial⟩,hO.selT (Ls:=[]) [] 0 rfl rfl rfl⟩
          ·
           refine TC.seq ?_
           refine TC.region ?_
           refine TV rfl rfl rfl (Val.cmp rfl rfl run_eql) ?_
           refine TV rfl rfl rfl (Val.assign rfl) ?_
           refine TL.nil ?_
           refine TQ.then_ ?_
           refine TC.cond_p rfl h (fun hc233 h=>?_) (fun hc233 h=>?_)
           ·
            refine TC.skip ?_
            exact fun a W hF hO=>⟨decide (a0=25),h,hF.sub ⟨rfl,rfl,trivial⟩,hO.selT (Ls:=[]) [] 0 rfl rfl rfl⟩
           ·
            refine TC.region ?_
            refine TV rfl rfl rfl (Val.cmp rfl rfl run_eql) ?_
            refine TV rfl rfl rfl (Val.assign rfl) ?_
            refine TL.nil ?_
            exact fun a W hF hO=>⟨decide (a0=27),h,hF.sub ⟨rfl,rfl,trivial⟩,hO.selT (Ls:=[]) [] 0 rfl rfl rfl⟩
 ·
  refine TC.cond_p rfl h (fun hc234 h=>?_) (fun hc234 h=>?_)
  ·
   refine TC.skip ?_
   exact fun a W hF hO=>⟨decide (a0=2),h,hF.sub ⟨rfl,rfl,rfl,trivial⟩,hO.selT (Ls:=[]) [] 0 rfl rfl rfl⟩
  ·
   refine TC.seq ?_
   refine TC.region ?_
   refine TV rfl rfl rfl (Val.cmp rfl rfl run_eql) ?_
   refine TV rfl rfl rfl (Val.assign rfl) ?_
   refine TL.nil ?_
   refine TQ.then_ ?_
   refine TC.cond_p rfl h (fun hc239 h=>?_) (fun hc239 h=>?_)
   ·
    refine TC.skip ?_
    exact fun a W hF hO=>⟨decide (a0=11),h,hF.sub ⟨rfl,rfl,rfl,trivial⟩,hO.selT (Ls:=[]) [] 0 rfl rfl rfl⟩
   ·
    refine TC.seq ?_
    refine TC.region ?_
    refine TV rfl rfl rfl (Val.cmp rfl rfl run_eql) ?_
    refine TV rfl rfl rfl (Val.assign rfl) ?_
    refine TL.nil ?_
    refine TQ.then_ ?_
    refine TC.cond_p rfl h (fun hc243 h=>?_) (fun hc243 h=>?_)
    ·
     refine TC.skip ?_
     exact fun a W hF hO=>⟨decide (a0=12),h,hF.sub ⟨rfl,rfl,rfl,trivial⟩,hO.selT (Ls:=[]) [] 0 rfl rfl rfl⟩
    ·
     refine TC.seq ?_
     refine TC.region ?_
     refine TV rfl rfl rfl (Val.cmp rfl rfl run_eql) ?_
     refine TV rfl rfl rfl (Val.assign rfl) ?_
     refine TL.nil ?_
     refine TQ.then_ ?_
     refine TC.cond_p rfl h (fun hc246 h=>?_) (fun hc246 h=>?_)
     ·
      refine TC.skip ?_
      exact fun a W hF hO=>⟨decide (a0=13),h,hF.sub ⟨rfl,rfl,rfl,trivial⟩,hO.selT (Ls:=[]) [] 0 rfl rfl rfl⟩
     ·
      refine TC.seq ?_
      refine TC.region ?_
      refine TV rfl rfl rfl (Val.cmp rfl rfl run_eql) ?_
      refine TV rfl rfl rfl (Val.assign rfl) ?_
      refine TL.nil ?_
      refine TQ.then_ ?_
      refine TC.cond_p rfl h (fun hc248 h=>?_) (fun hc248 h=>?_)
      ·
       refine TC.skip ?_
       exact fun a W hF hO=>⟨decide (a0=19),h,hF.sub ⟨rfl,rfl,rfl,trivial⟩,hO.selT (Ls:=[]) [] 0 rfl rfl rfl⟩
      ·
       refine TC.region ?_
       refine TV rfl rfl rfl (Val.cmp rfl rfl run_eql) ?_
       refine TV rfl rfl rfl (Val.assign rfl) ?_
       refine TL.nil ?_
       exact fun a W hF hO=>⟨decide (a0=23),h,hF.sub ⟨rfl,rfl,rfl,trivial⟩,hO.selT (Ls:=[]) [] 0 rfl rfl rfl⟩
def parse_writer_put.l0 (a1:(List ByteArray)):Nat → Int → (List ByteArray) → Option ((List ByteArray))
 | 0,_,_=>none
 | n174 + 1,x114,l115=>(if x114 < (a1.length:Int) then (at? a1 x114).bind fun y251=>jn (γ:=((List ByteArray))) (fun (l265:(List ByteArray))=>parse_writer_put.l0 a1 n174 (IntKind.i64.wrap (x114 + 1)) l265) (fun (j269:((List ByteArray) → Option ((List ByteArray))))=>(if (!(y251.data.toList == (⟨#[]⟩:ByteArray).data.toList))=true then (if l115.length < 8796093022208 then j269 (l115 ++ [y251]) else none) else j269 l115)) else some l115)
def parse_writer_put.f (a0_0:(List ByteArray)) (a1:(List ByteArray)):Option (List ByteArray):=(parse_writer_put.l0 a1 (a1.length + 1) 0 a0_0).bind fun (l169:(List ByteArray))=>some l169
def parse_writer_put.post (G:Gd) (b1:Nat) (A2:Option Addr) (c3:Nat) (A5:Option Addr) (c6:Nat) (a0_0:(List ByteArray)) (a1:(List ByteArray)) (r:(List ByteArray)) (v:Value) (G':Gd) (Lr:List Ch):Prop:=G=G'∧∃ (A_s0:Option Addr) (c_s0:Nat),v=.tuple #[]∧Lr=[Blk b1 [.slice A_s0 r.length c_s0] 46,Row Kd.string 9 (.slice A_s0 r.length c_s0) r]
theorem parse_writer_put.calls {G:Gd} {r:(List ByteArray)} {a0_0:(List ByteArray)} {a1:(List ByteArray)} {b1:Nat} {A2:Option Addr} {c3:Nat} {A5:Option Addr} {c6:Nat} (hr7:Rd G Kd.string A5 a1) (hl8:a1.length ≤ c6) (h:parse_writer_put.f a0_0 a1=some r):Fn Try.prog 32 G [Blk b1 [.slice A2 a0_0.length c3] 46,Row Kd.string 9 (.slice A2 a0_0.length c3) a0_0] [VP b1 0,.slice A5 a1.length c6] (parse_writer_put.post G b1 A2 c3 A5 c6 a0_0 a1 r):=by
 refine Fn.intro (e:=[(0,VP b1 0),(1,.slice A5 a1.length c6)]) 25 Try.func32 rfl Try.ntmps32 rfl rfl (Nat.le_of_ble_eq_true rfl) (fun L=>?_)
 unfold parse_writer_put.f at h
 refine TC.seq ?_
 refine TC.region ?_
 refine TV rfl rfl rfl (Val.move rfl) ?_
 refine TV rfl rfl rfl (Val.len Try.underlying44 rfl) ?_
 refine TV rfl rfl rfl (Val.move rfl) ?_
 refine TL.nil ?_
 refine TQ.then_ ?_
 obtain ⟨o173,ho173,ko173⟩:=bind_no h
 clear h
 refine TC.tail (fun a W=>∃ (l169:(List ByteArray)) (A170:Option Addr) (c171:Nat),l169=o173∧Fr 25 a []∧Own G (Blk b1 [.slice A170 l169.length c171] 46::Row Kd.string 9 (.slice A170 l169.length c171) l169::L) W) ?_ ?_
 ·
  rintro a W ⟨l169,A170,c171,rfl,hF,hO⟩
  have h:=ko173
  clear ko173 ho173
  refine TQ.use ?_ hF hO
  clear hF hO
  obtain rfl:=Option.some.inj h
  exact TQ.fin (.inr rfl) rfl Try.results32 .nil rfl (FRel.mk (Ls:=[Blk b1 [.slice A170 l169.length c171] 46,Row Kd.string 9 (.slice A170 l169.length c171) l169]) [0,1] 2 (Gd.le.refl _) rfl rfl rfl ⟨rfl,A170,c171,rfl,rfl⟩)
 ·
  refine TC.block ?_
  intro a W hF hO
  have hS:∃ (x114:Int) (l115:(List ByteArray)) (A116:Option Addr) (c117:Nat),parse_writer_put.l0 a1 (a1.length + 1) x114 l115=some o173∧Fr 25 a [(0,VP b1 0),(6,.slice A5 a1.length c6),(7,VI (a1.length:Int)),(8,VI x114)]∧Own G (Blk b1 [.slice A116 l115.length c117] 46::Row Kd.string 9 (.slice A116 l115.length c117) l115::L) W:=by
   exact ⟨0,a0_0,A2,c3,ho173,hF.sub ⟨rfl,rfl,rfl,rfl,trivial⟩,hO.selT (Ls:=[Blk b1 [.slice A2 a0_0.length c3] 46,Row Kd.string 9 (.slice A2 a0_0.length c3) a0_0]) [0,1] 2 rfl rfl rfl⟩
  clear hF hO ho173 ko173
  refine TC.loop (fun n174 a W=>∃ (x114:Int) (l115:(List ByteArray)) (A116:Option Addr) (c117:Nat),parse_writer_put.l0 a1 n174 x114 l115=some o173∧Fr 25 a [(0,VP b1 0),(6,.slice A5 a1.length c6),(7,VI (a1.length:Int)),(8,VI x114)]∧Own G (Blk b1 [.slice A116 l115.length c117] 46::Row Kd.string 9 (.slice A116 l115.length c117) l115::L) W) ?_ ?_ hS
  ·
   rintro a W ⟨x114,l115,A116,c117,h,hF,hO⟩
   exact none_no h
  ·
   clear hS
   rintro n174 a W ⟨x114,l115,A116,c117,h,hF,hO⟩
   rw [parse_writer_put.l0] at h
   refine TC.use ?_ hF hO
   clear hF hO
   refine TC.seq ?_
   refine TC.region ?_
   refine TV rfl rfl rfl (Val.cmp rfl rfl run_lss) ?_
   refine TL.nil ?_
   refine TQ.then_ ?_
   refine TC.seq ?_
   refine TC.cond_p rfl h (fun hc226 h=>?_) (fun hc226 h=>?_)
   ·
    refine TC.skip ?_
    refine TQ.then_ ?_
    refine TC.seq ?_
    refine TC.block ?_
    refine TC.seq ?_
    refine TC.region ?_
    obtain ⟨y251,hx252,h⟩:=bind_no h
    obtain ⟨ad253,cs259,hA254,hi255,hj256,hcl257,hK258⟩:=Rd.at hr7 hx252
    obtain rfl:=RdK.string hK258
    refine TV rfl rfl rfl (Val.indexAddr Try.underlying44 fsz9 rfl hA254 rfl hi255 hj256) ?_
    refine TV rfl rfl rfl (Val.loadS agg9 rfl (hcl257 0 _ rfl)) ?_
    refine TV rfl rfl rfl (Val.assign rfl) ?_
    refine TL.nil ?_
    refine TQ.then_ ?_
    refine TC.seq ?_
    refine TC.region ?_
    refine TV rfl rfl rfl (Val.move rfl) ?_
    refine TV rfl rfl rfl (Val.neT rfl rfl) ?_
    refine TL.nil ?_
    refine TQ.then_ ?_
    obtain ⟨j269,hj269,h⟩:=jn_no h
    refine TC.tail (fun a W=>∃ (l265:(List ByteArray)) (A266:Option Addr) (c267:Nat),j269 l265=some o173∧Fr 25 a [(0,VP b1 0),(6,.slice A5 a1.length c6),(7,VI (a1.length:Int)),(8,VI x114)]∧Own G (Blk b1 [.slice A266 l265.length c267] 46::Row Kd.string 9 (.slice A266 l265.length c267) l265::L) W) ?_ ?_
    ·
     rintro a W ⟨l265,A266,c267,h,hF,hO⟩
     rw [hj269] at h
     refine TQ.use ?_ hF hO
     clear hF hO
     refine TQ.inB ?_
     refine TQ.then_ ?_
     refine TC.region ?_
     refine TV rfl rfl rfl (Val.cmp rfl rfl run_add) ?_
     refine TV rfl rfl rfl (Val.move rfl) ?_
     refine TL.nil ?_
     exact fun a W hF hO=>⟨IntKind.i64.wrap (x114 + 1),l265,A266,c267,h,hF.sub ⟨rfl,rfl,rfl,rfl,trivial⟩,hO.selT (Ls:=[Blk b1 [.slice A266 l265.length c267] 46,Row Kd.string 9 (.slice A266 l265.length c267) l265]) [0,1] 2 rfl rfl rfl⟩
    ·
     refine TC.cond_b rfl h (fun hc270 h=>?_) (fun hc270 h=>?_)
     ·
      refine TC.region ?_
      refine TV rfl rfl rfl (Val.move rfl) ?_
      refine TV rfl rfl rfl (Val.move rfl) ?_
      refine TV rfl rfl rfl (Val.nilCheck rfl) ?_
      refine TV rfl rfl rfl (Val.fieldAddrB Try.underlying46 rfl fsz44 rfl rfl rfl) ?_
      refine TV rfl rfl rfl (Val.loadB 0 agg44 rfl rfl rfl) ?_
      refine TV rfl rfl rfl (Val.move rfl) ?_
      refine TL.cons (TL.buildSlice (xs:=[.tmp 19]) (vs:=[.string y251]) (cs:=[.string y251]) rfl rfl Try.underlying44 zs9 rfl rfl rfl rfl rfl rfl rfl rfl (fun b271=>?_))
      refine TK.new (El.of (k:=Kd.string) (xv:=y251) (cs:=[.string y251]) (fun W B=>rfl)) ?_
      refine TK.sel (Ls:=[Row Kd.string 9 (.slice A116 l115.length c117) l115,El Kd.string y251 [.string y251],Blk b271 [.string y251] 9,Blk b1 [.slice A116 l115.length c117] 46]) [3,0,1,2] 4 rfl rfl rfl ?_
      obtain ⟨ha272,h⟩:=ite_no h
      refine TL.cons (TL.append (xs:=l115) Kd.string rfl rfl Try.underlying44 inf9 rfl (Nat.le_of_ble_eq_true rfl) (Nat.le_of_ble_eq_true rfl) rfl rfl (by omega) (fun A273 c274=>?_))
      refine TV rfl rfl rfl (Val.nilCheck rfl) ?_
      refine TV rfl rfl rfl (Val.fieldAddrB Try.underlying46 rfl fsz44 rfl rfl rfl) ?_
      refine TL.cons (TL.store 1 (ds:=[.slice A273 (l115 ++ [y251]).length c274]) (cs':=[.slice A273 (l115 ++ [y251]).length c274]) (L':=(Row Kd.string 9 (.slice A273 (l115 ++ [y251]).length c274) (l115 ++ [y251])::Blk b1 [.slice A273 (l115 ++ [y251]).length c274] 46::L)) rfl fsz44 rfl rfl rfl rfl rfl (Nat.le_of_ble_eq_true rfl) rfl rfl ?_)
      refine TL.nil ?_
      exact fun a W hF hO=>⟨(l115 ++ [y251]),A273,c274,h,hF.sub ⟨rfl,rfl,rfl,rfl,trivial⟩,hO.selT (Ls:=[Blk b1 [.slice A273 (l115 ++ [y251]).length c274] 46,Row Kd.string 9 (.slice A273 (l115 ++ [y251]).length c274) (l115 ++ [y251])]) [1,0] 2 rfl rfl rfl⟩
     ·
      refine TC.skip ?_
      exact fun a W hF hO=>⟨l115,A116,c117,h,hF.sub ⟨rfl,rfl,rfl,rfl,trivial⟩,hO.selT (Ls:=[Blk b1 [.slice A116 l115.length c117] 46,Row Kd.string 9 (.slice A116 l115.length c117) l115]) [0,1] 2 rfl rfl rfl⟩
   ·
    refine TC.exit ?_
    refine TQ.thenX ?_
    refine TQ.thenX ?_
    refine TQ.inBX ?_
    exact fun a W hF hO=>⟨l115,A116,c117,Option.some.inj h,hF.sub trivial,hO.selT (Ls:=[Blk b1 [.slice A116 l115.length c117] 46,Row Kd.string 9 (.slice A116 l115.length c117) l115]) [0,1] 2 rfl rfl rfl⟩
end Go.Proofs.Ythlhmoocgjddpaa.Sy
